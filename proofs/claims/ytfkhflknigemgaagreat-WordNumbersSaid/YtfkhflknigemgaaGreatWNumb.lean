/-
  DERIVED. THE WALKS over word's Narrow, Of, Plain, Ends, Less and over the reference's.
-/
import Derived.Test.YtfkhflknigemgaaGreatWRefs
import Derived.Deep.RegionHeld3
namespace Go.Proofs.YtfkhflknigemgaaGreat
open Go.RowKit
set_option maxRecDepth 100000

def narV (kd b : Int) : Int := if isW kd = true then cutW kd b else 0
def narE (kd : Int) : Int := if isW kd = true then 0 else 5
theorem isW_iff (kd : Int) : isW kd = true ↔ (1 ≤ kd ∧ kd ≤ 6) := by simp [isW]
theorem isW_no (kd : Int) (h : ¬ (1 ≤ kd ∧ kd ≤ 6)) : isW kd = false := by simp [isW]; omega

theorem wnarrow (kd b : Int) (w : World) (hb : 0 ≤ b ∧ b < 18446744073709551616) : Calls Tryz.prog 15 #[.int .i64 kd, .int .u64 b] w fun e w' => e = .returned (.tuple #[.int .u64 (narV kd b), .int .i64 (narE kd)]) ∧ w = w' := by
  by_cases hk : 1 ≤ kd ∧ kd ≤ 6
  · have E := Lib.hid (show narV kd b = cutW kd b ∧ narE kd = 0 by simp [narV, narE, (isW_iff kd).2 hk])
    have hk' : decide (1 ≤ kd ∧ kd ≤ 6) = true := by simpa using hk
    go_enter Tryz.func15, Tryz.ntmps15
    go_wp2_with (first | (go_at_call 31; refine (isKind_any _ _).mono ?_; rintro e w1 ⟨rfl, rfl⟩) | (go_at_call 32; refine (narrow_any kd b _ hk hb).mono ?_; rintro e w2 ⟨rfl, rfl⟩))
    refine bodyPost_ret (v := .tuple #[.int .u64 (cutW kd b), .int .i64 0]) (by simp [results, Tryz.results15, go_sem]) rfl ⟨?_, rfl⟩
    rw [E.out.1, E.out.2]
  · have E := Lib.hid (show narV kd b = 0 ∧ narE kd = 5 by simp [narV, narE, isW_no kd hk])
    have hk' : decide (1 ≤ kd ∧ kd ≤ 6) = false := by simpa using hk
    clear hk
    go_enter Tryz.func15, Tryz.ntmps15
    go_wp2_with (go_at_call 31; refine (isKind_any _ _).mono ?_; rintro e w1 ⟨rfl, rfl⟩)
    refine bodyPost_ret (v := .tuple #[.int .u64 0, .int .i64 5]) (by simp [results, Tryz.results15, go_sem]) rfl ⟨?_, rfl⟩
    rw [E.out.1, E.out.2]

theorem rnarrow (kd b : Int) (w : World) (hb : 0 ≤ b ∧ b < 18446744073709551616) : Calls Tryz.prog 14 #[.int .i64 kd, .int .u64 b] w fun e w' => e = .returned (.tuple #[.int .u64 (narV kd b), .int .i64 (narE kd)]) ∧ w = w' := by
  by_cases hk : isW kd = true
  · have E := Lib.hid (show narV kd b = cutW kd b ∧ narE kd = 0 by simp [narV, narE, hk])
    go_enter Tryz.func14, Tryz.ntmps14
    go_wp2_with (first | (go_at_call 30; refine (is_any _ _).mono ?_; rintro e w1 ⟨rfl, rfl⟩) | (go_at_call 25; refine (cut_any kd b _ hb).mono ?_; rintro e w2 ⟨rfl, rfl⟩))
    refine bodyPost_ret (v := .tuple #[.int .u64 (cutW kd b), .int .i64 0]) (by simp [results, Tryz.results14, go_sem]) rfl ⟨?_, rfl⟩
    rw [E.out.1, E.out.2]
  · have hk' : isW kd = false := by simpa using hk
    have E := Lib.hid (show narV kd b = 0 ∧ narE kd = 5 by simp [narV, narE, hk'])
    clear hk
    go_enter Tryz.func14, Tryz.ntmps14
    go_wp2_with (go_at_call 30; refine (is_any _ _).mono ?_; rintro e w1 ⟨rfl, rfl⟩)
    refine bodyPost_ret (v := .tuple #[.int .u64 0, .int .i64 5]) (by simp [results, Tryz.results14, go_sem]) rfl ⟨?_, rfl⟩
    rw [E.out.1, E.out.2]

theorem wof (kd n : Int) (w : World) : Calls Tryz.prog 17 #[.int .i64 kd, .int .i64 n] w fun e w' => e = .returned (.tuple #[.int .u64 (narV kd (n % 18446744073709551616)), .int .i64 (narE kd)]) ∧ w = w' := by
  have H := Lib.hid (fun w => wnarrow kd (n % 18446744073709551616) w (by omega))
  go_enter Tryz.func17, Tryz.ntmps17
  go_wp2_with fail
  refine (H.out _).mono ?_
  rintro e w1 ⟨rfl, rfl⟩
  go_wp2_with fail
  refine bodyPost_ret (v := .tuple #[.int .u64 (narV kd (n % 18446744073709551616)), .int .i64 (narE kd)]) (by simp [results, Tryz.results17, go_sem]) rfl ⟨rfl, rfl⟩
theorem rof (kd n : Int) (w : World) : Calls Tryz.prog 16 #[.int .i64 kd, .int .i64 n] w fun e w' => e = .returned (.tuple #[.int .u64 (narV kd (n % 18446744073709551616)), .int .i64 (narE kd)]) ∧ w = w' := by
  have H := Lib.hid (fun w => rnarrow kd (n % 18446744073709551616) w (by omega))
  go_enter Tryz.func16, Tryz.ntmps16
  go_wp2_with fail
  refine (H.out _).mono ?_
  rintro e w1 ⟨rfl, rfl⟩
  go_wp2_with fail
  refine bodyPost_ret (v := .tuple #[.int .u64 (narV kd (n % 18446744073709551616)), .int .i64 (narE kd)]) (by simp [results, Tryz.results16, go_sem]) rfl ⟨rfl, rfl⟩

/-- the least and the greatest; the code. -/
def loW (kd : Int) : Int := if kd = 1 then 2147483648 else if kd = 2 then 9223372036854775808 else 0
def hiW (kd : Int) : Int := if kd = 1 then 2147483647 else if kd = 2 then 9223372036854775807 else if kd = 3 then 4294967295 else if kd = 4 ∨ kd = 6 then 18446744073709551615 else if kd = 5 then 1 else 0
def erW (kd : Int) : Int := if kd = 1 ∨ kd = 2 ∨ kd = 3 ∨ kd = 4 ∨ kd = 5 ∨ kd = 6 then 0 else 5
abbrev endsV (kd : Int) : Array Value := #[.int .u64 (loW kd), .int .u64 (hiW kd), .int .i64 (erW kd)]

set_option maxHeartbeats 400000 in
theorem wends (kd : Int) (w : World) : Calls Tryz.prog 21 #[.int .i64 kd] w fun e w' => e = .returned (.tuple (endsV kd)) ∧ w = w' := by
  go_enter Tryz.func21, Tryz.ntmps21
  go_wp2_with fail
  all_goals
    (refine bodyPost_ret (v := .tuple (endsV kd)) ?_ rfl ⟨rfl, rfl⟩
     simp_all [results, Tryz.results21, go_sem, loW, hiW, erW])
set_option maxHeartbeats 400000 in
theorem rends (kd : Int) (w : World) : Calls Tryz.prog 20 #[.int .i64 kd] w fun e w' => e = .returned (.tuple (endsV kd)) ∧ w = w' := by
  go_enter Tryz.func20, Tryz.ntmps20
  go_wp2_with fail
  all_goals
    (refine bodyPost_ret (v := .tuple (endsV kd)) ?_ rfl ⟨rfl, rfl⟩
     simp_all [results, Tryz.results20, go_sem, loW, hiW, erW])

/-- the number of what a signed word holds. -/
def sgn (kd v : Int) : Int := if kd = 1 then wrap32 v else wrap64 v
theorem signed_any (kd v : Int) (w : World) : Calls Tryz.prog 34 #[.int .i64 kd, .int .u64 v] w fun e w' => e = .returned (.int .i64 (sgn kd v)) ∧ w = w' := by
  by_cases h1 : kd = 1
  · have E := Lib.hid (show wrap64 (wrap32 v) = sgn kd v by rw [sgn, if_pos h1]; unfold wrap64 wrap32; omega)
    subst h1
    go_enter Tryz.func34, Tryz.ntmps34
    go_wp2
    go_ret
    exact ⟨by rw [← E.out]; rfl, rfl⟩
  · have E := Lib.hid (show wrap64 v = sgn kd v by rw [sgn, if_neg h1])
    have h1' : (kd == 1) = false := by simpa using h1
    clear h1
    go_enter Tryz.func34, Tryz.ntmps34
    go_wp2
    go_ret
    exact ⟨by rw [← E.out]; rfl, rfl⟩

def bel (kd v : Int) : Bool := (kd == 1 && decide (2147483648 ≤ v)) || (kd == 2 && decide (9223372036854775808 ≤ v))
theorem below_any (kd v : Int) (w : World) : Calls Tryz.prog 33 #[.int .i64 kd, .int .u64 v] w fun e w' => e = .returned (.bool (bel kd v)) ∧ w = w' := by
  go_enter Tryz.func33, Tryz.ntmps33
  go_wp2_with fail
  all_goals
    go_ret
    refine ⟨?_, rfl⟩
    first | (simp [bel]; omega) | (simp [bel, *]; done) | simp_all [bel]

end Go.Proofs.YtfkhflknigemgaaGreat
