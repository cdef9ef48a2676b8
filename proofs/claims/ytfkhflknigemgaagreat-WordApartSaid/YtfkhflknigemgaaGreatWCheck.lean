/-
  DERIVED. THE WALK over word's check.
-/
import Derived.Test.YtfkhflknigemgaaGreatWPlain
namespace Go.Proofs.YtfkhflknigemgaaGreat
open Go.RowKit
set_option maxRecDepth 100000

set_option maxHeartbeats 1000000 in
theorem check_bl (a : Option Addr) (cap : Nat) (l : List A3) (w : World) (hn : ¬ 10000 < l.length) (hr : ActsW w a l) :
    Calls Tryz.prog 27 #[.int .i64 5, .slice a l.length cap] w fun e w' => e = .returned (.int .i64 (wErr 5 l)) ∧ Below w.heap.size w w' := by
  have Hr := Lib.hid hr
  clear hr
  have E := Lib.hid (show wErr 5 l = if 10000 < l.length then 2 else checkW 5 l by simp [wErr, isW])
  have hk' : decide ((1 : Int) ≤ 5 ∧ (5 : Int) ≤ 6) = true := by simp
  have hn' : decide ((10000 : Int) < (l.length : Int)) = false := by simp; omega
  go_enter Tryz.func27, Tryz.ntmps27
  go_wp2_with (go_at_call 31; refine (isKind_any _ _).mono ?_; rintro e w1 ⟨rfl, rfl⟩)
  go_loopw [15] (fun i wr => ∃ j : Nat, j ≤ l.length ∧ i = .int .i64 j ∧ Below w.heap.size w wr ∧ Hid (checkW 5 (l.drop j) = checkW 5 l)) (fun i _ => l.length - (intOf i).toNat)
  case atStart => exact ⟨0, Nat.zero_le _, rfl, Below.refl _ _, rfl⟩
  case round =>
    obtain ⟨j, hj, rfl, hb, hspec⟩ := hrel
    by_cases hlt : j < l.length
    · obtain ⟨b, off, rfl, h1, h2, h3⟩ := (Hr.out.below hb) j hlt
      have Hs := Lib.hid ((checkW_cons 5 l j hlt).symm.trans hspec.out)
      have Hb := Lib.hid hb
      clear hspec hb
      go_wp2_with fail
      all_goals first
        | (go_ret
           refine ⟨?_, Hb.out.alloc Hb.out.size _⟩
           have hs := Hs.out
           rename_i hq
           (try simp only [beq_iff_eq] at hq)
           rw [if_pos (by simp [canW]; omega)] at hs
           rw [E.out, if_neg hn, ← hs]; rfl)
        | (refine ⟨⟨j + 1, by omega, by go_num, Hb.out.alloc Hb.out.size _, ?_⟩, by simp [intOf]; omega⟩
           have hs := Hs.out
           rw [if_neg (by simp [canW]; omega)] at hs
           exact hs)
        | (go_roundw
           case rel =>
             refine ⟨j + 1, by omega, by go_num, Hb.out.alloc Hb.out.size _, ?_⟩
             have hs := Hs.out
             rw [if_neg (by simp [canW]; omega)] at hs
             exact hs
           case measure => simp [intOf]; omega)
    · go_wp2
      go_ret
      have he : l.drop j = [] := List.drop_eq_nil_of_le (by omega)
      have hs := hspec.out
      rw [he] at hs
      exact ⟨by rw [E.out, if_neg hn, ← hs]; rfl, hb⟩

set_option maxHeartbeats 1000000 in
theorem check_num (kd : Int) (hk : 1 ≤ kd ∧ kd ≤ 6) (h5 : kd ≠ 5) (a : Option Addr) (cap : Nat) (l : List A3) (w : World) (hn : ¬ 10000 < l.length) (hr : ActsW w a l) :
    Calls Tryz.prog 27 #[.int .i64 kd, .slice a l.length cap] w fun e w' => e = .returned (.int .i64 (wErr kd l)) ∧ Below w.heap.size w w' := by
  have Hr := Lib.hid hr
  clear hr
  have E := Lib.hid (show wErr kd l = if 10000 < l.length then 2 else checkW kd l by simp [wErr, isW, hk])
  have hk' : decide (1 ≤ kd ∧ kd ≤ 6) = true := by simp [hk]
  have h5' : (kd == 5) = false := by simpa using h5
  have hn' : decide ((10000 : Int) < (l.length : Int)) = false := by simp; omega
  go_enter Tryz.func27, Tryz.ntmps27
  go_wp2_with (go_at_call 31; refine (isKind_any _ _).mono ?_; rintro e w1 ⟨rfl, rfl⟩)
  go_loopw [15] (fun i wr => ∃ j : Nat, j ≤ l.length ∧ i = .int .i64 j ∧ Below w.heap.size w wr ∧ Hid (checkW kd (l.drop j) = checkW kd l)) (fun i _ => l.length - (intOf i).toNat)
  case atStart => exact ⟨0, Nat.zero_le _, rfl, Below.refl _ _, rfl⟩
  case round =>
    obtain ⟨j, hj, rfl, hb, hspec⟩ := hrel
    by_cases hlt : j < l.length
    · obtain ⟨b, off, rfl, h1, h2, h3⟩ := (Hr.out.below hb) j hlt
      have Hs := Lib.hid ((checkW_cons kd l j hlt).symm.trans hspec.out)
      have Hb := Lib.hid hb
      clear hspec hb
      go_wp2_with fail
      all_goals first
        | (go_ret
           refine ⟨?_, Hb.out.alloc Hb.out.size _⟩
           have hs := Hs.out
           rename_i hq
           (try simp only [beq_iff_eq] at hq)
           rw [if_pos (by simp [canW]; omega)] at hs
           rw [E.out, if_neg hn, ← hs]; rfl)
        | (refine ⟨⟨j + 1, by omega, by go_num, Hb.out.alloc Hb.out.size _, ?_⟩, by simp [intOf]; omega⟩
           have hs := Hs.out
           rw [if_neg (by simp [canW]; omega)] at hs
           exact hs)
        | (go_roundw
           case rel =>
             refine ⟨j + 1, by omega, by go_num, Hb.out.alloc Hb.out.size _, ?_⟩
             have hs := Hs.out
             rw [if_neg (by simp [canW]; omega)] at hs
             exact hs
           case measure => simp [intOf]; omega)
    · go_wp2
      go_ret
      have he : l.drop j = [] := List.drop_eq_nil_of_le (by omega)
      have hs := hspec.out
      rw [he] at hs
      exact ⟨by rw [E.out, if_neg hn, ← hs]; rfl, hb⟩

set_option maxHeartbeats 1000000 in
theorem check_any (kd : Int) (a : Option Addr) (cap : Nat) (l : List A3) (w : World) (hr : ActsW w a l) :
    Calls Tryz.prog 27 #[.int .i64 kd, .slice a l.length cap] w fun e w' => e = .returned (.int .i64 (wErr kd l)) ∧ Below w.heap.size w w' := by
  have Hr := Lib.hid hr
  clear hr
  by_cases hk : 1 ≤ kd ∧ kd ≤ 6
  · have E := Lib.hid (show wErr kd l = if 10000 < l.length then 2 else checkW kd l by simp [wErr, isW, hk])
    have hk' : decide (1 ≤ kd ∧ kd ≤ 6) = true := by simp [hk]
    by_cases hn : 10000 < l.length
    · have hn' : (10000 : Int) < (l.length : Int) := by omega
      go_enter Tryz.func27, Tryz.ntmps27
      go_wp2_with (go_at_call 31; refine (isKind_any _ _).mono ?_; rintro e w1 ⟨rfl, rfl⟩)
      go_ret
      exact ⟨by rw [E.out, if_pos hn]; rfl, Below.refl _ _⟩
    · by_cases h5 : kd = 5
      · subst h5
        exact check_bl a cap l w hn Hr.out
      · exact check_num kd hk h5 a cap l w hn Hr.out
  · have E := Lib.hid (show wErr kd l = 5 by simp [wErr, isW, hk])
    have hk' : decide (1 ≤ kd ∧ kd ≤ 6) = false := by simpa using hk
    clear hk
    go_enter Tryz.func27, Tryz.ntmps27
    go_wp2_with (go_at_call 31; refine (isKind_any _ _).mono ?_; rintro e w1 ⟨rfl, rfl⟩)
    go_ret
    exact ⟨by rw [E.out]; rfl, Below.refl _ _⟩

end Go.Proofs.YtfkhflknigemgaaGreat
