/-
  DERIVED. THE WALKS over word's Plain and Less and over the reference's.
-/
import Derived.Test.YtfkhflknigemgaaGreatWNumb
namespace Go.Proofs.YtfkhflknigemgaaGreat
open Go.RowKit
set_option maxRecDepth 100000

/-- the plain number, the code. -/
def plV (kd b : Int) : Int := if isW kd = false then 0 else if kd = 1 ∨ kd = 2 then sgn kd (cutW kd b) else if 9223372036854775807 < cutW kd b then 0 else cutW kd b
def plE (kd b : Int) : Int := if isW kd = false then 5 else if kd = 1 ∨ kd = 2 then 0 else if 9223372036854775807 < cutW kd b then 1 else 0
theorem nar_bad (kd b : Int) (h : isW kd = false) : narV kd b = 0 ∧ narE kd = 5 ∧ plV kd b = 0 ∧ plE kd b = 5 := by simp [narV, narE, plV, plE, h]
theorem nar_ok (kd b : Int) (h : isW kd = true) : narV kd b = cutW kd b ∧ narE kd = 0 := by simp [narV, narE, h]

theorem wplain (kd b : Int) (w : World) (hb : 0 ≤ b ∧ b < 18446744073709551616) : Calls Tryz.prog 19 #[.int .i64 kd, .int .u64 b] w fun e w' => e = .returned (.tuple #[.int .i64 (plV kd b), .int .i64 (plE kd b)]) ∧ w = w' := by
  by_cases hk : isW kd = true
  · have E := Lib.hid (nar_ok kd b hk)
    have hkk := (isW_iff kd).1 hk
    by_cases h12 : kd = 1 ∨ kd = 2
    · have F := Lib.hid (show plV kd b = sgn kd (cutW kd b) ∧ plE kd b = 0 by simp [plV, plE, hk, h12])
      have h1 : (kd == 1 || kd == 2) = true := by simpa using h12
      by_cases h1e : kd = 1
      · subst h1e
        go_enter Tryz.func19, Tryz.ntmps19
        go_wp2_with fail
        refine (wnarrow 1 b _ hb).mono ?_
        rintro e w1 ⟨rfl, rfl⟩
        rw [E.out.1, E.out.2]
        go_wp2_with (go_at_call 34; refine (signed_any _ _ _).mono ?_; rintro e w2 ⟨rfl, rfl⟩)
        refine bodyPost_ret (v := .tuple #[.int .i64 (sgn 1 (cutW 1 b)), .int .i64 0]) (by simp [results, Tryz.results19, go_sem]) rfl ⟨?_, rfl⟩
        rw [F.out.1, F.out.2]
      · obtain rfl : kd = 2 := by omega
        go_enter Tryz.func19, Tryz.ntmps19
        go_wp2_with fail
        refine (wnarrow 2 b _ hb).mono ?_
        rintro e w1 ⟨rfl, rfl⟩
        rw [E.out.1, E.out.2]
        go_wp2_with (go_at_call 34; refine (signed_any _ _ _).mono ?_; rintro e w2 ⟨rfl, rfl⟩)
        refine bodyPost_ret (v := .tuple #[.int .i64 (sgn 2 (cutW 2 b)), .int .i64 0]) (by simp [results, Tryz.results19, go_sem]) rfl ⟨?_, rfl⟩
        rw [F.out.1, F.out.2]
    · have h1 : (kd == 1) = false := by simp; omega
      have h2 : (kd == 2) = false := by simp; omega
      have hc := canon_lt kd (cutW kd b) (canon_cut kd b hkk hb)
      by_cases hm : 9223372036854775807 < cutW kd b
      · have F := Lib.hid (show plV kd b = 0 ∧ plE kd b = 1 by simp [plV, plE, hk, h12, hm])
        clear h12 hc
        go_enter Tryz.func19, Tryz.ntmps19
        go_wp2_with fail
        refine (wnarrow kd b _ hb).mono ?_
        rintro e w1 ⟨rfl, rfl⟩
        rw [E.out.1, E.out.2]
        go_wp2_with fail
        refine bodyPost_ret (v := .tuple #[.int .i64 0, .int .i64 1]) (by simp [results, Tryz.results19, go_sem]) rfl ⟨?_, rfl⟩
        rw [F.out.1, F.out.2]
      · have hm' : decide (9223372036854775807 < cutW kd b) = false := by simpa using hm
        have F := Lib.hid (show plV kd b = wrap64 (cutW kd b) ∧ plE kd b = 0 by simp [plV, plE, hk, h12, hm]; unfold wrap64; omega)
        clear h12 hc hm
        go_enter Tryz.func19, Tryz.ntmps19
        go_wp2_with fail
        refine (wnarrow kd b _ hb).mono ?_
        rintro e w1 ⟨rfl, rfl⟩
        rw [E.out.1, E.out.2]
        go_wp2_with fail
        refine bodyPost_ret (v := .tuple #[.int .i64 (wrap64 (cutW kd b)), .int .i64 0]) (by simp [results, Tryz.results19, go_sem]) rfl ⟨?_, rfl⟩
        rw [F.out.1, F.out.2]
  · have hk' : isW kd = false := by simpa using hk
    have E := Lib.hid (nar_bad kd b hk')
    clear hk hk'
    go_enter Tryz.func19, Tryz.ntmps19
    go_wp2_with fail
    refine (wnarrow kd b _ hb).mono ?_
    rintro e w1 ⟨rfl, rfl⟩
    rw [E.out.1, E.out.2.1]
    go_wp2_with fail
    refine bodyPost_ret (v := .tuple #[.int .i64 0, .int .i64 5]) (by simp [results, Tryz.results19, go_sem]) rfl ⟨?_, rfl⟩
    rw [E.out.2.2.1, E.out.2.2.2]

theorem below_lit (kd v : Int) (b : Bool) (h : bel kd v = b) (w : World) : Calls Tryz.prog 33 #[.int .i64 kd, .int .u64 v] w fun e w' => e = .returned (.bool b) ∧ w = w' := by
  subst h
  exact below_any kd v w

theorem p_not (c : Int) (h : 0 ≤ c ∧ c < 18446744073709551616) : Go.bits .xor .u64 IntKind.u64.max c = 18446744073709551615 - c := by
  show IntKind.u64.wrap ((BitVec.ofInt 64 IntKind.u64.max ^^^ BitVec.ofInt 64 c).toNat : Int) = _
  have e : BitVec.ofInt 64 IntKind.u64.max = BitVec.allOnes 64 := by decide
  have e1 : BitVec.allOnes 64 ^^^ BitVec.ofInt 64 c = ~~~ (BitVec.ofInt 64 c) := by rw [BitVec.xor_comm]; exact BitVec.xor_allOnes
  rw [e, e1, BitVec.toNat_not, BitVec.toNat_ofInt, wrap_u64]
  have e2 : (c % (2 ^ 64 : Nat)).toNat = c.toNat := by simp; omega
  rw [e2]
  omega

theorem cut_lt (b : Int) : 0 ≤ cutW 1 b ∧ cutW 1 b < 4294967296 := by
  rw [show cutW 1 b = b % 4294967296 by simp [cutW]]; omega

set_option maxHeartbeats 1000000 in
theorem rplain (kd b : Int) (w : World) (hb : 0 ≤ b ∧ b < 18446744073709551616) : Calls Tryz.prog 18 #[.int .i64 kd, .int .u64 b] w fun e w' => e = .returned (.tuple #[.int .i64 (plV kd b), .int .i64 (plE kd b)]) ∧ w = w' := by
  by_cases hk : isW kd = true
  · have Hk := Lib.hid hk
    have hkk := (isW_iff kd).1 hk
    have hc0 := canon_lt kd (cutW kd b) (canon_cut kd b hkk hb)
    by_cases h1 : kd = 1
    · subst h1
      have Hc := Lib.hid (cut_lt b)
      by_cases hl : 2147483648 ≤ cutW 1 b
      · have Hbel := Lib.hid (show bel 1 (cutW 1 b) = true by simp [bel, hl])
        have F := Lib.hid (show plV 1 b = wrap32 (cutW 1 b) ∧ plE 1 b = 0 by simp [plV, plE, hk, sgn])
        have Hl := Lib.hid hl
        clear hk hl hc0 hkk
        go_enter Tryz.func18, Tryz.ntmps18
        go_wp2_with fail
        refine (is_any _ _).mono ?_
        rintro e w1 ⟨rfl, rfl⟩
        rw [Hk.out]
        go_wp2_with fail
        refine (cut_any 1 b _ hb).mono ?_
        rintro e w2 ⟨rfl, rfl⟩
        go_wp2_with (first | (go_at_call 33; refine (below_lit _ _ true Hbel.out _).mono ?_; rintro e w3 ⟨rfl, rfl⟩))
        refine bodyPost_ret (v := .tuple #[.int .i64 (plV 1 b), .int .i64 (plE 1 b)]) ?_ rfl ⟨rfl, rfl⟩
        rw [F.out.1, F.out.2]
        have hc := Hc.out
        have hl := Hl.out
        simp [results, Tryz.results18, go_sem]
        first | done | (unfold wrap64 wrap32; omega) | (unfold wrap64; omega) | (rw [p_not _ hc]; unfold wrap64; omega)

      · have Hbel := Lib.hid (show bel 1 (cutW 1 b) = false by simp [bel]; omega)
        have F := Lib.hid (show plV 1 b = wrap32 (cutW 1 b) ∧ plE 1 b = 0 by simp [plV, plE, hk, sgn])
        have Hl := Lib.hid hl
        have h63 : decide (9223372036854775808 ≤ cutW 1 b) = false := by have := Hc.out; simp; omega
        clear hk hl hc0 hkk
        go_enter Tryz.func18, Tryz.ntmps18
        go_wp2_with fail
        refine (is_any _ _).mono ?_
        rintro e w1 ⟨rfl, rfl⟩
        rw [Hk.out]
        go_wp2_with fail
        refine (cut_any 1 b _ hb).mono ?_
        rintro e w2 ⟨rfl, rfl⟩
        go_wp2_with (first | (go_at_call 33; refine (below_lit _ _ false Hbel.out _).mono ?_; rintro e w3 ⟨rfl, rfl⟩))
        refine bodyPost_ret (v := .tuple #[.int .i64 (plV 1 b), .int .i64 (plE 1 b)]) ?_ rfl ⟨rfl, rfl⟩
        rw [F.out.1, F.out.2]
        have hc := Hc.out
        have hl := Hl.out
        simp [results, Tryz.results18, go_sem]
        first | done | (unfold wrap64 wrap32; omega) | (unfold wrap64; omega) | (rw [p_not _ hc]; unfold wrap64; omega)

    · by_cases h2 : kd = 2
      · subst h2
        have Hc := Lib.hid hc0
        by_cases hl : 9223372036854775808 ≤ cutW 2 b
        · have Hbel := Lib.hid (show bel 2 (cutW 2 b) = true by simp [bel, hl])
          have F := Lib.hid (show plV 2 b = wrap64 (cutW 2 b) ∧ plE 2 b = 0 by simp [plV, plE, hk, sgn])
          have Hl := Lib.hid hl
          clear hk hl hc0 hkk h1
          go_enter Tryz.func18, Tryz.ntmps18
          go_wp2_with fail
          refine (is_any _ _).mono ?_
          rintro e w1 ⟨rfl, rfl⟩
          rw [Hk.out]
          go_wp2_with fail
          refine (cut_any 2 b _ hb).mono ?_
          rintro e w2 ⟨rfl, rfl⟩
          go_wp2_with (first | (go_at_call 33; refine (below_lit _ _ true Hbel.out _).mono ?_; rintro e w3 ⟨rfl, rfl⟩))
          refine bodyPost_ret (v := .tuple #[.int .i64 (plV 2 b), .int .i64 (plE 2 b)]) ?_ rfl ⟨rfl, rfl⟩
          rw [F.out.1, F.out.2]
          have hc := Hc.out
          have hl := Hl.out
          simp [results, Tryz.results18, go_sem]
          first | done | (unfold wrap64 wrap32; omega) | (unfold wrap64; omega) | (rw [p_not _ hc]; unfold wrap64; omega)

        · have Hbel := Lib.hid (show bel 2 (cutW 2 b) = false by simp [bel]; omega)
          have F := Lib.hid (show plV 2 b = wrap64 (cutW 2 b) ∧ plE 2 b = 0 by simp [plV, plE, hk, sgn])
          have Hl := Lib.hid hl
          have h63 : decide (9223372036854775808 ≤ cutW 2 b) = false := by simpa using hl
          clear hk hl hc0 hkk h1
          go_enter Tryz.func18, Tryz.ntmps18
          go_wp2_with fail
          refine (is_any _ _).mono ?_
          rintro e w1 ⟨rfl, rfl⟩
          rw [Hk.out]
          go_wp2_with fail
          refine (cut_any 2 b _ hb).mono ?_
          rintro e w2 ⟨rfl, rfl⟩
          go_wp2_with (first | (go_at_call 33; refine (below_lit _ _ false Hbel.out _).mono ?_; rintro e w3 ⟨rfl, rfl⟩))
          refine bodyPost_ret (v := .tuple #[.int .i64 (plV 2 b), .int .i64 (plE 2 b)]) ?_ rfl ⟨rfl, rfl⟩
          rw [F.out.1, F.out.2]
          have hc := Hc.out
          have hl := Hl.out
          simp [results, Tryz.results18, go_sem]
          first | done | (unfold wrap64 wrap32; omega) | (unfold wrap64; omega) | (rw [p_not _ hc]; unfold wrap64; omega)

      · have h1' : (kd == 1) = false := by simpa using h1
        have h2' : (kd == 2) = false := by simpa using h2
        have Hc := Lib.hid hc0
        have Hbel := Lib.hid (show bel kd (cutW kd b) = false by simp [bel, h1', h2'])
        have h12 : ¬ (kd = 1 ∨ kd = 2) := by omega
        by_cases hm : 9223372036854775807 < cutW kd b
        · have F := Lib.hid (show plV kd b = 0 ∧ plE kd b = 1 by simp [plV, plE, hk, h12, hm])
          have h63 : decide (9223372036854775808 ≤ cutW kd b) = true := by simp; omega
          have h63' : 9223372036854775808 ≤ cutW kd b := by omega
          clear hk hm hc0 hkk h1 h2 h12
          go_enter Tryz.func18, Tryz.ntmps18
          go_wp2_with fail
          refine (is_any _ _).mono ?_
          rintro e w1 ⟨rfl, rfl⟩
          rw [Hk.out]
          go_wp2_with fail
          refine (cut_any kd b _ hb).mono ?_
          rintro e w2 ⟨rfl, rfl⟩
          go_wp2_with (first | (go_at_call 33; refine (below_lit _ _ false Hbel.out _).mono ?_; rintro e w3 ⟨rfl, rfl⟩))
          refine bodyPost_ret (v := .tuple #[.int .i64 (plV kd b), .int .i64 (plE kd b)]) ?_ rfl ⟨rfl, rfl⟩
          rw [F.out.1, F.out.2]
          have hc := Hc.out
          simp [results, Tryz.results18, go_sem]
          first | done | (unfold wrap64 wrap32; omega) | (unfold wrap64; omega) | (rw [p_not _ hc]; unfold wrap64; omega)

        · have F := Lib.hid (show plV kd b = cutW kd b ∧ plE kd b = 0 by simp [plV, plE, hk, h12, hm])
          have h63 : decide (9223372036854775808 ≤ cutW kd b) = false := by simp; omega
          have Hm := Lib.hid hm
          clear hk hm hc0 hkk h1 h2 h12
          go_enter Tryz.func18, Tryz.ntmps18
          go_wp2_with fail
          refine (is_any _ _).mono ?_
          rintro e w1 ⟨rfl, rfl⟩
          rw [Hk.out]
          go_wp2_with fail
          refine (cut_any kd b _ hb).mono ?_
          rintro e w2 ⟨rfl, rfl⟩
          go_wp2_with (first | (go_at_call 33; refine (below_lit _ _ false Hbel.out _).mono ?_; rintro e w3 ⟨rfl, rfl⟩))
          refine bodyPost_ret (v := .tuple #[.int .i64 (plV kd b), .int .i64 (plE kd b)]) ?_ rfl ⟨rfl, rfl⟩
          rw [F.out.1, F.out.2]
          have hc := Hc.out
          have hm := Hm.out
          simp [results, Tryz.results18, go_sem]
          first | done | (unfold wrap64 wrap32; omega) | (unfold wrap64; omega) | (rw [p_not _ hc]; unfold wrap64; omega)

  · have hk' : isW kd = false := by simpa using hk
    have E := Lib.hid (nar_bad kd b hk')
    clear hk
    go_enter Tryz.func18, Tryz.ntmps18
    go_wp2_with (go_at_call 30; refine (is_any _ _).mono ?_; rintro e w1 ⟨rfl, rfl⟩)
    refine bodyPost_ret (v := .tuple #[.int .i64 0, .int .i64 5]) (by simp [results, Tryz.results18, go_sem]) rfl ⟨?_, rfl⟩
    rw [E.out.2.2.1, E.out.2.2.2]

/-! ### Less -/
def ltW (kd a b : Int) : Bool := if kd = 1 ∨ kd = 2 then decide (sgn kd a < sgn kd b) else decide (a < b)
def lesV (kd a b : Int) : Bool := isW kd && ltW kd (cutW kd a) (cutW kd b)

theorem wless_in (kd a b : Int) (w : World) : Calls Tryz.prog 36 #[.int .i64 kd, .int .u64 a, .int .u64 b] w fun e w' => e = .returned (.bool (ltW kd a b)) ∧ w = w' := by
  by_cases h12 : kd = 1 ∨ kd = 2
  · have E := Lib.hid (show ltW kd a b = decide (sgn kd a < sgn kd b) by rw [ltW, if_pos h12])
    rcases h12 with rfl | rfl
    · go_enter Tryz.func36, Tryz.ntmps36
      go_wp2_with (go_at_call 34; refine (signed_any _ _ _).mono ?_; rintro e w1 ⟨rfl, rfl⟩)
      go_ret
      exact ⟨by rw [E.out]; rfl, rfl⟩
    · go_enter Tryz.func36, Tryz.ntmps36
      go_wp2_with (go_at_call 34; refine (signed_any _ _ _).mono ?_; rintro e w1 ⟨rfl, rfl⟩)
      go_ret
      exact ⟨by rw [E.out]; rfl, rfl⟩
  · have E := Lib.hid (show ltW kd a b = decide (a < b) by rw [ltW, if_neg h12])
    have h1 : (kd == 1) = false := by simp; omega
    have h2 : (kd == 2) = false := by simp; omega
    clear h12
    go_enter Tryz.func36, Tryz.ntmps36
    go_wp2
    go_ret
    exact ⟨by rw [E.out]; rfl, rfl⟩

theorem wless (kd a b : Int) (w : World) (ha : 0 ≤ a ∧ a < 18446744073709551616) (hb : 0 ≤ b ∧ b < 18446744073709551616) : Calls Tryz.prog 23 #[.int .i64 kd, .int .u64 a, .int .u64 b] w fun e w' => e = .returned (.tuple #[.bool (lesV kd a b), .int .i64 (narE kd)]) ∧ w = w' := by
  by_cases hk : 1 ≤ kd ∧ kd ≤ 6
  · have E := Lib.hid (show lesV kd a b = ltW kd (cutW kd a) (cutW kd b) ∧ narE kd = 0 by simp [lesV, narE, (isW_iff kd).2 hk])
    have hk' : decide (1 ≤ kd ∧ kd ≤ 6) = true := by simpa using hk
    go_enter Tryz.func23, Tryz.ntmps23
    go_wp2_with (first | (go_at_call 31; refine (isKind_any _ _).mono ?_; rintro e w1 ⟨rfl, rfl⟩) | (go_at_call 32; refine (narrow_any kd _ _ hk (by assumption)).mono ?_; rintro e w2 ⟨rfl, rfl⟩) | (go_at_call 36; refine (wless_in kd _ _ _).mono ?_; rintro e w2 ⟨rfl, rfl⟩))
    refine bodyPost_ret (v := .tuple #[.bool (ltW kd (cutW kd a) (cutW kd b)), .int .i64 0]) (by simp [results, Tryz.results23, go_sem]) rfl ⟨?_, rfl⟩
    rw [E.out.1, E.out.2]
  · have E := Lib.hid (show lesV kd a b = false ∧ narE kd = 5 by simp [lesV, narE, isW_no kd hk])
    have hk' : decide (1 ≤ kd ∧ kd ≤ 6) = false := by simpa using hk
    clear hk
    go_enter Tryz.func23, Tryz.ntmps23
    go_wp2_with (go_at_call 31; refine (isKind_any _ _).mono ?_; rintro e w1 ⟨rfl, rfl⟩)
    refine bodyPost_ret (v := .tuple #[.bool false, .int .i64 5]) (by simp [results, Tryz.results23, go_sem]) rfl ⟨?_, rfl⟩
    rw [E.out.1, E.out.2]

theorem under_eq (kd a b : Int) (ha : Canon kd a) (hb : Canon kd b) : ltW kd a b = if bel kd a = bel kd b then decide (a < b) else bel kd a := by
  unfold Canon at ha hb
  by_cases h1 : kd = 1
  · subst h1
    simp at ha hb
    have e : ltW 1 a b = decide (wrap32 a < wrap32 b) := by simp [ltW, sgn]
    have ea : bel 1 a = decide (2147483648 ≤ a) := by simp [bel]
    have eb : bel 1 b = decide (2147483648 ≤ b) := by simp [bel]
    rw [e, ea, eb]
    unfold wrap32
    by_cases h3 : 2147483648 ≤ a <;> by_cases h4 : 2147483648 ≤ b <;> simp [h3, h4] <;> omega
  · by_cases h2 : kd = 2
    · subst h2
      simp at ha hb
      have e : ltW 2 a b = decide (wrap64 a < wrap64 b) := by simp [ltW, sgn]
      have ea : bel 2 a = decide (9223372036854775808 ≤ a) := by simp [bel]
      have eb : bel 2 b = decide (9223372036854775808 ≤ b) := by simp [bel]
      rw [e, ea, eb]
      unfold wrap64
      by_cases h3 : 9223372036854775808 ≤ a <;> by_cases h4 : 9223372036854775808 ≤ b <;> simp [h3, h4] <;> omega
    · have ea : ∀ x, bel kd x = false := fun x => by simp [bel, h1, h2]
      rw [ea, ea, if_pos rfl, ltW, if_neg (by omega)]

theorem under_lit (kd a b : Int) (p q r : Bool) (hp : bel kd a = p) (hq : bel kd b = q) (w : World) (h : r = if p = q then decide (a < b) else p) : Calls Tryz.prog 35 #[.int .i64 kd, .int .u64 a, .int .u64 b] w fun e w' => e = .returned (.bool r) ∧ w = w' := by
  have A := Lib.hid hp
  have B := Lib.hid hq
  have H := Lib.hid h
  clear hp hq h
  cases p <;> cases q
  all_goals
    go_enter Tryz.func35, Tryz.ntmps35
    go_wp2_with (go_at_call 33; refine (below_lit kd _ _ (by first | exact A.out | exact B.out) _).mono ?_; rintro e w1 ⟨rfl, rfl⟩)
    go_ret
    exact ⟨by rw [H.out]; rfl, rfl⟩
theorem under_any (kd a b : Int) (w : World) (ha : Canon kd a) (hb : Canon kd b) : Calls Tryz.prog 35 #[.int .i64 kd, .int .u64 a, .int .u64 b] w fun e w' => e = .returned (.bool (ltW kd a b)) ∧ w = w' :=
  under_lit kd a b _ _ _ rfl rfl w (under_eq kd a b ha hb)

theorem rless (kd a b : Int) (w : World) (ha : 0 ≤ a ∧ a < 18446744073709551616) (hb : 0 ≤ b ∧ b < 18446744073709551616) : Calls Tryz.prog 22 #[.int .i64 kd, .int .u64 a, .int .u64 b] w fun e w' => e = .returned (.tuple #[.bool (lesV kd a b), .int .i64 (narE kd)]) ∧ w = w' := by
  by_cases hk : isW kd = true
  · have E := Lib.hid (show lesV kd a b = ltW kd (cutW kd a) (cutW kd b) ∧ narE kd = 0 by simp [lesV, narE, hk])
    have c1 := Lib.hid (canon_cut kd a ((isW_iff kd).1 hk) ha)
    have c2 := Lib.hid (canon_cut kd b ((isW_iff kd).1 hk) hb)
    go_enter Tryz.func22, Tryz.ntmps22
    go_wp2_with (first | (go_at_call 30; refine (is_any _ _).mono ?_; rintro e w1 ⟨rfl, rfl⟩) | (go_at_call 25; refine (cut_any kd _ _ (by assumption)).mono ?_; rintro e w2 ⟨rfl, rfl⟩) | (go_at_call 35; refine (under_any kd _ _ _ c1.out c2.out).mono ?_; rintro e w2 ⟨rfl, rfl⟩))
    refine bodyPost_ret (v := .tuple #[.bool (ltW kd (cutW kd a) (cutW kd b)), .int .i64 0]) (by simp [results, Tryz.results22, go_sem]) rfl ⟨?_, rfl⟩
    rw [E.out.1, E.out.2]
  · have hk' : isW kd = false := by simpa using hk
    have E := Lib.hid (show lesV kd a b = false ∧ narE kd = 5 by simp [lesV, narE, hk'])
    clear hk
    go_enter Tryz.func22, Tryz.ntmps22
    go_wp2_with (go_at_call 30; refine (is_any _ _).mono ?_; rintro e w1 ⟨rfl, rfl⟩)
    refine bodyPost_ret (v := .tuple #[.bool false, .int .i64 5]) (by simp [results, Tryz.results22, go_sem]) rfl ⟨?_, rfl⟩
    rw [E.out.1, E.out.2]

end Go.Proofs.YtfkhflknigemgaaGreat
