/-
  DERIVED. THE WALK over larchlaw02's CellNums.
-/
import Derived.Test.YtjifoggfndicoaaRefn
import Derived.Test.YtjifoggfndicoaaTo
import Derived.Test.YtjifoggfndicoaaShut
namespace Go.Proofs.Ytjifoggfndicoaa
open Go.RowKit Go.ChangeShapes Go.WideShapes Go.Deep
set_option maxRecDepth 100000

theorem numsAns_len (cells : List Int) (acts : List A4) : (numsAns cells acts).length ≤ acts.length := by
  unfold numsAns; split
  · rw [(numTo_len cells acts).1]; exact Nat.le_refl _
  · simp
theorem numsEnd_len (cells : List Int) (acts : List A4) : (numsEnd cells acts).length ≤ cells.length := by
  unfold numsEnd; split
  · rw [(numTo_len cells acts).2]; exact Nat.le_refl _
  · simp
theorem numsKinds_len (cells : List Int) (acts : List A4) : (numsKinds cells acts).length ≤ acts.length := by
  unfold numsKinds; split
  · simp
  · simp

theorem IntsIn.later {w w' : World} {a : Option Addr} {l : List Int} (h : IntsIn w a l) (hb : Below w.heap.size w w') : IntsIn w' a l := h.below hb

set_option maxHeartbeats 1000000 in
theorem cellnums_any {w0 : World} (a0 : Option Addr) (c0 : Nat) (l0 : List Int) (r0 : IntsIn w0 a0 l0) (z0 : l0.length * 8 ≤ 140737488351232) (a1 : Option Addr) (c1 : Nat) (l1 : List A4) (r1 : ActsIn w0 a1 l1) (z1 : l1.length * 32 ≤ 140737488351232) :
    Calls Try.prog 3 #[.slice a0 l0.length c0, .slice a1 l1.length c1] w0 fun e w' => e = .returned (.bool true) ∧ Below w0.heap.size w0 w' := by
  have hl1 := numsAns_len l0 l1
  have hl2 := numsEnd_len l0 l1
  have hl3 := numsKinds_len l0 l1
  have R0 := Lib.hid r0
  have R1 := Lib.hid r1
  clear r0 r1
  go_enter Try.func3, Try.ntmps3
  go_wp2_with fail
  refine (awake_any _).mono ?_
  rintro e wA ⟨rfl, hbA⟩
  have RA0 := Lib.hid (R0.out.below hbA)
  have RA1 := Lib.hid (R1.out.below hbA)
  have BA := Lib.hid hbA
  clear hbA R0 R1
  go_wp2_with fail
  refine (refnums_any _ _ _ _ l0 l1 _ RA1.out RA0.out).mono ?_
  rintro e wR ⟨v1, v2, v3, rfl, q1, q2, q3, hbR⟩
  obtain ⟨x1, y1, rfl, i1⟩ := q1.intsIn
  obtain ⟨x2, y2, rfl, i2⟩ := q2.intsIn
  obtain ⟨x3, y3, rfl, i3⟩ := q3.intsIn
  have RB0 := Lib.hid (RA0.out.below hbR)
  have RB1 := Lib.hid (RA1.out.below hbR)
  have BR := Lib.hid (BA.out.trans (hbR.mono BA.out.size))
  have I1 := Lib.hid i1
  have I2 := Lib.hid i2
  have I3 := Lib.hid i3
  clear hbR RA0 RA1 BA q1 q2 q3 i1 i2 i3
  go_wp2_with fail
  refine (to_any _ _ l1 _ z1 RB1.out).mono ?_
  rintro e wT ⟨v4, rfl, q4, hbT⟩
  obtain ⟨x4, y4, rfl⟩ := row_shape q4
  have RC0 := Lib.hid (RB0.out.below hbT)
  have RC1 := Lib.hid (actsIn_row q4)
  have BT := Lib.hid (BR.out.trans (hbT.mono BR.out.size))
  have J1 := Lib.hid (I1.out.below hbT)
  have J2 := Lib.hid (I2.out.below hbT)
  have J3 := Lib.hid (I3.out.below hbT)
  clear hbT RB0 RB1 BR I1 I2 I3 q4
  go_wp2_with fail
  refine (nums_any _ _ _ _ l0 l1 _ RC1.out RC0.out).mono ?_
  rintro e wN ⟨v5, v6, v7, rfl, q1, q2, q3, hbN, _, _⟩
  obtain ⟨x5, y5, rfl, i1⟩ := q1.intsIn
  obtain ⟨x6, y6, rfl, i2⟩ := q2.intsIn
  obtain ⟨x7, y7, rfl, i3⟩ := q3.intsIn
  have BN := Lib.hid (BT.out.trans (hbN.mono BT.out.size))
  have K1 := Lib.hid (J1.out.below hbN)
  have K2 := Lib.hid (J2.out.below hbN)
  have K3 := Lib.hid (J3.out.below hbN)
  have K5 := Lib.hid i1
  have K6 := Lib.hid i2
  have K7 := Lib.hid i3
  clear hbN RC0 RC1 BT J1 J2 J3 q1 q2 q3 i1 i2 i3
  go_wp2_with (go_at_call 14; refine (plain_any _ _ _).mono ?_; rintro e w1 ⟨rfl, rfl⟩)
  refine (ints_same _ _ _ _ _ _ K5.out K1.out (by omega)).mono ?_
  rintro e w2 ⟨rfl, t2⟩
  have L2 := Lib.hid (K2.out.turns t2)
  have L3 := Lib.hid (K3.out.turns t2)
  have L6 := Lib.hid (K6.out.turns t2)
  have L7 := Lib.hid (K7.out.turns t2)
  have B2 := Lib.hid (BN.out.trans (t2.below (fun _ h => h.elim) BN.out.size))
  clear t2 K1 K2 K3 K5 K6 K7 BN
  go_wp2_with fail
  refine (ints_same _ _ _ _ _ _ L6.out L2.out (by omega)).mono ?_
  rintro e w3 ⟨rfl, t3⟩
  have M3 := Lib.hid (L3.out.turns t3)
  have M7 := Lib.hid (L7.out.turns t3)
  have B3 := Lib.hid (B2.out.trans (t3.below (fun _ h => h.elim) B2.out.size))
  clear t3 L2 L3 L6 L7 B2
  go_wp2_with fail
  refine (ints_same _ _ _ _ _ _ M7.out M3.out (by omega)).mono ?_
  rintro e w4 ⟨rfl, t4⟩
  have B4 := Lib.hid (B3.out.trans (t4.below (fun _ h => h.elim) B3.out.size))
  clear t4
  go_wp2
  go_ret
  exact ⟨rfl, B4.out⟩

theorem cellnums_law (a0 : Option Addr) (c0 : Nat) (l0 : List Int) {w : World} (r0 : IntsIn w a0 l0) (_w0 : ∀ n ∈ l0, (Lit.int .i64 n).wf = true) (z0 : l0.length * 8 ≤ 140737488351232)
    (a1 : Option Addr) (c1 : Nat) (l1 : List A4) (r1 : ActsIn w a1 l1) (_w1 : ∀ x ∈ l1, (Lit.int .i64 x.k).wf = true ∧ (Lit.int .i64 x.at_).wf = true ∧ (Lit.int .i64 x.a).wf = true ∧ (Lit.int .i64 x.b).wf = true) (z1 : l1.length * 32 ≤ 140737488351232) (w' : World) (e : w' = w) :
    Calls Try.prog 3 #[.slice a0 l0.length c0, .slice a1 l1.length c1] w' fun e w'' => e = .returned (.bool true) ∧ Below w'.heap.size w' w'' := by
  subst e
  exact cellnums_any a0 c0 l0 r0 z0 a1 c1 l1 r1 z1

end Go.Proofs.Ytjifoggfndicoaa
