/-
  DERIVED. THE WALK over larchlaw02's CellIds.
-/
import Derived.Test.YtjifoggfndicoaaIds
import Derived.Test.YtjifoggfndicoaaTo
import Derived.Test.YtjifoggfndicoaaNumsLaw
namespace Go.Proofs.Ytjifoggfndicoaa
open Go.RowKit Go.ChangeShapes Go.WideShapes Go.Deep
set_option maxRecDepth 100000

theorem ids_big (ca aa : Option Addr) (cc ac : Nat) (cells : List Int) (things : Int) (acts : List A4) (w : World) (h : 64 < cells.length ∨ 64 < things ∨ 1000 < acts.length) :
    Calls Try.prog 44 #[.slice ca cells.length cc, .int .i64 things, .slice aa acts.length ac] w (IdsPost w cells things acts) := by
  have Hp := Lib.hid (fun w' => ids_none w cells things acts w' 2 (by rw [idsErr, if_pos h]) (by decide))
  by_cases h1 : 64 < cells.length
  · clear h
    have h1' : (64 : Int) < (cells.length : Int) := by omega
    go_enter Try.func44, Try.ntmps44
    go_wp2_with fail
    all_goals exact bodyPost_ret (v := .tuple #[.slice none 0 0, .slice none 0 0, .slice none 0 0, .int .i64 2]) (by simp [results, Try.results44, go_sem]) rfl (Hp.out _ (by first | exact Below.refl _ _ | exact (Below.refl _ _).alloc (Nat.le_refl _) _ | exact ((Below.refl _ _).alloc (Nat.le_refl _) _).alloc (by simp) _))
  · have h3 : ¬ (64 : Int) < (cells.length : Int) := by omega
    by_cases h2 : 64 < things
    · clear h h1
      go_enter Try.func44, Try.ntmps44
      go_wp2_with fail
      all_goals exact bodyPost_ret (v := .tuple #[.slice none 0 0, .slice none 0 0, .slice none 0 0, .int .i64 2]) (by simp [results, Try.results44, go_sem]) rfl (Hp.out _ (by first | exact Below.refl _ _ | exact (Below.refl _ _).alloc (Nat.le_refl _) _ | exact ((Below.refl _ _).alloc (Nat.le_refl _) _).alloc (by simp) _))
    · have h4 : (1000 : Int) < (acts.length : Int) := by omega
      clear h h1
      go_enter Try.func44, Try.ntmps44
      go_wp2_with fail
      all_goals exact bodyPost_ret (v := .tuple #[.slice none 0 0, .slice none 0 0, .slice none 0 0, .int .i64 2]) (by simp [results, Try.results44, go_sem]) rfl (Hp.out _ (by first | exact Below.refl _ _ | exact (Below.refl _ _).alloc (Nat.le_refl _) _ | exact ((Below.refl _ _).alloc (Nat.le_refl _) _).alloc (by simp) _))

set_option maxHeartbeats 1000000 in
theorem ids_neg (ca aa : Option Addr) (cc ac : Nat) (cells : List Int) (things : Int) (acts : List A4) (w : World) (h1 : cells.length ≤ 64) (h2 : acts.length ≤ 1000) (h : things < 0) :
    Calls Try.prog 44 #[.slice ca cells.length cc, .int .i64 things, .slice aa acts.length ac] w (IdsPost w cells things acts) := by
  have h3 : decide ((64 : Int) < (cells.length : Int)) = false := by simp; omega
  have h4 : decide ((1000 : Int) < (acts.length : Int)) = false := by simp; omega
  have h7 : decide (things < 0) = true := by simp; omega
  have h8 : decide (64 < things) = false := by simp; omega
  have hst := store_right w things
  have Hp := Lib.hid (fun w' => ids_none w cells things acts w' 1 (by rw [idsErr, if_neg (by omega), if_pos (.inl h)]) (by decide))
  go_enter Try.func44, Try.ntmps44
  go_wp2_with fail
  all_goals exact bodyPost_ret (v := .tuple #[.slice none 0 0, .slice none 0 0, .slice none 0 0, .int .i64 1]) (by simp [results, Try.results44, go_sem]) rfl (Hp.out _ (by first | exact Below.refl _ _ | exact (Below.refl _ _).alloc (Nat.le_refl _) _ | exact ((Below.refl _ _).alloc (Nat.le_refl _) _).alloc (by simp) _))

theorem ids_any (ca aa : Option Addr) (cc ac : Nat) (cells : List Int) (things : Int) (acts : List A4) (w : World) (hr : ActsIn w aa acts) (hi : IntsIn w ca cells) :
    Calls Try.prog 44 #[.slice ca cells.length cc, .int .i64 things, .slice aa acts.length ac] w (IdsPost w cells things acts) := by
  by_cases h1 : 64 < cells.length ∨ 64 < things ∨ 1000 < acts.length
  · exact ids_big ca aa cc ac cells things acts w h1
  · by_cases h2 : things < 0
    · exact ids_neg ca aa cc ac cells things acts w (by omega) (by omega) h2
    · exact ids_small ca aa cc ac cells things acts w (by omega) (by omega) (by omega) (by omega) hr hi

theorem idsAns_len (cells : List Int) (things : Int) (acts : List A4) : (idsAns cells things acts).length ≤ acts.length := by
  unfold idsAns; split
  · rw [(numTo_len cells acts).1]; exact Nat.le_refl _
  · simp
theorem idsEnd_len (cells : List Int) (things : Int) (acts : List A4) : (idsEnd cells things acts).length ≤ cells.length := by
  unfold idsEnd; split
  · rw [(numTo_len cells acts).2]; exact Nat.le_refl _
  · simp
theorem idsKinds_len (cells : List Int) (things : Int) (acts : List A4) : (idsKinds cells things acts).length ≤ acts.length := by
  unfold idsKinds; split
  · simp
  · simp

set_option maxHeartbeats 1000000 in
theorem cellids_any {w0 : World} (a0 : Option Addr) (c0 : Nat) (l0 : List Int) (r0 : IntsIn w0 a0 l0) (z0 : l0.length * 8 ≤ 140737488351232) (n0 : Int) (a1 : Option Addr) (c1 : Nat) (l1 : List A4) (r1 : ActsIn w0 a1 l1) (z1 : l1.length * 32 ≤ 140737488351232) :
    Calls Try.prog 9 #[.slice a0 l0.length c0, .int .i64 n0, .slice a1 l1.length c1] w0 fun e w' => e = .returned (.bool true) ∧ Below w0.heap.size w0 w' := by
  have hl1 := idsAns_len l0 n0 l1
  have hl2 := idsEnd_len l0 n0 l1
  have hl3 := idsKinds_len l0 n0 l1
  have R0 := Lib.hid r0
  have R1 := Lib.hid r1
  clear r0 r1
  go_enter Try.func9, Try.ntmps9
  go_wp2_with fail
  refine (awake_any _).mono ?_
  rintro e wA ⟨rfl, hbA⟩
  have RA0 := Lib.hid (R0.out.below hbA)
  have RA1 := Lib.hid (R1.out.below hbA)
  have BA := Lib.hid hbA
  clear hbA R0 R1
  go_wp2_with fail
  refine (rids_any _ _ _ _ l0 n0 l1 _ RA1.out RA0.out).mono ?_
  rintro e wR ⟨v1, v2, v3, rfl, q1, q2, q3, hbR⟩
  obtain ⟨x1, y1, rfl, i1⟩ := q1.intsIn
  obtain ⟨x2, y2, rfl, i2⟩ := q2.intsIn
  obtain ⟨x3, y3, rfl, i3⟩ := q3.intsIn
  have RB0 := Lib.hid (RA0.out.below hbR)
  have RB1 := Lib.hid (RA1.out.below hbR)
  have BR := Lib.hid (BA.out.trans (hbR.mono BA.out.size))
  have I1 := Lib.hid i1
  have I2 := Lib.hid i2
  have I3 := Lib.hid i3
  clear hbR RA0 RA1 BA q1 q2 q3 i1 i2 i3
  go_wp2_with fail
  refine (to_any _ _ l1 _ z1 RB1.out).mono ?_
  rintro e wT ⟨v4, rfl, q4, hbT⟩
  obtain ⟨x4, y4, rfl⟩ := row_shape q4
  have RC0 := Lib.hid (RB0.out.below hbT)
  have RC1 := Lib.hid (actsIn_row q4)
  have BT := Lib.hid (BR.out.trans (hbT.mono BR.out.size))
  have J1 := Lib.hid (I1.out.below hbT)
  have J2 := Lib.hid (I2.out.below hbT)
  have J3 := Lib.hid (I3.out.below hbT)
  clear hbT RB0 RB1 BR I1 I2 I3 q4
  go_wp2_with fail
  refine (ids_any _ _ _ _ l0 n0 l1 _ RC1.out RC0.out).mono ?_
  rintro e wN ⟨v5, v6, v7, rfl, q1, q2, q3, hbN⟩
  obtain ⟨x5, y5, rfl, i1⟩ := q1.intsIn
  obtain ⟨x6, y6, rfl, i2⟩ := q2.intsIn
  obtain ⟨x7, y7, rfl, i3⟩ := q3.intsIn
  have BN := Lib.hid (BT.out.trans (hbN.mono BT.out.size))
  have K1 := Lib.hid (J1.out.below hbN)
  have K2 := Lib.hid (J2.out.below hbN)
  have K3 := Lib.hid (J3.out.below hbN)
  have K5 := Lib.hid i1
  have K6 := Lib.hid i2
  have K7 := Lib.hid i3
  clear hbN RC0 RC1 BT J1 J2 J3 q1 q2 q3 i1 i2 i3
  go_wp2_with (go_at_call 14; refine (plain_any _ _ _).mono ?_; rintro e w1 ⟨rfl, rfl⟩)
  refine (ints_same _ _ _ _ _ _ K5.out K1.out (by omega)).mono ?_
  rintro e w2 ⟨rfl, t2⟩
  have L2 := Lib.hid (K2.out.turns t2)
  have L3 := Lib.hid (K3.out.turns t2)
  have L6 := Lib.hid (K6.out.turns t2)
  have L7 := Lib.hid (K7.out.turns t2)
  have B2 := Lib.hid (BN.out.trans (t2.below (fun _ h => h.elim) BN.out.size))
  clear t2 K1 K2 K3 K5 K6 K7 BN
  go_wp2_with fail
  refine (ints_same _ _ _ _ _ _ L6.out L2.out (by omega)).mono ?_
  rintro e w3 ⟨rfl, t3⟩
  have M3 := Lib.hid (L3.out.turns t3)
  have M7 := Lib.hid (L7.out.turns t3)
  have B3 := Lib.hid (B2.out.trans (t3.below (fun _ h => h.elim) B2.out.size))
  clear t3 L2 L3 L6 L7 B2
  go_wp2_with fail
  refine (ints_same _ _ _ _ _ _ M7.out M3.out (by omega)).mono ?_
  rintro e w4 ⟨rfl, t4⟩
  have B4 := Lib.hid (B3.out.trans (t4.below (fun _ h => h.elim) B3.out.size))
  clear t4
  go_wp2
  go_ret
  exact ⟨rfl, B4.out⟩

theorem cellids_law (a0 : Option Addr) (c0 : Nat) (l0 : List Int) {w : World} (r0 : IntsIn w a0 l0) (_w0 : ∀ n ∈ l0, (Lit.int .i64 n).wf = true) (z0 : l0.length * 8 ≤ 140737488351232) (n0 : Int) (_wn : (Lit.int .i64 n0).wf = true)
    (a1 : Option Addr) (c1 : Nat) (l1 : List A4) (r1 : ActsIn w a1 l1) (_w1 : ∀ x ∈ l1, (Lit.int .i64 x.k).wf = true ∧ (Lit.int .i64 x.at_).wf = true ∧ (Lit.int .i64 x.a).wf = true ∧ (Lit.int .i64 x.b).wf = true) (z1 : l1.length * 32 ≤ 140737488351232) (w' : World) (e : w' = w) :
    Calls Try.prog 9 #[.slice a0 l0.length c0, .int .i64 n0, .slice a1 l1.length c1] w' fun e w'' => e = .returned (.bool true) ∧ Below w'.heap.size w' w'' := by
  subst e
  exact cellids_any a0 c0 l0 r0 z0 n0 a1 c1 l1 r1 z1

end Go.Proofs.Ytjifoggfndicoaa
