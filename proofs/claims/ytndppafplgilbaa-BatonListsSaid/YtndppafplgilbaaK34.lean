/-
  larchlaw04.BatonLists returns true for every input. No condition. (Part 34 of 47; joined by program.)
-/
import Derived.Test.YtndppafplgilbaaK23
import Derived.Test.YtndppafplgilbaaK28
set_option linter.unusedVariables false
set_option linter.unusedSimpArgs false
set_option linter.unusedSectionVars false
set_option maxRecDepth 100000
namespace Go.Proofs.Ytndppafplgilbaa
open Go.RowKit
def BoolsIn (w : World) (a : Option Addr) (l : List Bool) : Prop := ∀ (j : Nat) (h : j < l.length), ∃ b off, a = some ⟨b, off, none⟩ ∧ w.cell? ⟨b, off + j, none⟩ = some (.bool l[j])
theorem BoolsIn.turns {w w' : World} {a : Option Addr} {l : List Bool} (h : BoolsIn w a l) (ht : Turns (fun _ => False) w w') : BoolsIn w' a l := fun j hj => by
  obtain ⟨b, off, e, h1⟩ := h j hj
  exact ⟨b, off, e, by rw [cell_of_block (ht.block b (World.block_lt_of_cell? w ⟨b, off + j, none⟩ h1) id)]; exact h1⟩
def RowsIn (w : World) (a : Option Addr) (l : List (List Int)) : Prop := ∀ (j : Nat) (h : j < l.length), ∃ b off ao cap, a = some ⟨b, off, none⟩ ∧ w.cell? ⟨b, off + j, none⟩ = some (.slice ao l[j].length cap) ∧ IntsIn w ao l[j]
theorem RowsIn.turns {w w' : World} {a : Option Addr} {l : List (List Int)} (h : RowsIn w a l) (ht : Turns (fun _ => False) w w') : RowsIn w' a l := fun j hj => by
  obtain ⟨b, off, ao, cap, e, h1, h2⟩ := h j hj
  exact ⟨b, off, ao, cap, e, by rw [cell_of_block (ht.block b (World.block_lt_of_cell? w ⟨b, off + j, none⟩ h1) id)]; exact h1, h2.turns ht⟩
theorem StepsIn.turns {w w' : World} {a : Option Addr} {l : List Stp} (h : StepsIn w a l) (ht : Turns (fun _ => False) w w') : StepsIn w' a l := fun j hj => by
  obtain ⟨b, off, e, h1, h2, h3⟩ := h j hj
  have hl := ht.block b (World.block_lt_of_cell? w ⟨b, off + j * 3, none⟩ h1) id
  exact ⟨b, off, e, by rw [cell_of_block hl]; exact h1, by rw [cell_of_block hl]; exact h2, by rw [cell_of_block hl]; exact h3⟩
end Go.Proofs.Ytndppafplgilbaa
namespace Go.Proofs.Ytndppafplgilbaa
open Go.RowKit
theorem plain4_any (a b : Int) (w : World) : Calls Try.prog 16 #[.int .i64 a, .int .i64 b] w fun e w' => e = .returned (.bool (a == b)) ∧ w = w' := by
  go_enter Try.func16, Try.ntmps16
  go_wp2
  go_ret
  exact ⟨rfl, rfl⟩
theorem IntsIn.blw {w w' : World} {a : Option Addr} {l : List Int} (h : IntsIn w a l) (hb : Below w.heap.size w w') : IntsIn w' a l := fun j hj => by
  obtain ⟨b, off, e, h1⟩ := h j hj
  exact ⟨b, off, e, by rw [cell_of_block (hb.block b (World.block_lt_of_cell? w ⟨b, off + j, none⟩ h1))]; exact h1⟩
theorem robinList_len (n t : Int) : (robinList n t).length ≤ 1000000 := by
  unfold robinList
  split
  · rename_i h
    rw [robin_len]
    unfold robinErr at h
    split at h
    · omega
    · split at h
      · omega
      · rename_i h1 h2
        have : n * t = t * n := Int.mul_comm _ _
        omega
  · simp
noncomputable def listsRest : Code := seqR (seqR (seqR (Try.f8.body.getD .skip)))
set_option maxHeartbeats 4000000 in
theorem lists_rest (n t : Int) (a : Option Addr) (cap : Nat) (l : List Stp) (w : World) (hn : l.length * 8 ≤ 140737488351232) (hr : StepsIn w a l) :
    ∀ y3 y4 y5 y6 y7 y8 y9 y10 y11 y12 y13 y14 y15 y16 y17 y18 y19 y20 y21 y22 y23 y24 y25 y26 y27 y28 y29 y30 y31 y32 y33 y34 y35 y36 y37 y38 y39 y40 y41 y42 y43 y44 y45 y46 y47 y48 y49 y50 y51 y52 y53 y54 y55 y56 y57 y58 y59 y60 y61 y62 y63 y64 y65 y66 y67 : Value, listsRest.wp Try.prog (fun e s u => e = .ret ∧ s.defers = [] ∧ s.tmps.getD 6 undef = .bool true ∧ Below w.heap.size w u) ⟨#[.int .i64 n, .int .i64 t, .slice a l.length cap, y3, y4, y5, y6, y7, y8, y9, y10, y11, y12, y13, y14, y15, y16, y17, y18, y19, y20, y21, y22, y23, y24, y25, y26, y27, y28, y29, y30, y31, y32, y33, y34, y35, y36, y37, y38, y39, y40, y41, y42, y43, y44, y45, y46, y47, y48, y49, y50, y51, y52, y53, y54, y55, y56, y57, y58, y59, y60, y61, y62, y63, y64, y65, y66, y67], []⟩ w := by
  intro y3 y4 y5 y6 y7 y8 y9 y10 y11 y12 y13 y14 y15 y16 y17 y18 y19 y20 y21 y22 y23 y24 y25 y26 y27 y28 y29 y30 y31 y32 y33 y34 y35 y36 y37 y38 y39 y40 y41 y42 y43 y44 y45 y46 y47 y48 y49 y50 y51 y52 y53 y54 y55 y56 y57 y58 y59 y60 y61 y62 y63 y64 y65 y66 y67
  simp only [listsRest, seqR, Option.getD_some, Try.f8]
  have Hr := Lib.hid hr
  clear hr
  go_wp2_with (go_at_call 36; refine (robin_ref_all n t _).mono ?_; rintro e w1 ⟨v1, rfl, o1, b1⟩)
  obtain ⟨a1, c1, rfl, i1⟩ := RowI.intsIn o1
  have hl1 : (robinList n t).length ≤ 1000000 := robinList_len n t
  go_wp2_with (go_at_call 37; refine (robin_any_all n t _).mono ?_; rintro e w2 ⟨v2, rfl, o2, b2⟩)
  obtain ⟨a2, c2, rfl, i2⟩ := RowI.intsIn o2
  have i1' := i1.blw b2
  have s2 := (Hr.out.below b1).below b2
  have I1 := Lib.hid i1'
  have I2 := Lib.hid i2
  have S2 := Lib.hid s2
  have B2 := Lib.hid (b1.trans (b2.mono b1.size))
  clear o1 o2 b1 b2 i1 i2 i1' s2
  go_wp2_with (go_at_call 16; refine (plain4_any _ _ _).mono ?_; rintro e w3 ⟨rfl, rfl⟩)
  try simp only [beq_self_eq_true]
  go_wp2_with (go_at_call 18; refine (ints_same' _ _ _ _ _ _ _ _ rfl rfl I2.out I1.out (by omega)).mono ?_; rintro e w3 ⟨rfl, t3⟩)
  have b3 : Below w2.heap.size w2 w3 := t3.below (by intros; first | exact False.elim ‹False› | (exfalso; assumption) | omega) (Nat.le_refl _)
  have S3 := Lib.hid (S2.out.below b3)
  have B3 := Lib.hid (B2.out.trans (b3.mono B2.out.size))
  clear t3 b3
  go_wp2_with (go_at_call 19; refine (thin_any _ _ l _ hn S3.out).mono ?_; rintro e w4 ⟨v4, rfl, o4, b4⟩)
  obtain ⟨a4, c4, rfl, i4⟩ := RowI.intsIn o4
  have S4 := Lib.hid (S3.out.below b4)
  have I4 := Lib.hid i4
  have B4 := Lib.hid (B3.out.trans (b4.mono B3.out.size))
  clear o4 b4 i4
  go_wp2_with (go_at_call 38; refine (thin_ref _ _ l _ hn S4.out).mono ?_; rintro e w5 ⟨v5, rfl, o5, b5⟩)
  obtain ⟨a5, c5, rfl, i5⟩ := RowI.intsIn o5
  have I5 := Lib.hid i5
  have I4' := Lib.hid (I4.out.blw b5)
  have ht := thin_le l
  have B5 := Lib.hid (B4.out.trans (b5.mono B4.out.size))
  clear o5 b5 i5
  go_wp2_with (go_at_call 18; refine (ints_same' _ _ _ _ _ _ _ _ rfl rfl I4'.out I5.out (by omega)).mono ?_; rintro e w6 ⟨rfl, t6⟩)
  exact B5.out.trans ((t6.below (by intros; first | exact False.elim ‹False› | (exfalso; assumption) | omega) (Nat.le_refl _)).mono B5.out.size)
end Go.Proofs.Ytndppafplgilbaa
namespace Go.Proofs.Ytndppafplgilbaa
open Go.RowKit
noncomputable def listsTail : Code := seqR (seqR (Try.f8.body.getD .skip))
theorem listsTail_eq : listsTail = Code.seq (seqL listsTail) listsRest := by
  unfold listsTail listsRest
  simp only [seqL, seqR, Option.getD_some, Try.f8]
set_option maxHeartbeats 4000000 in
theorem lists_tail (n t : Int) (a : Option Addr) (cap : Nat) (l : List Stp) (w : World) (hn : l.length * 8 ≤ 140737488351232) (hr : StepsIn w a l) :
    ∀ y3 y4 y5 y6 y7 y8 y9 y10 y11 y12 y13 y14 y15 y16 y17 y18 y19 y20 y21 y22 y23 y24 y25 y26 y27 y28 y29 y30 y31 y32 y33 y34 y35 y36 y37 y38 y39 y40 y41 y42 y43 y44 y45 y46 y47 y48 y49 y50 y51 y52 y53 y54 y55 y56 y57 y58 y59 y60 y61 y62 y63 y64 y65 y66 y67 : Value, listsTail.wp Try.prog (fun e s u => e = .ret ∧ s.defers = [] ∧ s.tmps.getD 6 undef = .bool true ∧ Below w.heap.size w u) ⟨#[.int .i64 n, .int .i64 t, .slice a l.length cap, y3, y4, y5, y6, y7, y8, y9, y10, y11, y12, y13, y14, y15, y16, y17, y18, y19, y20, y21, y22, y23, y24, y25, y26, y27, y28, y29, y30, y31, y32, y33, y34, y35, y36, y37, y38, y39, y40, y41, y42, y43, y44, y45, y46, y47, y48, y49, y50, y51, y52, y53, y54, y55, y56, y57, y58, y59, y60, y61, y62, y63, y64, y65, y66, y67], []⟩ w := by
  intro y3 y4 y5 y6 y7 y8 y9 y10 y11 y12 y13 y14 y15 y16 y17 y18 y19 y20 y21 y22 y23 y24 y25 y26 y27 y28 y29 y30 y31 y32 y33 y34 y35 y36 y37 y38 y39 y40 y41 y42 y43 y44 y45 y46 y47 y48 y49 y50 y51 y52 y53 y54 y55 y56 y57 y58 y59 y60 y61 y62 y63 y64 y65 y66 y67
  rw [listsTail_eq]
  simp only [listsTail, seqL, seqR, Option.getD_some, Try.f8]
  have Hr := Lib.hid hr
  clear hr
  go_wp2_with fail
  all_goals exact lists_rest _ _ a cap l _ hn Hr.out _ _ _ _ _ _ _ _ _ _ _ _ _ _ _ _ _ _ _ _ _ _ _ _ _ _ _ _ _ _ _ _ _ _ _ _ _ _ _ _ _ _ _ _ _ _ _ _ _ _ _ _ _ _ _ _ _ _ _ _ _ _ _ _ _
end Go.Proofs.Ytndppafplgilbaa
