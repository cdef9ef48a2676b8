/-
  DERIVED. THE WALK over larchlaw02's awake, plain, to.
-/
import Derived.Test.YtjifoggfndicoaaNums
import Derived.Test.YtjifoggfndicoaaInts
namespace Go.Proofs.Ytjifoggfndicoaa
open Go.RowKit
set_option maxRecDepth 100000

def awActs : List A4 := [⟨3, 0, 3, 0⟩, ⟨5, 0, 8, 9⟩]
theorem w8 : wrap64 8 = 8 := IntWalk.wrap64_in _ (by omega)
theorem aw_to : numTo [5] awActs = ([8, 1], [9]) := by
  simp [numTo, awActs, numStep, numAns, numNew, bitOf, casNew, w8]
theorem aw_err : numsErr [5] awActs = 0 := by
  simp [numsErr, awActs, checkNums, known7]
theorem aw_ans : numsAns [5] awActs = [8, 1] := by rw [numsAns, if_pos aw_err, aw_to]
theorem aw_end : numsEnd [5] awActs = [9] := by rw [numsEnd, if_pos aw_err, aw_to]
theorem aw_kinds : numsKinds [5] awActs = [3, 5] := by rw [numsKinds, if_pos aw_err]; rfl

/-- a block of ints that has just been made reads as the list. -/
theorem intsIn_block {w : World} {b : Nat} {l : List Int} {e : TypeId} {f : Nat × Nat} (h : w.heap[b]? = some (.cells (l.map (Value.int .i64)).toArray e f)) : IntsIn w (some ⟨b, 0, none⟩) l := by
  intro j hj
  refine ⟨b, 0, rfl, ?_⟩
  rw [Nat.zero_add]
  exact cell_of_heap h (by simp [hj])

def actCells (l : List A4) : List Value := l.flatMap fun x => [.int .i64 x.k, .int .i64 x.at_, .int .i64 x.a, .int .i64 x.b]
theorem actCells_get (l : List A4) : ∀ (j : Nat) (h : j < l.length), (actCells l)[j * 4]? = some (.int .i64 l[j].k) ∧ (actCells l)[j * 4 + 1]? = some (.int .i64 l[j].at_) ∧ (actCells l)[j * 4 + 2]? = some (.int .i64 l[j].a) ∧ (actCells l)[j * 4 + 3]? = some (.int .i64 l[j].b) := by
  induction l with
  | nil => intro j h; simp at h
  | cons x r ih =>
    intro j h
    cases j with
    | zero => simp [actCells]
    | succ j =>
      have := ih j (by simpa using h)
      have e : actCells (x :: r) = [.int .i64 x.k, .int .i64 x.at_, .int .i64 x.a, .int .i64 x.b] ++ actCells r := rfl
      have e4 : (j + 1) * 4 = 4 + j * 4 := by omega
      rw [e, e4]
      refine ⟨?_, ?_, ?_, ?_⟩
      · rw [List.getElem?_append_right (by simp)]; simpa using this.1
      · rw [List.getElem?_append_right (by simp; omega)]; simp only [List.length_cons, List.length_nil, List.getElem_cons_succ]; rw [show 4 + j * 4 + 1 - (0 + 1 + 1 + 1 + 1) = j * 4 + 1 by omega]; exact this.2.1
      · rw [List.getElem?_append_right (by simp; omega)]; simp only [List.length_cons, List.length_nil, List.getElem_cons_succ]; rw [show 4 + j * 4 + 2 - (0 + 1 + 1 + 1 + 1) = j * 4 + 2 by omega]; exact this.2.2.1
      · rw [List.getElem?_append_right (by simp; omega)]; simp only [List.length_cons, List.length_nil, List.getElem_cons_succ]; rw [show 4 + j * 4 + 3 - (0 + 1 + 1 + 1 + 1) = j * 4 + 3 by omega]; exact this.2.2.2
theorem actsIn_block {w : World} {b : Nat} {l : List A4} {e : TypeId} {f : Nat × Nat} (h : w.heap[b]? = some (.cells (actCells l).toArray e f)) : ActsIn w (some ⟨b, 0, none⟩) l := by
  intro j hj
  have := actCells_get l j hj
  refine ⟨b, 0, rfl, ?_⟩
  simp only [Nat.zero_add]
  exact ⟨cell_of_heap h (by simpa using this.1), cell_of_heap h (by simpa using this.2.1), cell_of_heap h (by simpa using this.2.2.1), cell_of_heap h (by simpa using this.2.2.2)⟩

theorem awake_any (w : World) : Calls Try.prog 10 #[] w fun e w' => e = .returned (.bool true) ∧ Below w.heap.size w w' := by
  have hi : IntsIn ((w.alloc (.cells #[.int .i64 5] 3)).alloc (.cells #[.int .i64 3, .int .i64 0, .int .i64 3, .int .i64 0, .int .i64 5, .int .i64 0, .int .i64 8, .int .i64 9] 57)) (some ⟨w.heap.size, 0, none⟩) [5] :=
    intsIn_block ((Turns.alloc (fun _ => False) _ _).heap (heap_alloc_new w _) (fun h => h))
  have ha : ActsIn ((w.alloc (.cells #[.int .i64 5] 3)).alloc (.cells #[.int .i64 3, .int .i64 0, .int .i64 3, .int .i64 0, .int .i64 5, .int .i64 0, .int .i64 8, .int .i64 9] 57)) (some ⟨w.heap.size + 1, 0, none⟩) awActs := by
    refine actsIn_block (e := 57) (f := (0, 0)) ?_
    have := heap_alloc_new (w.alloc (.cells #[.int .i64 5] 3)) (.cells #[.int .i64 3, .int .i64 0, .int .i64 3, .int .i64 0, .int .i64 5, .int .i64 0, .int .i64 8, .int .i64 9] 57)
    simpa [actCells, awActs] using this
  have hB : Below w.heap.size w ((w.alloc (.cells #[.int .i64 5] 3)).alloc (.cells #[.int .i64 3, .int .i64 0, .int .i64 3, .int .i64 0, .int .i64 5, .int .i64 0, .int .i64 8, .int .i64 9] 57)) :=
    ((Below.refl _ _).alloc (Nat.le_refl _) _).alloc (by simp) _
  have hz : ((w.alloc (.cells #[.int .i64 5] 3)).alloc (.cells #[.int .i64 3, .int .i64 0, .int .i64 3, .int .i64 0, .int .i64 5, .int .i64 0, .int .i64 8, .int .i64 9] 57)).heap.size = w.heap.size + 2 := by simp
  have Hi := Lib.hid hi
  have Ha := Lib.hid ha
  have HB := Lib.hid hB
  have Hz := Lib.hid hz
  clear hi ha hB hz
  go_enter Try.func10, Try.ntmps10
  go_wp2_with fail
  refine (nums_any _ _ 1 2 [5] awActs _ Ha.out Hi.out).mono ?_
  rintro e w1 ⟨v1, v2, v3, rfl, r1, r2, r3, hb, _, _⟩
  rw [aw_ans] at r1
  rw [aw_end] at r2
  rw [aw_kinds] at r3
  rw [aw_err]
  obtain ⟨a1, c1, rfl, i1⟩ := r1.intsIn
  obtain ⟨a2, c2, rfl, i2⟩ := r2.intsIn
  obtain ⟨a3, c3, rfl, i3⟩ := r3.intsIn
  have hB1 := HB.out.trans (hb.mono HB.out.size)
  clear r1 r2 r3 hb
  generalize ((w.alloc (.cells #[.int .i64 5] 3)).alloc (.cells #[.int .i64 3, .int .i64 0, .int .i64 3, .int .i64 0, .int .i64 5, .int .i64 0, .int .i64 8, .int .i64 9] 57)) = w0 at *
  have I1 := Lib.hid (i1.turns (Turns.alloc _ w1 (.cells #[.int .i64 8, .int .i64 1] 3)))
  have L1 := Lib.hid (intsIn_block (l := [8, 1]) (heap_alloc_new w1 (.cells #[.int .i64 8, .int .i64 1] 3)))
  have I2 := Lib.hid (i2.turns (Turns.alloc _ w1 (.cells #[.int .i64 8, .int .i64 1] 3)))
  have I3 := Lib.hid (i3.turns (Turns.alloc _ w1 (.cells #[.int .i64 8, .int .i64 1] 3)))
  have B1 := Lib.hid (hB1.alloc hB1.size (.cells #[.int .i64 8, .int .i64 1] 3))
  clear i1 i2 i3 hB1
  go_wp2_with fail
  refine (ints_same _ _ _ _ [8, 1] _ I1.out L1.out (by simp)).mono ?_
  rintro e w2 ⟨rfl, t2⟩
  have J2 := Lib.hid ((I2.out.turns t2).turns (Turns.alloc _ w2 (.cells #[.int .i64 9] 3)))
  have J3 := Lib.hid ((I3.out.turns t2).turns (Turns.alloc _ w2 (.cells #[.int .i64 9] 3)))
  have L2 := Lib.hid (intsIn_block (l := [9]) (heap_alloc_new w2 (.cells #[.int .i64 9] 3)))
  have B2 := Lib.hid (((B1.out.trans (t2.below (fun _ h => h.elim) B1.out.size)).alloc (by have := B1.out.size; have := t2.size; omega) (.cells #[.int .i64 9] 3)))
  clear t2 I1 I2 I3 L1
  go_wp2_with fail
  refine (ints_same _ _ _ _ [9] _ J2.out L2.out (by simp)).mono ?_
  rintro e w3 ⟨rfl, t3⟩
  have K3 := Lib.hid ((J3.out.turns t3).turns (Turns.alloc _ w3 (.cells #[.int .i64 3, .int .i64 5] 3)))
  have L3 := Lib.hid (intsIn_block (l := [3, 5]) (heap_alloc_new w3 (.cells #[.int .i64 3, .int .i64 5] 3)))
  have B3 := Lib.hid (((B2.out.trans (t3.below (fun _ h => h.elim) B2.out.size)).alloc (by have := B2.out.size; have := t3.size; omega) (.cells #[.int .i64 3, .int .i64 5] 3)))
  clear t3 J2 J3 L2
  go_wp2_with fail
  refine (ints_same _ _ _ _ [3, 5] _ K3.out L3.out (by simp)).mono ?_
  rintro e w4 ⟨rfl, t4⟩
  have B4 := Lib.hid (B3.out.trans (t4.below (fun _ h => h.elim) B3.out.size))
  clear t4
  go_wp2
  go_ret
  exact ⟨rfl, B4.out⟩

end Go.Proofs.Ytjifoggfndicoaa
