/-
  DERIVED. What LarchOneWins leans on: Do and Steps as their answers read, a row's single accesses.
-/
import Derived.Test.YtnpelkohmnhodaaWOur0
import Derived.Deep.AppendLies
namespace Go.Proofs.Ytnpelkohmnhodaa
open Go.RowKit
set_option maxRecDepth 100000

theorem do_anyN (n : Nat) (kd s : Int) (a : Option Addr) (cap : Nat) (l : List A3) (w : World) (hn : l.length = n) (hr : ActsW w a l) (hs : 0 ≤ s ∧ s < 18446744073709551616) (hl : ∀ x ∈ l, x.ok) :
    Calls Try.prog 16 #[.int .i64 kd, .int .u64 s, .slice a n cap] w (DoRow w kd s l) := by
  subst hn
  exact do_any kd s a cap l w hr hs hl
theorem do_reads (kd s : Int) (n : Nat) (a : Option Addr) (cap : Nat) (l : List A3) (w : World) (hn : l.length = n) (hr : ActsW w a l) (hs : 0 ≤ s ∧ s < 18446744073709551616) (hl : ∀ x ∈ l, x.ok) :
    Calls Try.prog 16 #[.int .i64 kd, .int .u64 s, .slice a n cap] w fun e w' => ∃ b c, e = .returned (.tuple #[.slice b (doOuts kd s l).length c, .int .u64 (doEnd kd s l), .int .i64 (wErr kd l)]) ∧ OutsIn w' b (doOuts kd s l) ∧ Below w.heap.size w w' := by
  refine (do_anyN n kd s a cap l w hn hr hs hl).mono ?_
  rintro e w' ⟨v, rfl, hrow, hb⟩
  obtain ⟨b, c, rfl⟩ := row_shape hrow
  exact ⟨b, c, rfl, outsIn_row hrow, hb⟩
theorem steps_reads (kd s : Int) (n : Nat) (a : Option Addr) (cap : Nat) (l : List A3) (w : World) (hn : l.length = n) (hr : ActsW w a l) (hs : 0 ≤ s ∧ s < 18446744073709551616) (hl : ∀ x ∈ l, x.ok) :
    Calls Try.prog 17 #[.int .i64 kd, .int .u64 s, .slice a n cap] w fun e w' => ∃ b c, e = .returned (.tuple #[.slice b (stepsAll kd s l).length c, .int .i64 (wErr kd l)]) ∧ U64In w' b (stepsAll kd s l) ∧ Below w.heap.size w w' := by
  subst hn
  refine (steps_any kd s a cap l w hr hs hl).mono ?_
  rintro e w' ⟨v, rfl, hrow, hb⟩
  obtain ⟨b, c, rfl⟩ := row_shape hrow
  exact ⟨b, c, rfl, u64In_row hrow, hb⟩

theorem cut_of (kd v : Int) (h : Canon kd v) : cutW kd v = v := by
  unfold Canon at h
  unfold cutW
  obtain ⟨h0, h1⟩ := h
  split
  · rename_i hk; rw [if_pos hk] at h1; omega
  · rename_i hk
    rw [if_neg hk] at h1
    split
    · rename_i h5; rw [if_pos h5] at h1
      split <;> omega
    · rfl

theorem wOuts_get (kd : Int) (l : List A3) : ∀ v (i : Nat) (h : i < l.length), (wOuts kd v l)[i]? = some (wAns kd (wTo kd v (l.take i)) l[i]) := by
  induction l with
  | nil => intro v i h; exact absurd h (by simp)
  | cons x r ih =>
    intro v i h
    cases i with
    | zero => rfl
    | succ i => exact ih (wStep kd v x) i (by simpa using h)
theorem wSteps_get (kd : Int) (l : List A3) : ∀ v (i : Nat) (_ : i < l.length), (wSteps kd v l)[i]? = some (wTo kd v (l.take (i + 1))) := by
  induction l with
  | nil => intro v i h; exact absurd h (by simp)
  | cons x r ih =>
    intro v i h
    cases i with
    | zero => rfl
    | succ i => exact ih (wStep kd v x) i (by simpa using h)

theorem doOuts_len (kd s : Int) (l : List A3) (h : wErr kd l = 0) : (doOuts kd s l).length = l.length := by rw [doOuts, if_pos h, wOuts_len]
theorem steps_len (kd s : Int) (l : List A3) (h : wErr kd l = 0) : (stepsAll kd s l).length = l.length := by rw [stepsAll, if_pos h, wSteps_len]
theorem doOuts_get (kd s : Int) (l : List A3) (he : wErr kd l = 0) (i : Nat) (h : i < l.length) (h2 : i < (doOuts kd s l).length) : (doOuts kd s l)[i] = wAns kd (wTo kd (cutW kd s) (l.take i)) l[i] := by
  have := wOuts_get kd l (cutW kd s) i h
  simp only [doOuts, if_pos he]
  rw [List.getElem?_eq_some_iff] at this
  exact this.2
theorem steps_get (kd s : Int) (l : List A3) (he : wErr kd l = 0) (i : Nat) (h : i < l.length) (h2 : i < (stepsAll kd s l).length) : (stepsAll kd s l)[i] = wTo kd (cutW kd s) (l.take (i + 1)) := by
  have := wSteps_get kd l (cutW kd s) i h
  simp only [stepsAll, if_pos he]
  rw [List.getElem?_eq_some_iff] at this
  exact this.2

theorem bad_five (kd : Int) (l : List A3) (hn : l.length ≤ 10000) (h : wErr kd l ≠ 0) : wErr kd l = 5 := by
  unfold wErr at h ⊢
  split
  · rfl
  · rename_i hk
    rw [if_neg hk, if_neg (by omega)] at h
    rw [if_neg (by omega)]
    rcases checkW_or kd l with h1 | h1
    · exact absurd h1 h
    · exact h1
theorem bad_none (kd s : Int) (l : List A3) (h : wErr kd l ≠ 0) : (doOuts kd s l).length = 0 ∧ doEnd kd s l = 0 ∧ (stepsAll kd s l).length = 0 := by
  rw [doOuts, doEnd, stepsAll, if_neg h, if_neg h, if_neg h]; exact ⟨rfl, rfl, rfl⟩

theorem err_one (kd : Int) (x : A3) (hk : 1 ≤ kd ∧ kd ≤ 6) (hc : canW kd x.k = true) : wErr kd [x] = 0 := by
  unfold wErr
  rw [if_neg (by simp [isW]; omega), if_neg (by simp)]
  simp [checkW, hc]

/-- the one cell row of an answer. -/
theorem rowO_one {w : World} {B c : Nat} {a : Option Addr} {x : Int × Bool} (h : RowO w B (.slice a 1 c) [x]) : ∃ g, a = some ⟨g, 0, none⟩ ∧ w.cell? ⟨g, 0, none⟩ = some (.int .u64 x.1) ∧ w.cell? ⟨g, 1, none⟩ = some (.bool x.2) := by
  obtain ⟨g, e1, c1, _⟩ := own_cell h (outCellsOf_get [x] 0 (by simp)).1
  obtain ⟨g2, e2, c2, _⟩ := own_cell h (outCellsOf_get [x] 0 (by simp)).2
  rw [e1] at e2
  injection e2 with e2
  injection e2 with e2
  subst e2
  exact ⟨g, e1, c1, c2⟩
theorem rowO_two {w : World} {B c : Nat} {a : Option Addr} {x y : Int × Bool} (h : RowO w B (.slice a 2 c) [x, y]) : ∃ g, a = some ⟨g, 0, none⟩ ∧ w.cell? ⟨g, 0, none⟩ = some (.int .u64 x.1) ∧ w.cell? ⟨g, 1, none⟩ = some (.bool x.2) ∧ w.cell? ⟨g, 2, none⟩ = some (.int .u64 y.1) ∧ w.cell? ⟨g, 3, none⟩ = some (.bool y.2) := by
  obtain ⟨g, e1, c1, _⟩ := own_cell h (outCellsOf_get [x, y] 0 (by simp)).1
  obtain ⟨g2, e2, c2, _⟩ := own_cell h (outCellsOf_get [x, y] 0 (by simp)).2
  obtain ⟨g3, e3, c3, _⟩ := own_cell h (outCellsOf_get [x, y] 1 (by simp)).1
  obtain ⟨g4, e4, c4, _⟩ := own_cell h (outCellsOf_get [x, y] 1 (by simp)).2
  rw [e1] at e2 e3 e4
  injection e2 with e2
  injection e2 with e2
  injection e3 with e3
  injection e3 with e3
  injection e4 with e4
  injection e4 with e4
  subst e2 e3 e4
  exact ⟨g, e1, c1, c2, c3, c4⟩

theorem lit_act {w : World} {x : A3} {T : TypeId} {g : Nat} (h : w.heap[g]? = some (.cells #[.int .i64 x.k, .int .u64 x.a, .int .u64 x.b] T (0, 0))) : ActsW w (some ⟨g, 0, none⟩) [x] := by
  intro j hj
  have : j = 0 := by simpa using hj
  subst this
  exact ⟨g, 0, rfl, cell_of_heap h rfl, cell_of_heap h rfl, cell_of_heap h rfl⟩
theorem lit_two {w : World} {k a b k2 a2 b2 : Int} {T : TypeId} {g : Nat} (h : w.heap[g]? = some (.cells #[.int .i64 k, .int .u64 a, .int .u64 b, .int .i64 k2, .int .u64 a2, .int .u64 b2] T (0, 0))) : ActsW w (some ⟨g, 0, none⟩) [⟨k, a, b⟩, ⟨k2, a2, b2⟩] := by
  intro j hj
  have : j = 0 ∨ j = 1 := by simp at hj; omega
  rcases this with rfl | rfl
  · exact ⟨g, 0, rfl, cell_of_heap h rfl, cell_of_heap h rfl, cell_of_heap h rfl⟩
  · exact ⟨g, 0, rfl, cell_of_heap h rfl, cell_of_heap h rfl, cell_of_heap h rfl⟩

/-- what Do leaves of the two acts of LarchOneWins's first row. -/
theorem do_two_known (g : Nat) (T : TypeId) (w : World) (hg : w.heap[g]? = some (.cells #[.int .i64 5, .int .u64 7, .int .u64 9, .int .i64 4, .int .u64 1, .int .u64 0] T (0, 0))) :
    Calls Try.prog 16 #[.int .i64 2, .int .u64 7, .slice (some ⟨g, 0, none⟩) 2 2] w fun e w' => ∃ q c, e = .returned (.tuple #[.slice (some ⟨q, 0, none⟩) 2 c, .int .u64 1, .int .i64 0]) ∧ w'.cell? ⟨q, 0, none⟩ = some (.int .u64 0) ∧ w'.cell? ⟨q, 1, none⟩ = some (.bool true) ∧
      w'.cell? ⟨q, 2, none⟩ = some (.int .u64 9) ∧ w'.cell? ⟨q, 3, none⟩ = some (.bool true) ∧ Below w.heap.size w w' := by
  refine (do_anyN 2 2 7 _ 2 [⟨5, 7, 9⟩, ⟨4, 1, 0⟩] w rfl (lit_two hg) (by omega) ?_).mono ?_
  · intro x hx
    simp at hx
    rcases hx with rfl | rfl
    · exact ⟨by simp, by simp⟩
    · exact ⟨by simp, by simp⟩
  · rintro e w' ⟨v, rfl, hrow, hbe⟩
    have h1 : doOuts 2 7 [⟨5, 7, 9⟩, ⟨4, 1, 0⟩] = [(0, true), (9, true)] := rfl
    have h2 : doEnd 2 7 [⟨5, 7, 9⟩, ⟨4, 1, 0⟩] = 1 := rfl
    have h3 : wErr 2 [⟨5, 7, 9⟩, ⟨4, 1, 0⟩] = 0 := rfl
    rw [h1] at hrow
    obtain ⟨a', c, rfl⟩ := row_shape hrow
    obtain ⟨q, rfl, c1, c2, c3, c4⟩ := rowO_two hrow
    exact ⟨q, c, by rw [h2, h3]; rfl, c1, c2, c3, c4, hbe⟩

/-- what Do leaves of one act that is granted, of a word that holds v. -/
theorem do_one_of (kd v : Int) (x : A3) (g : Nat) (T : TypeId) (w : World) (hk : 1 ≤ kd ∧ kd ≤ 6) (hv : Canon kd v) (hx : x.ok) (hc : canW kd x.k = true) (hg : w.heap[g]? = some (.cells #[.int .i64 x.k, .int .u64 x.a, .int .u64 x.b] T (0, 0))) :
    Calls Try.prog 16 #[.int .i64 kd, .int .u64 v, .slice (some ⟨g, 0, none⟩) 1 1] w fun e w' => ∃ q c, e = .returned (.tuple #[.slice (some ⟨q, 0, none⟩) 1 c, .int .u64 (wStep kd v x), .int .i64 0]) ∧ w'.cell? ⟨q, 0, none⟩ = some (.int .u64 (wAns kd v x).1) ∧ w'.cell? ⟨q, 1, none⟩ = some (.bool (wAns kd v x).2) ∧ Below w.heap.size w w' := by
  refine (do_anyN 1 kd v _ 1 [x] w rfl (lit_act hg) (canon_lt kd v hv) ?_).mono ?_
  · intro y hy; simp at hy; subst hy; exact hx
  · rintro e w' ⟨u, rfl, hrow, hbe⟩
    have he := err_one kd x hk hc
    have h1 : doOuts kd v [x] = [wAns kd v x] := by rw [doOuts, if_pos he, cut_of kd v hv]; rfl
    have h2 : doEnd kd v [x] = wStep kd v x := by rw [doEnd, if_pos he, cut_of kd v hv]; rfl
    rw [h1] at hrow
    obtain ⟨a', c, rfl⟩ := row_shape hrow
    obtain ⟨q, rfl, c1, c2⟩ := rowO_one hrow
    exact ⟨q, c, by rw [h2, he]; rfl, c1, c2, hbe⟩

theorem actW_oneCell (l : List A3) : ∀ u ∈ actWCells l, u.oneCell' = true := by
  intro u hu
  simp only [actWCells, List.mem_flatMap] at hu
  obtain ⟨x, _, hx⟩ := hu
  simp at hx
  rcases hx with rfl | rfl | rfl <;> rfl

theorem acts_news {w : World} {b off : Nat} {l : List A3} (o : Obj) (h : ActsW w (some ⟨b, off, none⟩) l) : ∀ j u, (actWCells l)[j]? = some u → (w.alloc o).cell? ((⟨b, off, none⟩ : Addr).add j) = some u := by
  intro j u hu
  have hj : j < l.length * 3 := by rw [← actWCells_len]; exact (List.getElem?_eq_some_iff.1 hu).1
  obtain ⟨b', off', e, h1, h2, h3⟩ := h (j / 3) (by omega)
  injection e with e
  injection e with e1 e2
  subst e1 e2
  have hlt := World.block_lt_of_cell? w ⟨b, off + j / 3 * 3, none⟩ h1
  obtain ⟨g1, g2, g3⟩ := actWCells_get l (j / 3) (by omega)
  rw [Go.WideShapes.add_plain, World.cell?_alloc_past _ _ _ hlt]
  have h : j % 3 = 0 ∨ j % 3 = 1 ∨ j % 3 = 2 := by omega
  rcases h with h | h | h
  · have e : j = j / 3 * 3 := by omega
    rw [← e] at g1 h1
    rw [g1] at hu
    rw [h1]; exact hu
  · have e : j = j / 3 * 3 + 1 := by omega
    have e2 : off + j / 3 * 3 + 1 = off + j := by omega
    rw [← e] at g2
    rw [e2] at h2
    rw [g2] at hu
    rw [h2]; exact hu
  · have e : j = j / 3 * 3 + 2 := by omega
    have e2 : off + j / 3 * 3 + 2 = off + j := by omega
    rw [← e] at g3
    rw [e2] at h3
    rw [g3] at hu
    rw [h3]; exact hu

theorem wrap_any (kd b : Int) (w : World) (hb : 0 ≤ b ∧ b < 18446744073709551616) : Calls Try.prog 18 #[.int .i64 kd, .int .u64 b] w fun e w' => e = .returned (.int .u64 (cutW kd b)) ∧ w = w' := by
  have hm := p_mask b hb
  by_cases h13 : kd = 1 ∨ kd = 3
  · have E := Lib.hid (show cutW kd b = b % 4294967296 by simp [cutW, h13])
    rw [E.out]
    rcases h13 with rfl | rfl
    · go_enter Try.func18, Try.ntmps18
      go_wp2
      go_ret
      exact ⟨by rw [← hm]; rfl, rfl⟩
    · go_enter Try.func18, Try.ntmps18
      go_wp2
      go_ret
      exact ⟨by rw [← hm]; rfl, rfl⟩
  · have h1 : (kd == 1) = false := by simp; omega
    have h3 : (kd == 3) = false := by simp; omega
    by_cases h5 : kd = 5
    · subst h5
      by_cases hz : b = 0
      · subst hz
        go_enter Try.func18, Try.ntmps18
        go_wp2
        go_ret
        exact ⟨rfl, rfl⟩
      · have hz' : (b != 0) = true := by simpa using hz
        have E := Lib.hid (show cutW 5 b = 1 by simp [cutW, hz])
        clear hz
        go_enter Try.func18, Try.ntmps18
        go_wp2
        go_ret
        exact ⟨by rw [E.out]; rfl, rfl⟩
    · have h5' : (kd == 5) = false := by simpa using h5
      have E := Lib.hid (show cutW kd b = b by simp [cutW, h13, h5])
      clear h13 h5
      go_enter Try.func18, Try.ntmps18
      go_wp2
      go_ret
      exact ⟨by rw [E.out]; rfl, rfl⟩

theorem neq_same (x : Int × Bool) (w : World) : (binOp .neq 61 (.agg #[.int .u64 x.1, .bool x.2]) (.agg #[.int .u64 x.1, .bool x.2])).run Try.prog w = .ok (.bool false) w := by simp [go_sem]

end Go.Proofs.Ytnpelkohmnhodaa
