/-
  DERIVED. PLAIN and of the world: the things, the row of cells of Ids, and what holds in its loops.
-/
import Derived.Test.YtjifoggfndicoaaICheck
namespace Go.Proofs.Ytjifoggfndicoaa
open Go.RowKit
set_option maxRecDepth 100000

/-- the thing of a number. -/
def thP (A : Nat) (n : Int) : Option Addr := if n < 0 then none else some ⟨A + 2 + n.toNat, 0, none⟩
/-- THE THINGS: their row at A (nt places, the first j filled), the variable 'all' behind it, the things. -/
structure ThRow (w : World) (A nt j : Nat) : Prop where
  row : ∃ c : Array Value, w.heap[A]? = some (.cells c 136 (0, 0)) ∧ c.size = nt ∧ ∀ i, i < j → c[i]? = some (.pointer (some ⟨A + 2 + i, 0, none⟩))
  var : w.heap[A + 1]? = some (.cells #[.slice (some ⟨A, 0, none⟩) nt nt] 135 (0, 0))
  things : ∀ i, i < j → w.heap[A + 2 + i]? = some (.cells #[.int .i64 0] 138 (0, 0))
theorem ThRow.turns {S : Nat → Prop} {w w' : World} {A nt j : Nat} (h : ThRow w A nt j) (ht : Turns S w w') (hS : ∀ i, i < A + 2 + j → A ≤ i → ¬ S i) : ThRow w' A nt j := by
  obtain ⟨c, h1, h2, h3⟩ := h.row
  exact ⟨⟨c, ht.heap h1 (hS _ (by omega) (by omega)), h2, h3⟩, ht.heap h.var (hS _ (by omega) (by omega)), fun i hi => ht.heap (h.things i hi) (hS _ (by omega) (by omega))⟩
theorem ThRow.cell {w : World} {A nt j : Nat} (h : ThRow w A nt j) {i : Nat} (hi : i < j) : w.cell? ⟨A, i, none⟩ = some (.pointer (some ⟨A + 2 + i, 0, none⟩)) := by
  obtain ⟨c, h1, h2, h3⟩ := h.row
  exact cell_of_heap h1 (h3 i hi)
theorem ThRow.ptr {w : World} {A nt : Nat} (h : ThRow w A nt nt) {n : Int} (hn : right nt n = true) : PtrTo 138 1 w (thP A n) := by
  simp [right] at hn
  unfold thP
  split
  · exact PtrTo.nil _ _ _
  · exact PtrTo.of (h.things n.toNat (by omega)) rfl
theorem ThRow.push {wr : World} {A nt j : Nat} (h : ThRow wr A nt j) (hsz : wr.heap.size = A + 2 + j) (hj : j < nt) :
    ThRow ((wr.alloc (.cells #[.int .i64 0] 138)).setCell ⟨A, j, none⟩ (.pointer (some ⟨wr.heap.size, 0, none⟩))) A nt (j + 1) ∧
    ((wr.alloc (.cells #[.int .i64 0] 138)).setCell ⟨A, j, none⟩ (.pointer (some ⟨wr.heap.size, 0, none⟩))).heap.size = A + 2 + (j + 1) := by
  obtain ⟨c, h1, h2, h3⟩ := h.row
  have h1' : (wr.alloc (.cells #[.int .i64 0] 138)).heap[A]? = some (.cells c 136 (0, 0)) := (Turns.alloc (fun _ => False) wr _).heap h1 (fun h => h)
  refine ⟨⟨⟨_, heap_setCell h1' _, by simpa using h2, fun i hi => ?_⟩, ?_, fun i hi => ?_⟩, by simp [World.setCell]; omega⟩
  · by_cases e : i = j
    · subst e
      rw [Array.getElem?_setIfInBounds_self, hsz]
      simp [h2, hj]
    · rw [Array.getElem?_setIfInBounds_ne (fun h => e h.symm)]
      exact h3 i (by omega)
  · rw [heap_setCell_ne (by omega)]
    exact (Turns.alloc (fun _ => False) wr _).heap h.var (fun h => h)
  · rw [heap_setCell_ne (by omega)]
    by_cases e : i = j
    · subst e
      rw [← hsz]
      exact heap_alloc_new wr _
    · exact (Turns.alloc (fun _ => False) wr _).heap (h.things i (by omega)) (fun h => h)
theorem thP_inj {A : Nat} {x y : Int} (hx : -1 ≤ x) (hy : -1 ≤ y) : decide (thP A x = thP A y) = (x == y) := by
  unfold thP
  rw [Bool.eq_iff_iff, decide_eq_true_iff, beq_iff_eq]
  split <;> split <;> simp <;> omega
theorem thP_cas {A : Nat} {x o d : Int} (hx : -1 ≤ x) (hy : -1 ≤ o) : casNew (thP A x) (thP A o) (thP A d) = thP A (casNew x o d) := by
  have h := thP_inj (A := A) hx hy
  unfold casNew
  by_cases e : x = o
  · rw [if_pos e, if_pos (by rw [e])]
  · rw [if_neg e, if_neg (fun h2 => by rw [decide_eq_true h2] at h; simp at h; exact e h)]

theorem info_ptrC : (Try.prog.info? 143).map (fun i => (i.zero, i.size, i.bytes)) = some (some (.pointer none), 1, 8) := by kernel_rfl

/-- THE ROW OF CELLS: rb the row's block (n places, the first j of them filled), the numbers behind it one by one. -/
structure CRow (A : Nat) (w : World) (rb n j : Nat) (vals : List Int) : Prop where
  row : ∃ c : Array Value, w.heap[rb]? = some (.cells c 143 (0, 0)) ∧ c.size = n ∧ ∀ i, i < j → c[i]? = some (.pointer (some ⟨rb + 1 + i, 0, none⟩))
  nums : ∀ (i : Nat) (h : i < vals.length), i < j → w.heap[rb + 1 + i]? = some (.cells #[.pointer (thP A vals[i])] 174 (0, 0))

theorem CRow.turns {S : Nat → Prop} {w w' : World} {A rb n j : Nat} {vals : List Int} (h : CRow A w rb n j vals) (ht : Turns S w w') (hS : ∀ i, i ≤ j → ¬ S (rb + i)) : CRow A w' rb n j vals := by
  obtain ⟨c, h1, h2, h3⟩ := h.row
  refine ⟨⟨c, ht.heap h1 (hS 0 (Nat.zero_le _)), h2, h3⟩, fun i hi hj => ht.heap (h.nums i hi hj) ?_⟩
  have := hS (i + 1) (by omega)
  rwa [show rb + (i + 1) = rb + 1 + i by omega] at this

theorem CRow.cell {w : World} {A rb n j : Nat} {vals : List Int} (h : CRow A w rb n j vals) {i : Nat} (hi : i < j) : w.cell? ⟨rb, i, none⟩ = some (.pointer (some ⟨rb + 1 + i, 0, none⟩)) := by
  obtain ⟨c, h1, h2, h3⟩ := h.row
  exact cell_of_heap h1 (h3 i hi)

theorem CRow.push {wr : World} {A rb n j : Nat} {vals : List Int} (h : CRow A wr rb n j vals) (hsz : wr.heap.size = rb + 1 + j) (hj : j < vals.length) (hn : j < n) :
    CRow A ((wr.alloc (.cells #[.pointer (thP A vals[j])] 174)).setCell ⟨rb, j, none⟩ (.pointer (some ⟨wr.heap.size, 0, none⟩))) rb n (j + 1) vals ∧
    ((wr.alloc (.cells #[.pointer (thP A vals[j])] 174)).setCell ⟨rb, j, none⟩ (.pointer (some ⟨wr.heap.size, 0, none⟩))).heap.size = rb + 1 + (j + 1) := by
  obtain ⟨c, h1, h2, h3⟩ := h.row
  have h1' : (wr.alloc (.cells #[.pointer (thP A vals[j])] 174)).heap[rb]? = some (.cells c 143 (0, 0)) := (Turns.alloc (fun _ => False) wr _).heap h1 (fun h => h)
  refine ⟨⟨⟨_, heap_setCell h1' _, by simpa using h2, fun i hi => ?_⟩, fun i hi hij => ?_⟩, by simp [World.setCell]; omega⟩
  · by_cases e : i = j
    · subst e
      rw [Array.getElem?_setIfInBounds_self, hsz]
      simp [h2, hn]
    · rw [Array.getElem?_setIfInBounds_ne (fun h => e h.symm)]
      exact h3 i (by omega)
  · rw [heap_setCell_ne (by omega)]
    by_cases e : i = j
    · subst e
      rw [← hsz]
      exact heap_alloc_new wr _
    · exact (Turns.alloc (fun _ => False) wr _).heap (h.nums i hi (by omega)) (fun h => h)

theorem CRow.set {S : Nat → Prop} {w w' : World} {A rb n m : Nat} {vals : List Int} {y : Int} (h : CRow A w rb n n vals) (ht : Turns S w w') (hy : w'.heap[rb + 1 + m]? = some (.cells #[.pointer (thP A y)] 174 (0, 0)))
    (hS : ∀ i, i ≤ n → i ≠ m + 1 → ¬ S (rb + i)) : CRow A w' rb n n (vals.set m y) := by
  obtain ⟨c, h1, h2, h3⟩ := h.row
  refine ⟨⟨c, ht.heap h1 (hS 0 (Nat.zero_le _) (by omega)), h2, h3⟩, fun i hi hj => ?_⟩
  have hi' : i < vals.length := by simpa using hi
  by_cases e : i = m
  · subst e
    rw [hy]
    simp
  · rw [List.getElem_set_ne (fun h => e h.symm)]
    refine ht.heap (h.nums i hi' hj) ?_
    have := hS (i + 1) (by omega) (by omega)
    rwa [show rb + (i + 1) = rb + 1 + i by omega] at this


/-- THE LOOP OVER THE ACTS: what holds when l of them have been done. -/
structure I2 (A : Nat) (w : World) (rb n : Nat) (cells : List Int) (l : List A4) (tv av : Value) (wx : World) : Prop where
  below : Below w.heap.size w wx
  row : CRow A wx rb n n (numTo cells l).2
  tape : TapeAt wx (rb + 2 + n) (rb + 1 + n) tv (l.map (·.k))
  ans : wx.ownsRow (rb + 2 + n) 3 1 av l.length ((numTo cells l).1.map (Value.int .i64))
  ne : ∀ g, av.ownBlock = some g → tv.ownBlock ≠ some g
  size : rb + 2 + n ≤ wx.heap.size
  low : w.heap.size ≤ rb

section
variable {w wr wq w2 w3 : World} {A rb n m : Nat} {cells : List Int} {l : List A4} {tv av : Value}

/-- the blocks that an act on number m may turn. -/
def actI (rb n m : Nat) (tv : Value) : Nat → Prop := fun i => i = rb + 1 + m ∨ i = rb + 1 + n ∨ tv.ownBlock = some i

theorem I2.num (h : I2 A w rb n cells l tv av wr) (hn : n = cells.length) (hm : m < n) : wr.heap[rb + 1 + m]? = some (.cells #[.pointer (thP A ((numTo cells l).2.getD m 0))] 174 (0, 0)) := by
  have hlen := numTo_len cells l
  have := h.row.nums m (by omega) hm
  rw [List.getD_eq_getElem?_getD, List.getElem?_eq_getElem (by omega)]
  exact this
theorem I2.turns (h : I2 A w rb n cells l tv av wr) (ht : Turns (fun _ => False) wr wq) : I2 A w rb n cells l tv av wq :=
  ⟨h.below.trans (ht.below (fun _ h => h.elim) h.below.size), h.row.turns ht (fun _ _ h => h), h.tape.turns ht (fun h => h) (fun _ _ h => h), ht.row h.ans (fun _ _ h => h), h.ne, Nat.le_trans h.size ht.size, h.low⟩
theorem I2.row_free (h : I2 A w rb n cells l tv av wr) : ¬ actI rb n m tv rb := fun e => by
  rcases e with e | e | e
  · omega
  · omega
  · have := (h.tape.row.lt _ e).1; omega
theorem I2.new_free (h : I2 A w rb n cells l tv av wr) (hm : m < n) : ¬ actI rb n m tv wr.heap.size := fun e => by
  have := h.size
  rcases e with e | e | e
  · omega
  · omega
  · have := (h.tape.row.lt _ e).2; omega
theorem I2.ans_free (h : I2 A w rb n cells l tv av wr) (hm : m < n) : ∀ g, av.ownBlock = some g → ¬ actI rb n m tv g := fun g hg e => by
  have h0 := (h.ans.lt _ hg).1
  rcases e with e | e | e
  · omega
  · omega
  · exact h.ne g hg e
theorem I2.row_free2 (h : I2 A w rb n cells l tv av wr) : ¬ (actI rb n m tv rb ∨ av.ownBlock = some rb) := fun e => by
  rcases e with e | e
  · exact h.row_free e
  · have := (h.ans.lt _ e).1; omega
theorem I2.new_free2 (h : I2 A w rb n cells l tv av wr) (hm : m < n) : ¬ (actI rb n m tv wr.heap.size ∨ av.ownBlock = some wr.heap.size) := fun e => by
  rcases e with e | e
  · exact h.new_free hm e
  · have := (h.ans.lt _ e).2; omega
theorem I2.tape_free (h : I2 A w rb n cells l tv av wr) (hm : m < n) : tv.ownBlock ≠ some (rb + 1 + m) := fun e => by
  have := (h.tape.row.lt _ e).1; omega


theorem I2.step {x : A4} {tv' av' : Value} (h : I2 A w rb n cells l tv av wq) (hn : n = cells.length) (hm : x.at_ = (m : Int)) (hmn : m < n)
    (g1 : TapeAt w2 (rb + 2 + n) (rb + 1 + n) tv' (l.map (·.k) ++ [x.k]))
    (g2 : w2.heap[rb + 1 + m]? = some (.cells #[.pointer (thP A (numNew x.k ((numTo cells l).2.getD m 0) x.a x.b))] 174 (0, 0)))
    (g3 : Turns (actI rb n m tv) wq w2) (g4 : ∀ g, tv'.ownBlock = some g → tv.ownBlock = some g ∨ wq.heap.size ≤ g)
    (hown : w3.ownsRow (rb + 2 + n) 3 1 av' (l.length + 1) ((numTo cells l).1.map (Value.int .i64) ++ [.int .i64 (numAns x.k ((numTo cells l).2.getD m 0) x.a)]))
    (ht : Turns (fun i => av.ownBlock = some i) w2 w3) (hat : ∀ g, av'.ownBlock = some g → av.ownBlock = some g ∨ w2.heap.size ≤ g) :
    I2 A w rb n cells (l ++ [x]) tv' av' w3 := by
  have hlt := h.ans.lt
  have hsz := h.size
  have h1 : ∀ g, tv'.ownBlock = some g → av.ownBlock ≠ some g := fun g hg e => by
    rcases g4 g hg with h5 | h5
    · exact h.ne g e h5
    · have := (hlt g e).2; omega
  have hT : Turns (fun i => actI rb n m tv i ∨ av.ownBlock = some i) wq w3 := (g3.mono (fun _ _ h => .inl h)).trans (ht.mono (fun _ _ h => .inr h))
  have hmt : x.at_.toNat = m := by rw [hm]; rfl
  have hst := numTo_step cells l x
  refine ⟨h.below.trans (hT.below (fun k hk _ => ?_) h.below.size), ?_, ?_, ?_, ?_, ?_, h.low⟩
  · have hlow := h.low
    rcases hk with (hk | hk | hk) | hk
    · omega
    · omega
    · have := (h.tape.row.lt _ hk).1; omega
    · have := (hlt _ hk).1; omega
  · rw [hst]
    simp only [numStep, hmt]
    refine h.row.set hT (ht.heap g2 (fun e => ?_)) (fun i hi hne e => ?_)
    · have := (hlt _ e).1; omega
    · rcases e with (e | e | e) | e
      · omega
      · omega
      · have := (h.tape.row.lt _ e).1; omega
      · have := (hlt _ e).1; omega
  · rw [List.map_append]
    exact g1.turns ht (fun e => by have := (hlt _ e).1; omega) h1
  · rw [hst]
    simp only [numStep, hmt, List.map_append, List.length_append, List.length_cons, List.length_nil]
    exact hown
  · intro g hg e
    rcases hat g hg with h5 | h5
    · exact h1 g e h5
    · have := (g1.row.lt g e).2
      omega
  · exact Nat.le_trans hsz hT.size
end
/-- THE LAST LOOP: j of the numbers have been read. -/
structure I3 (A : Nat) (w : World) (rb n : Nat) (cells : List Int) (l : List A4) (tv av ev : Value) (j : Nat) (wx : World) : Prop where
  i2 : I2 A w rb n cells l tv av wx
  out : wx.ownsRow (rb + 2 + n) 3 1 ev j (((numTo cells l).2.take j).map (Value.int .i64))
  ne : ∀ g, ev.ownBlock = some g → av.ownBlock ≠ some g ∧ tv.ownBlock ≠ some g


theorem I3.step {w wx w3 : World} {A rb n j : Nat} {cells : List Int} {l : List A4} {tv av ev ev' : Value} (h : I3 A w rb n cells l tv av ev j wx) (hn : n = cells.length) (hj : j < n)
    (hown : w3.ownsRow (rb + 2 + n) 3 1 ev' (j + 1) (((numTo cells l).2.take j).map (Value.int .i64) ++ [.int .i64 ((numTo cells l).2.getD j 0)]))
    (ht : Turns (fun k => ev.ownBlock = some k) wx w3) (hb : ∀ g, ev'.ownBlock = some g → ev.ownBlock = some g ∨ wx.heap.size ≤ g) : I3 A w rb n cells l tv av ev' (j + 1) w3 := by
  have hlen := numTo_len cells l
  have hlow := h.i2.low
  have hlt := h.out.lt
  refine ⟨⟨h.i2.below.trans (ht.below (fun k hk _ => by have := (hlt k hk).1; omega) h.i2.below.size), h.i2.row.turns ht (fun i hi e => by have := (hlt _ e).1; omega),
    h.i2.tape.turns ht (fun e => by have := (hlt _ e).1; omega) (fun k hk e => (h.ne k e).2 hk), ht.row h.i2.ans (fun k hk e => (h.ne k e).1 hk), h.i2.ne, Nat.le_trans h.i2.size ht.size, hlow⟩, ?_, ?_⟩
  · rw [List.take_succ_eq_append_getElem (by omega)]
    rw [List.getD_eq_getElem?_getD, List.getElem?_eq_getElem (by omega)] at hown
    rw [List.map_append]
    exact hown
  · intro g hg
    rcases hb g hg with h5 | h5
    · exact h.ne g h5
    · exact ⟨fun e => by have := (h.i2.ans.lt g e).2; omega, fun e => by have := (h.i2.tape.row.lt g e).2; omega⟩

end Go.Proofs.Ytjifoggfndicoaa
