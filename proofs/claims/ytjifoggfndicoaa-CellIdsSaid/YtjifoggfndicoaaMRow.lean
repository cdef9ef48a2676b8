/-
  DERIVED. PLAIN and of the world: the row of marks of Marks, and what holds in its loops.
-/
import Derived.Test.YtjifoggfndicoaaMPlain
import Derived.Test.YtjifoggfndicoaaNums
namespace Go.Proofs.Ytjifoggfndicoaa
open Go.RowKit
set_option maxRecDepth 100000

/-- THE ROW OF MARKS: rb the row's block (n places, the first j of them filled), the numbers behind it one by one. -/
structure MarkRow (w : World) (rb n j : Nat) (vals : List Int) : Prop where
  row : ∃ c : Array Value, w.heap[rb]? = some (.cells c 78 (0, 0)) ∧ c.size = n ∧ ∀ i, i < j → c[i]? = some (.pointer (some ⟨rb + 1 + i, 0, none⟩))
  nums : ∀ (i : Nat) (h : i < vals.length), i < j → w.heap[rb + 1 + i]? = some (.cells #[.int .u32 vals[i]] 84 (0, 0))

theorem MarkRow.turns {S : Nat → Prop} {w w' : World} {rb n j : Nat} {vals : List Int} (h : MarkRow w rb n j vals) (ht : Turns S w w') (hS : ∀ i, i ≤ j → ¬ S (rb + i)) : MarkRow w' rb n j vals := by
  obtain ⟨c, h1, h2, h3⟩ := h.row
  refine ⟨⟨c, ht.heap h1 (hS 0 (Nat.zero_le _)), h2, h3⟩, fun i hi hj => ht.heap (h.nums i hi hj) ?_⟩
  have := hS (i + 1) (by omega)
  rwa [show rb + (i + 1) = rb + 1 + i by omega] at this

theorem MarkRow.cell {w : World} {rb n j : Nat} {vals : List Int} (h : MarkRow w rb n j vals) {i : Nat} (hi : i < j) : w.cell? ⟨rb, i, none⟩ = some (.pointer (some ⟨rb + 1 + i, 0, none⟩)) := by
  obtain ⟨c, h1, h2, h3⟩ := h.row
  exact cell_of_heap h1 (h3 i hi)

theorem MarkRow.push {wr : World} {rb n j : Nat} {vals : List Int} (h : MarkRow wr rb n j vals) (hsz : wr.heap.size = rb + 1 + j) (hj : j < vals.length) (hn : j < n) :
    MarkRow ((wr.alloc (.cells #[.int .u32 vals[j]] 84)).setCell ⟨rb, j, none⟩ (.pointer (some ⟨wr.heap.size, 0, none⟩))) rb n (j + 1) vals ∧
    ((wr.alloc (.cells #[.int .u32 vals[j]] 84)).setCell ⟨rb, j, none⟩ (.pointer (some ⟨wr.heap.size, 0, none⟩))).heap.size = rb + 1 + (j + 1) := by
  obtain ⟨c, h1, h2, h3⟩ := h.row
  have h1' : (wr.alloc (.cells #[.int .u32 vals[j]] 84)).heap[rb]? = some (.cells c 78 (0, 0)) := (Turns.alloc (fun _ => False) wr _).heap h1 (fun h => h)
  refine ⟨⟨⟨_, heap_setCell h1' _, by simpa using h2, fun i hi => ?_⟩, fun i hi hij => ?_⟩, by simp [World.setCell]; omega⟩
  · by_cases e : i = j
    · subst e
      rw [Array.getElem?_setIfInBounds_self, hsz]
      simp [h2, hn]
    · rw [Array.getElem?_setIfInBounds_ne (fun h => e h.symm)]
      exact h3 i (by omega)
  · rw [heap_setCell_ne (by omega)]
    by_cases e : i = j
    · subst e
      rw [← hsz]
      exact heap_alloc_new wr _
    · exact (Turns.alloc (fun _ => False) wr _).heap (h.nums i hi (by omega)) (fun h => h)

theorem MarkRow.set {S : Nat → Prop} {w w' : World} {rb n m : Nat} {vals : List Int} {y : Int} (h : MarkRow w rb n n vals) (ht : Turns S w w') (hy : w'.heap[rb + 1 + m]? = some (.cells #[.int .u32 y] 84 (0, 0)))
    (hS : ∀ i, i ≤ n → i ≠ m + 1 → ¬ S (rb + i)) : MarkRow w' rb n n (vals.set m y) := by
  obtain ⟨c, h1, h2, h3⟩ := h.row
  refine ⟨⟨c, ht.heap h1 (hS 0 (Nat.zero_le _) (by omega)), h2, h3⟩, fun i hi hj => ?_⟩
  have hi' : i < vals.length := by simpa using hi
  by_cases e : i = m
  · subst e
    rw [hy]
    simp
  · rw [List.getElem_set_ne (fun h => e h.symm)]
    refine ht.heap (h.nums i hi' hj) ?_
    have := hS (i + 1) (by omega) (by omega)
    rwa [show rb + (i + 1) = rb + 1 + i by omega] at this


theorem info_ptrM : (Try.prog.info? 78).map (fun i => (i.zero, i.size, i.bytes)) = some (some (.pointer none), 1, 8) := by kernel_rfl

/-- THE LOOP OVER THE ACTS: what holds when l of them have been done. -/
structure K2 (w : World) (rb n : Nat) (cells : List Int) (l : List A4) (tv av : Value) (wx : World) : Prop where
  below : Below w.heap.size w wx
  row : MarkRow wx rb n n (numTo cells l).2
  tape : TapeAt wx (rb + 2 + n) (rb + 1 + n) tv (l.map (·.k))
  ans : wx.ownsRow (rb + 2 + n) 4 1 av l.length ((ones (numTo cells l).1).map Value.bool)
  ne : ∀ g, av.ownBlock = some g → tv.ownBlock ≠ some g
  size : rb + 2 + n ≤ wx.heap.size
  low : w.heap.size ≤ rb

section
variable {w wr wq w2 w3 : World} {rb n m : Nat} {cells : List Int} {l : List A4} {tv av : Value}

/-- the blocks that an act on number m may turn. -/
def actM (rb n m : Nat) (tv : Value) : Nat → Prop := fun i => i = rb + 1 + m ∨ i = rb + 1 + n ∨ tv.ownBlock = some i

theorem K2.num (h : K2 w rb n cells l tv av wr) (hn : n = cells.length) (hm : m < n) : wr.heap[rb + 1 + m]? = some (.cells #[.int .u32 ((numTo cells l).2.getD m 0)] 84 (0, 0)) := by
  have hlen := numTo_len cells l
  have := h.row.nums m (by omega) hm
  rw [List.getD_eq_getElem?_getD, List.getElem?_eq_getElem (by omega)]
  exact this
theorem K2.turns (h : K2 w rb n cells l tv av wr) (ht : Turns (fun _ => False) wr wq) : K2 w rb n cells l tv av wq :=
  ⟨h.below.trans (ht.below (fun _ h => h.elim) h.below.size), h.row.turns ht (fun _ _ h => h), h.tape.turns ht (fun h => h) (fun _ _ h => h), ht.row h.ans (fun _ _ h => h), h.ne, Nat.le_trans h.size ht.size, h.low⟩
theorem K2.row_free (h : K2 w rb n cells l tv av wr) : ¬ actM rb n m tv rb := fun e => by
  rcases e with e | e | e
  · omega
  · omega
  · have := (h.tape.row.lt _ e).1; omega
theorem K2.new_free (h : K2 w rb n cells l tv av wr) (hm : m < n) : ¬ actM rb n m tv wr.heap.size := fun e => by
  have := h.size
  rcases e with e | e | e
  · omega
  · omega
  · have := (h.tape.row.lt _ e).2; omega
theorem K2.ans_free (h : K2 w rb n cells l tv av wr) (hm : m < n) : ∀ g, av.ownBlock = some g → ¬ actM rb n m tv g := fun g hg e => by
  have h0 := (h.ans.lt _ hg).1
  rcases e with e | e | e
  · omega
  · omega
  · exact h.ne g hg e
theorem K2.row_free2 (h : K2 w rb n cells l tv av wr) : ¬ (actM rb n m tv rb ∨ av.ownBlock = some rb) := fun e => by
  rcases e with e | e
  · exact h.row_free e
  · have := (h.ans.lt _ e).1; omega
theorem K2.new_free2 (h : K2 w rb n cells l tv av wr) (hm : m < n) : ¬ (actM rb n m tv wr.heap.size ∨ av.ownBlock = some wr.heap.size) := fun e => by
  rcases e with e | e
  · exact h.new_free hm e
  · have := (h.ans.lt _ e).2; omega
theorem K2.tape_free (h : K2 w rb n cells l tv av wr) (hm : m < n) : tv.ownBlock ≠ some (rb + 1 + m) := fun e => by
  have := (h.tape.row.lt _ e).1; omega


theorem K2.step {x : A4} {tv' av' : Value} (h : K2 w rb n cells l tv av wq) (hn : n = cells.length) (hm : x.at_ = (m : Int)) (hmn : m < n)
    (g1 : TapeAt w2 (rb + 2 + n) (rb + 1 + n) tv' (l.map (·.k) ++ [x.k]))
    (g2 : w2.heap[rb + 1 + m]? = some (.cells #[.int .u32 (numNew x.k ((numTo cells l).2.getD m 0) x.a x.b)] 84 (0, 0)))
    (g3 : Turns (actM rb n m tv) wq w2) (g4 : ∀ g, tv'.ownBlock = some g → tv.ownBlock = some g ∨ wq.heap.size ≤ g)
    (hown : w3.ownsRow (rb + 2 + n) 4 1 av' (l.length + 1) ((ones (numTo cells l).1).map Value.bool ++ [.bool (numAns x.k ((numTo cells l).2.getD m 0) x.a == 1)]))
    (ht : Turns (fun i => av.ownBlock = some i) w2 w3) (hat : ∀ g, av'.ownBlock = some g → av.ownBlock = some g ∨ w2.heap.size ≤ g) :
    K2 w rb n cells (l ++ [x]) tv' av' w3 := by
  have hlt := h.ans.lt
  have hsz := h.size
  have h1 : ∀ g, tv'.ownBlock = some g → av.ownBlock ≠ some g := fun g hg e => by
    rcases g4 g hg with h5 | h5
    · exact h.ne g e h5
    · have := (hlt g e).2; omega
  have hT : Turns (fun i => actM rb n m tv i ∨ av.ownBlock = some i) wq w3 := (g3.mono (fun _ _ h => .inl h)).trans (ht.mono (fun _ _ h => .inr h))
  have hmt : x.at_.toNat = m := by rw [hm]; rfl
  have hst := numTo_step cells l x
  refine ⟨h.below.trans (hT.below (fun k hk _ => ?_) h.below.size), ?_, ?_, ?_, ?_, ?_, h.low⟩
  · have hlow := h.low
    rcases hk with (hk | hk | hk) | hk
    · omega
    · omega
    · have := (h.tape.row.lt _ hk).1; omega
    · have := (hlt _ hk).1; omega
  · rw [hst]
    simp only [numStep, hmt]
    refine h.row.set hT (ht.heap g2 (fun e => ?_)) (fun i hi hne e => ?_)
    · have := (hlt _ e).1; omega
    · rcases e with (e | e | e) | e
      · omega
      · omega
      · have := (h.tape.row.lt _ e).1; omega
      · have := (hlt _ e).1; omega
  · rw [List.map_append]
    exact g1.turns ht (fun e => by have := (hlt _ e).1; omega) h1
  · rw [hst]
    simp only [numStep, hmt, ones, List.map_append, List.length_append, List.length_cons, List.length_nil]
    exact hown
  · intro g hg e
    rcases hat g hg with h5 | h5
    · exact h1 g e h5
    · have := (g1.row.lt g e).2
      omega
  · exact Nat.le_trans hsz hT.size
end
/-- THE LAST LOOP: j of the numbers have been read. -/
structure K3 (w : World) (rb n : Nat) (cells : List Int) (l : List A4) (tv av ev : Value) (j : Nat) (wx : World) : Prop where
  k2 : K2 w rb n cells l tv av wx
  out : wx.ownsRow (rb + 2 + n) 4 1 ev j ((ones ((numTo cells l).2.take j)).map Value.bool)
  ne : ∀ g, ev.ownBlock = some g → av.ownBlock ≠ some g ∧ tv.ownBlock ≠ some g


theorem K3.step {w wx w3 : World} {rb n j : Nat} {cells : List Int} {l : List A4} {tv av ev ev' : Value} (h : K3 w rb n cells l tv av ev j wx) (hn : n = cells.length) (hj : j < n)
    (hown : w3.ownsRow (rb + 2 + n) 4 1 ev' (j + 1) ((ones ((numTo cells l).2.take j)).map Value.bool ++ [.bool ((numTo cells l).2.getD j 0 == 1)]))
    (ht : Turns (fun k => ev.ownBlock = some k) wx w3) (hb : ∀ g, ev'.ownBlock = some g → ev.ownBlock = some g ∨ wx.heap.size ≤ g) : K3 w rb n cells l tv av ev' (j + 1) w3 := by
  have hlen := numTo_len cells l
  have hlow := h.k2.low
  have hlt := h.out.lt
  refine ⟨⟨h.k2.below.trans (ht.below (fun k hk _ => by have := (hlt k hk).1; omega) h.k2.below.size), h.k2.row.turns ht (fun i hi e => by have := (hlt _ e).1; omega),
    h.k2.tape.turns ht (fun e => by have := (hlt _ e).1; omega) (fun k hk e => (h.ne k e).2 hk), ht.row h.k2.ans (fun k hk e => (h.ne k e).1 hk), h.k2.ne, Nat.le_trans h.k2.size ht.size, hlow⟩, ?_, ?_⟩
  · rw [List.take_succ_eq_append_getElem (by omega)]
    rw [List.getD_eq_getElem?_getD, List.getElem?_eq_getElem (by omega)] at hown
    rw [ones, List.map_append, List.map_append]
    exact hown
  · intro g hg
    rcases hb g hg with h5 | h5
    · exact h.ne g h5
    · exact ⟨fun e => by have := (h.k2.ans.lt g e).2; omega, fun e => by have := (h.k2.tape.row.lt g e).2; omega⟩

/-- an act on a mark, the tape noting it: what each of the four leaves. -/
def MPost (base nb tb : Nat) (tv : Value) (ks : List Int) (k : Int) (y : Int) (w w' : World) : Prop :=
  ∃ tv', TapeAt w' base tb tv' (ks ++ [k]) ∧ w'.heap[nb]? = some (.cells #[.int .u32 y] 84 (0, 0)) ∧ Turns (fun i => i = nb ∨ i = tb ∨ tv.ownBlock = some i) w w' ∧ (∀ g, tv'.ownBlock = some g → tv.ownBlock = some g ∨ w.heap.size ≤ g)

section
variable {base nb tb : Nat} {tv : Value} {ks : List Int} {x : Int} {w : World}

theorem mark_ne (ht : TapeAt w base tb tv ks) (hn : w.heap[nb]? = some (.cells #[.int .u32 x] 84 (0, 0))) : nb ≠ tb := fun h => by
  have h1 := ht.blk
  rw [← h, hn] at h1
  simp at h1

theorem mpost_of {k y : Int} {v' : Value} {w1 : World} (ht : TapeAt w base tb tv ks) (hn : w.heap[nb]? = some (.cells #[.int .u32 x] 84 (0, 0))) (hne : tv.ownBlock ≠ some nb)
    (h1 : TapeAt w1 base tb v' (ks ++ [k])) (h2 : Turns (fun b => b = tb ∨ tv.ownBlock = some b) w w1) (h3 : ∀ g, v'.ownBlock = some g → tv.ownBlock = some g ∨ w.heap.size ≤ g) :
    MPost base nb tb tv ks k y w (w1.setCell ⟨nb, 0, none⟩ (.int .u32 y)).drew := by
  have hnt := mark_ne ht hn
  have hlt := heap_lt hn
  have hn2 : w1.heap[nb]? = some (.cells #[.int .u32 x] 84 (0, 0)) := h2.heap hn (fun h => by rcases h with h | h; exact hnt h; exact hne h)
  refine ⟨v', ?_, ?_, ?_, ?_⟩
  · refine h1.turns ((Turns.setCell (S := fun i => i = nb) w1 rfl _).trans (Turns.drew _ _)) (fun h => hnt h.symm) (fun k hk e => ?_)
    subst e
    rcases h3 _ hk with h4 | h4
    · exact hne h4
    · omega
  · show (w1.setCell ⟨nb, 0, none⟩ (.int .u32 y)).heap[nb]? = _
    rw [heap_setCell hn2]; simp
  · exact ((h2.mono (fun i _ hi => .inr hi)).trans (Turns.setCell w1 (.inl rfl) _)).trans (Turns.drew _ _)
  · exact h3

theorem mtape_load (ht : TapeAt w base tb tv ks) (hn : w.heap[nb]? = some (.cells #[.int .u32 x] 84 (0, 0))) (hks : (ks.length + 1) * 8 ≤ 140737488355328) (hbase : base ≤ w.heap.size) (hne : tv.ownBlock ≠ some nb) :
    Calls Try.prog 37 #[.pointer (some ⟨nb, 0, none⟩), .iface 35 (.pointer (some ⟨tb, 0, none⟩))] w fun e w' => e = .returned (.bool (x != 0)) ∧ MPost base nb tb tv ks 1 x w w' := by
  have hnt := mark_ne ht hn
  have hp := pass_tape base tb tv ks 1 _ ht hks hbase
  refine (mark_load _ nb x w _ hp ?_).mono ?_
  · rintro w1 ⟨v', h1, h2, h3⟩
    exact h2.heap hn (fun h => by rcases h with h | h; exact hnt h; exact hne h)
  · rintro e w' ⟨rfl, v', h1, h2, h3⟩
    exact ⟨rfl, v', h1, h2.heap hn (fun h => by rcases h with h | h; exact hnt h; exact hne h), h2.mono (fun i _ hi => .inr hi), h3⟩
theorem mtape_store (d : Bool) (ht : TapeAt w base tb tv ks) (hn : w.heap[nb]? = some (.cells #[.int .u32 x] 84 (0, 0))) (hks : (ks.length + 1) * 8 ≤ 140737488355328) (hbase : base ≤ w.heap.size) (hne : tv.ownBlock ≠ some nb) :
    Calls Try.prog 75 #[.pointer (some ⟨nb, 0, none⟩), .iface 35 (.pointer (some ⟨tb, 0, none⟩)), .bool d] w fun e w' => e = .returned (.tuple #[]) ∧ MPost base nb tb tv ks 2 (bitOf d) w w' := by
  have hnt := mark_ne ht hn
  have hp := pass_tape base tb tv ks 2 _ ht hks hbase
  refine (mark_store _ nb x d w _ hp ?_).mono ?_
  · rintro w1 ⟨v', h1, h2, h3⟩
    exact h2.heap hn (fun h => by rcases h with h | h; exact hnt h; exact hne h)
  · rintro e w' ⟨rfl, w1, ⟨v', h1, h2, h3⟩, rfl⟩
    exact ⟨rfl, mpost_of ht hn hne h1 h2 h3⟩
theorem mtape_swap (d : Bool) (ht : TapeAt w base tb tv ks) (hn : w.heap[nb]? = some (.cells #[.int .u32 x] 84 (0, 0))) (hks : (ks.length + 1) * 8 ≤ 140737488355328) (hbase : base ≤ w.heap.size) (hne : tv.ownBlock ≠ some nb) :
    Calls Try.prog 39 #[.pointer (some ⟨nb, 0, none⟩), .iface 35 (.pointer (some ⟨tb, 0, none⟩)), .bool d] w fun e w' => e = .returned (.bool (x != 0)) ∧ MPost base nb tb tv ks 4 (bitOf d) w w' := by
  have hnt := mark_ne ht hn
  have hp := pass_tape base tb tv ks 4 _ ht hks hbase
  refine (mark_swap _ nb x d w _ hp ?_).mono ?_
  · rintro w1 ⟨v', h1, h2, h3⟩
    exact h2.heap hn (fun h => by rcases h with h | h; exact hnt h; exact hne h)
  · rintro e w' ⟨rfl, w1, ⟨v', h1, h2, h3⟩, rfl⟩
    exact ⟨rfl, mpost_of ht hn hne h1 h2 h3⟩
theorem mtape_cas (o d : Bool) (ht : TapeAt w base tb tv ks) (hn : w.heap[nb]? = some (.cells #[.int .u32 x] 84 (0, 0))) (hks : (ks.length + 1) * 8 ≤ 140737488355328) (hbase : base ≤ w.heap.size) (hne : tv.ownBlock ≠ some nb) :
    Calls Try.prog 38 #[.pointer (some ⟨nb, 0, none⟩), .iface 35 (.pointer (some ⟨tb, 0, none⟩)), .bool o, .bool d] w fun e w' => e = .returned (.bool (x == bitOf o)) ∧ MPost base nb tb tv ks 5 (casNew x (bitOf o) (bitOf d)) w w' := by
  have hnt := mark_ne ht hn
  have hp := pass_tape base tb tv ks 5 _ ht hks hbase
  refine (mark_cas _ nb x o d w _ hp ?_).mono ?_
  · rintro w1 ⟨v', h1, h2, h3⟩
    exact h2.heap hn (fun h => by rcases h with h | h; exact hnt h; exact hne h)
  · rintro e w' ⟨rfl, w1, ⟨v', h1, h2, h3⟩, rfl⟩
    exact ⟨rfl, mpost_of ht hn hne h1 h2 h3⟩
end

end Go.Proofs.Ytjifoggfndicoaa
