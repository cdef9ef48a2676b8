/-
  DERIVED. THE WALK over larchlaw02's CellGates.
-/
import Derived.Test.YtjifoggfndicoaaNum4
import Derived.Test.YtjifoggfndicoaaRefn
import Derived.Test.YtjifoggfndicoaaShut
namespace Go.Proofs.Ytjifoggfndicoaa
open Go.RowKit
set_option maxRecDepth 100000

/-- an act by the methods, the tape noting it. -/
theorem num4_tape (base nb tb : Nat) (tv : Value) (ks : List Int) (x k at_ a b : Int) (w : World) (hk : 1 ≤ k ∧ k ≤ 7) (ht : TapeAt w base tb tv ks) (hn : w.heap[nb]? = some (.cells #[.int .i64 x] 45 (0, 0)))
    (hks : (ks.length + 1) * 8 ≤ 140737488355328) (hbase : base ≤ w.heap.size) (hne : tv.ownBlock ≠ some nb) :
    Calls Try.prog 19 #[.pointer (some ⟨nb, 0, none⟩), .iface 35 (.pointer (some ⟨tb, 0, none⟩)), actV k at_ a b] w fun e w' => e = .returned (.int .i64 (numAns k x a)) ∧
      ∃ tv', TapeAt w' base tb tv' (ks ++ [k]) ∧ w'.heap[nb]? = some (.cells #[.int .i64 (numNew k x a b)] 45 (0, 0)) ∧ Turns (fun i => i = nb ∨ i = tb ∨ tv.ownBlock = some i) w w' ∧ (∀ g, tv'.ownBlock = some g → tv.ownBlock = some g ∨ w.heap.size ≤ g) := by
  have hlt := heap_lt hn
  have hnt : nb ≠ tb := fun h => by
    have h1 := ht.blk
    rw [← h, hn] at h1
    simp at h1
  have ht1 : TapeAt (w.alloc (.cells #[.int .i64 k, .int .i64 at_, .int .i64 a, .int .i64 b] 47)) base tb tv ks := ht.turns (Turns.alloc (fun _ => False) w _) (fun h => h) (fun _ _ h => h)
  have hn1 : (w.alloc (.cells #[.int .i64 k, .int .i64 at_, .int .i64 a, .int .i64 b] 47)).heap[nb]? = some (.cells #[.int .i64 x] 45 (0, 0)) := (Turns.alloc (fun _ => False) w _).heap hn (fun h => h)
  have hp := pass_tape base tb tv ks k _ ht1 hks (by simp; omega)
  refine (num4_any _ nb x k at_ a b hk w _ hp ?_).mono ?_
  · rintro w1 ⟨v', h1, h2, h3⟩
    refine h2.heap hn1 (fun h => ?_)
    rcases h with h | h
    · exact hnt h
    · exact hne h
  · rintro e w' ⟨he, w1, ⟨v', h1, h2, h3⟩, rfl⟩
    have hn2 : w1.heap[nb]? = some (.cells #[.int .i64 x] 45 (0, 0)) := h2.heap hn1 (fun h => by rcases h with h | h; exact hnt h; exact hne h)
    refine ⟨he, v', ?_, ?_, ?_, ?_⟩
    · refine h1.turns (Turns.setCell (S := fun i => i = nb) w1 rfl _) (fun h => hnt h.symm) (fun k hk e => ?_)
      subst e
      rcases h3 _ hk with h4 | h4
      · exact hne h4
      · simp at h4; omega
    · rw [heap_setCell hn2]; simp
    · exact ((Turns.alloc _ w _).trans (h2.mono (fun i _ hi => .inr hi))).trans (Turns.setCell w1 (.inl rfl) _)
    · intro g hg
      rcases h3 g hg with h4 | h4
      · exact .inl h4
      · exact .inr (by simp at h4; omega)

/-- an act by the methods, nobody asked. -/
theorem num4_nil (nb : Nat) (x k at_ a b : Int) (w : World) (hk : 1 ≤ k ∧ k ≤ 7) (hn : w.heap[nb]? = some (.cells #[.int .i64 x] 45 (0, 0))) :
    Calls Try.prog 19 #[.pointer (some ⟨nb, 0, none⟩), .nilIface, actV k at_ a b] w fun e w' => e = .returned (.int .i64 (numAns k x a)) ∧
      w'.heap[nb]? = some (.cells #[.int .i64 (numNew k x a b)] 45 (0, 0)) ∧ Turns (fun i => i = nb) w w' := by
  have hn1 : (w.alloc (.cells #[.int .i64 k, .int .i64 at_, .int .i64 a, .int .i64 b] 47)).heap[nb]? = some (.cells #[.int .i64 x] 45 (0, 0)) := (Turns.alloc (fun _ => False) w _).heap hn (fun h => h)
  refine (num4_any .nilIface nb x k at_ a b hk w (fun w' => _ = w') (pass_nil k _) (by rintro w1 rfl; exact hn1)).mono ?_
  rintro e w' ⟨he, w1, rfl, rfl⟩
  refine ⟨he, by rw [heap_setCell hn1]; simp, (Turns.alloc _ w _).trans (Turns.setCell (S := fun i => i = nb) _ rfl _)⟩

theorem RowI.ints {w : World} {B n c : Nat} {a : Option Addr} {xs : List Int} (h : RowI w B (.slice a n c) xs) : IntsIn w a xs := by
  obtain ⟨a', c', e, hi⟩ := h.intsIn
  injection e with e1
  rw [e1]
  exact hi

/-- WHAT STANDS: the tape at s, the two numbers behind it, the reference's row, the kinds. -/
structure GI (w : World) (s : Nat) (x1 x2 x3 : Int) (ks1 ks2 : List Int) (tv kv : Value) (wx : World) : Prop where
  below : Below w.heap.size w wx
  low : w.heap.size ≤ s
  tape : TapeAt wx (s + 4) s tv ks1
  one : wx.heap[s + 1]? = some (.cells #[.int .i64 x1] 45 (0, 0))
  two : wx.heap[s + 2]? = some (.cells #[.int .i64 x2] 45 (0, 0))
  now : wx.heap[s + 3]? = some (.cells #[.int .i64 x3] 3 (0, 0))
  kinds : RowI wx (s + 4) kv ks2
  ne : ∀ g, kv.ownBlock = some g → tv.ownBlock ≠ some g
  size : s + 4 ≤ wx.heap.size

section
variable {w wx w' : World} {s : Nat} {x1 x2 x3 : Int} {ks1 ks2 : List Int} {tv kv : Value}

theorem GI.quiet (h : GI w s x1 x2 x3 ks1 ks2 tv kv wx) (ht : Turns (fun _ => False) wx w') : GI w s x1 x2 x3 ks1 ks2 tv kv w' :=
  ⟨h.below.trans (ht.below (fun _ h => h.elim) h.below.size), h.low, h.tape.turns ht (fun h => h) (fun _ _ h => h), ht.heap h.one (fun h => h), ht.heap h.two (fun h => h), ht.heap h.now (fun h => h), ht.row h.kinds (fun _ _ h => h), h.ne, Nat.le_trans h.size ht.size⟩
theorem GI.quietBelow (h : GI w s x1 x2 x3 ks1 ks2 tv kv wx) (hb : Below wx.heap.size wx w') : GI w s x1 x2 x3 ks1 ks2 tv kv w' :=
  h.quiet (Turns.of_below hb (fun k h1 h2 => by omega))
theorem GI.setNow (h : GI w s x1 x2 x3 ks1 ks2 tv kv wx) {y : Int} (ht : Turns (fun i => i = s + 3) wx w') (hy : w'.heap[s + 3]? = some (.cells #[.int .i64 y] 3 (0, 0))) : GI w s x1 x2 y ks1 ks2 tv kv w' := by
  have hl := h.low
  have ht1 := h.tape.row.lt
  have hk1 := h.kinds.lt
  exact ⟨h.below.trans (ht.below (fun k hk _ => by omega) h.below.size), h.low, h.tape.turns ht (by omega) (fun k hk e => by have := (ht1 k hk).1; omega), ht.heap h.one (by omega), ht.heap h.two (by omega), hy,
    ht.row h.kinds (fun k hk e => by have := (hk1 k hk).1; omega), h.ne, Nat.le_trans h.size ht.size⟩
theorem GI.setTwo (h : GI w s x1 x2 x3 ks1 ks2 tv kv wx) {y : Int} (ht : Turns (fun i => i = s + 2) wx w') (hy : w'.heap[s + 2]? = some (.cells #[.int .i64 y] 45 (0, 0))) : GI w s x1 y x3 ks1 ks2 tv kv w' := by
  have hl := h.low
  have ht1 := h.tape.row.lt
  have hk1 := h.kinds.lt
  exact ⟨h.below.trans (ht.below (fun k hk _ => by omega) h.below.size), h.low, h.tape.turns ht (by omega) (fun k hk e => by have := (ht1 k hk).1; omega), ht.heap h.one (by omega), hy, ht.heap h.now (by omega),
    ht.row h.kinds (fun k hk e => by have := (hk1 k hk).1; omega), h.ne, Nat.le_trans h.size ht.size⟩
theorem GI.setOne (h : GI w s x1 x2 x3 ks1 ks2 tv kv wx) {y k : Int} {tv' : Value} (g1 : TapeAt w' (s + 4) s tv' (ks1 ++ [k])) (hy : w'.heap[s + 1]? = some (.cells #[.int .i64 y] 45 (0, 0)))
    (ht : Turns (fun i => i = s + 1 ∨ i = s ∨ tv.ownBlock = some i) wx w') (hn : ∀ g, tv'.ownBlock = some g → tv.ownBlock = some g ∨ wx.heap.size ≤ g) : GI w s y x2 x3 (ks1 ++ [k]) ks2 tv' kv w' := by
  have hl := h.low
  have ht1 := h.tape.row.lt
  have hk1 := h.kinds.lt
  have hS : ∀ i, i < s + 4 → i ≠ s + 1 → i ≠ s → ¬ (i = s + 1 ∨ i = s ∨ tv.ownBlock = some i) := fun i h1 h2 h3 e => by
    rcases e with e | e | e
    · exact h2 e
    · exact h3 e
    · have := (ht1 i e).1; omega
  refine ⟨h.below.trans (ht.below (fun k hk _ => ?_) h.below.size), h.low, g1, hy, ht.heap h.two (hS _ (by omega) (by omega) (by omega)), ht.heap h.now (hS _ (by omega) (by omega) (by omega)), ht.row h.kinds (fun k hk e => ?_), fun g hg e => ?_, Nat.le_trans h.size ht.size⟩
  · rcases hk with hk | hk | hk
    · omega
    · omega
    · have := (ht1 k hk).1; omega
  · rcases e with e | e | e
    · have := (hk1 k hk).1; omega
    · have := (hk1 k hk).1; omega
    · exact h.ne k hk e
  · rcases hn g e with h5 | h5
    · exact h.ne g hg h5
    · have := (hk1 g hg).2; omega
theorem GI.setTape (h : GI w s x1 x2 x3 ks1 ks2 tv kv wx) {k : Int} {tv' : Value} (g1 : TapeAt w' (s + 4) s tv' (ks1 ++ [k]))
    (ht : Turns (fun i => i = s ∨ tv.ownBlock = some i) wx w') (hn : ∀ g, tv'.ownBlock = some g → tv.ownBlock = some g ∨ wx.heap.size ≤ g) : GI w s x1 x2 x3 (ks1 ++ [k]) ks2 tv' kv w' := by
  have ht1 := h.tape.row.lt
  exact h.setOne g1 (ht.heap h.one (fun e => by rcases e with e | e; omega; have := (ht1 _ e).1; omega)) (ht.mono (fun _ _ e => .inr e)) hn
theorem GI.setKinds (h : GI w s x1 x2 x3 ks1 ks2 tv kv wx) {ks' : List Int} {kv' : Value} (g1 : RowI w' (s + 4) kv' ks')
    (ht : Turns (fun i => kv.ownBlock = some i) wx w') (hn : ∀ g, kv'.ownBlock = some g → kv.ownBlock = some g ∨ wx.heap.size ≤ g) : GI w s x1 x2 x3 ks1 ks' tv kv' w' := by
  have hl := h.low
  have ht1 := h.tape.row.lt
  have hk1 := h.kinds.lt
  refine ⟨h.below.trans (ht.below (fun k hk _ => by have := (hk1 k hk).1; omega) h.below.size), h.low, h.tape.turns ht (fun e => by have := (hk1 _ e).1; omega) (fun k hk e => h.ne k e hk), ht.heap h.one (fun e => by have := (hk1 _ e).1; omega),
    ht.heap h.two (fun e => by have := (hk1 _ e).1; omega), ht.heap h.now (fun e => by have := (hk1 _ e).1; omega), g1, fun g hg e => ?_, Nat.le_trans h.size ht.size⟩
  rcases hn g hg with h5 | h5
  · exact h.ne g h5 e
  · have := (ht1 g e).2; omega
end

end Go.Proofs.Ytjifoggfndicoaa
