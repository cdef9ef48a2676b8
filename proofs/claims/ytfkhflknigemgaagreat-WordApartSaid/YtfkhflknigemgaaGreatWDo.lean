/-
  DERIVED. WHAT THE WALKS OF THE ACCESSES SHARE: narrow, bit; small facts; the plain ends of each access.
-/
import Derived.Test.YtfkhflknigemgaaGreatWSpec
namespace Go.Proofs.YtfkhflknigemgaaGreat
open Go.RowKit
set_option maxRecDepth 100000

/-- what an access leaves. -/
def DoPost (kd : Int) (bl : Nat) (cv : Int → Value) (T : TypeId) (v k a b : Int) (w : World) (e : Ending) (w' : World) : Prop :=
  e = .returned (.agg #[.int .u64 (wVal kd v k a), .bool (wOk kd v k a)]) ∧ Turns (fun i => i = bl) w w' ∧ w'.heap[bl]? = some (.cells #[cv (wNew kd v k a b)] T (0, 0))

theorem TurnsDrewN (S : Nat → Prop) (w : World) (n : Nat) : Turns S w (w.drewN n) := ⟨rfl, rfl, rfl, Nat.le_refl _, fun _ _ _ => rfl⟩
theorem turns_of_set {w w' : World} {bl : Nat} {u : Value} (h : w.setCell ⟨bl, 0, none⟩ u = w') : Turns (fun i => i = bl) w w' := by
  rw [← h]; exact Turns.setCell (S := fun i => i = bl) w rfl u
theorem heap_ne {w w' : World} {bl k : Nat} {o : Obj} (h : Turns (fun i => i = bl) w w') (hk : w.heap[k]? = some o) (hn : k ≠ bl) : w'.heap[k]? = some o := h.heap hk hn
theorem three_blocks (w : World) (o1 o2 o3 : Obj) (nq : Nat) : ((((w.alloc o1).alloc o2).alloc o3).drewN nq).heap[w.heap.size]? = some o1 ∧ ((((w.alloc o1).alloc o2).alloc o3).drewN nq).heap[w.heap.size + 1]? = some o2 ∧ ((((w.alloc o1).alloc o2).alloc o3).drewN nq).heap[w.heap.size + 1 + 1]? = some o3 := by
  have h1 := heap_alloc_new w o1
  have h2 := heap_alloc_new (w.alloc o1) o2
  have h3 := heap_alloc_new ((w.alloc o1).alloc o2) o3
  have t2 := Turns.alloc (fun _ => False) (w.alloc o1) o2
  have t3 := Turns.alloc (fun _ => False) ((w.alloc o1).alloc o2) o3
  refine ⟨(t2.trans t3).heap h1 (fun h => h), t3.heap ?_ (fun h => h), ?_⟩
  · simpa using h2
  · simpa using h3

theorem turns_new2 {w w1 : World} {bl q : Nat} {u0 u1 : Value} (h : Turns (fun i => i = bl) w w1) (hq : w.heap.size ≤ q) : Turns (fun i => i = bl) w ((w1.setCell ⟨q, 0, none⟩ u0).setCell ⟨q, 1, none⟩ u1) := by
  have h2 : Turns (fun i => i = bl ∨ w.heap.size ≤ i) w1 ((w1.setCell ⟨q, 0, none⟩ u0).setCell ⟨q, 1, none⟩ u1) :=
    (Turns.setCell (S := fun i => i = bl ∨ w.heap.size ≤ i) w1 (a := ⟨q, 0, none⟩) (.inr hq) u0).trans (Turns.setCell (S := fun i => i = bl ∨ w.heap.size ≤ i) _ (a := ⟨q, 1, none⟩) (.inr hq) u1)
  have h3 := (h.mono (fun _ _ e => Or.inl e)).trans h2
  exact h3.mono (fun k hk e => by rcases e with e | e; exact e; omega)

theorem outCells {w : World} {q : Nat} {x y : Value} {T : TypeId} (h : w.heap[q]? = some (.cells #[x, y] T (0, 0))) :
    (∀ u, (w.setCell ⟨q, 0, none⟩ u).cell? ⟨q, 0, none⟩ = some u) ∧ (∀ u t, ((w.setCell ⟨q, 0, none⟩ u).setCell ⟨q, 1, none⟩ t).cell? ⟨q, 1, none⟩ = some t) ∧
    (∀ u, (w.setCell ⟨q, 1, none⟩ u).cell? ⟨q, 1, none⟩ = some u) ∧ (∀ u, (w.setCell ⟨q, 1, none⟩ u).cell? ⟨q, 0, none⟩ = some x) ∧ w.cell? ⟨q, 0, none⟩ = some x ∧ w.cell? ⟨q, 1, none⟩ = some y := by
  refine ⟨fun u => ?_, fun u t => ?_, fun u => ?_, fun u => ?_, ?_, ?_⟩
  · exact cell_of_heap (heap_setCell h u) (by simp)
  · exact cell_of_heap (heap_setCell (heap_setCell h u) t) (by simp)
  · exact cell_of_heap (heap_setCell h u) (by simp)
  · exact cell_of_heap (heap_setCell h u) (by simp)
  · exact cell_of_heap h rfl
  · exact cell_of_heap h rfl

def bitW (b : Bool) : Int := if b then 1 else 0
theorem wbit_any (v : Bool) (w : World) : Calls Tryz.prog 39 #[.bool v] w fun e w' => e = .returned (.int .u64 (bitW v)) ∧ w = w' := by
  cases v
  · go_enter Tryz.func39, Tryz.ntmps39
    go_wp2
    go_ret
    exact ⟨rfl, rfl⟩
  · go_enter Tryz.func39, Tryz.ntmps39
    go_wp2
    go_ret
    exact ⟨rfl, rfl⟩

theorem narrow_any (kd b : Int) (w : World) (hk : 1 ≤ kd ∧ kd ≤ 6) (hb : 0 ≤ b ∧ b < 18446744073709551616) : Calls Tryz.prog 32 #[.int .i64 kd, .int .u64 b] w fun e w' => e = .returned (.int .u64 (cutW kd b)) ∧ w = w' := by
  have hm := Lib.hid (p_mask b hb)
  obtain rfl | rfl | rfl | rfl | rfl | rfl : kd = 1 ∨ kd = 2 ∨ kd = 3 ∨ kd = 4 ∨ kd = 5 ∨ kd = 6 := by omega
  all_goals
    go_enter Tryz.func32, Tryz.ntmps32
    go_wp2_with (go_at_call 39; refine (wbit_any _ _).mono ?_; rintro e w1 ⟨rfl, rfl⟩)
    go_ret
  · exact ⟨congrArg (fun x => Ending.returned (.int .u64 x)) hm.out, rfl⟩
  · exact ⟨rfl, rfl⟩
  · exact ⟨congrArg (fun x => Ending.returned (.int .u64 x)) hm.out, rfl⟩
  · exact ⟨rfl, rfl⟩
  · refine ⟨congrArg (fun x => Ending.returned (.int .u64 x)) ?_, rfl⟩
    show bitW (b != 0) = cutW 5 b
    by_cases h : b = 0
    · subst h; rfl
    · simp [cutW, bitW, h]
  · exact ⟨rfl, rfl⟩

theorem rng_i32 (v _a : Int) (_h : 0 ≤ v ∧ v < 4294967296) : 0 ≤ (IntKind.u64.wrap (wrap32 v)) ∧ (IntKind.u64.wrap (wrap32 v)) < 18446744073709551616 := by rw [wrap_u64]; omega
theorem rng_i32_add (v a : Int) (_h : 0 ≤ v ∧ v < 4294967296) : 0 ≤ (IntKind.u64.wrap (addK .i32 (wrap32 v) (wrap32 a))) ∧ (IntKind.u64.wrap (addK .i32 (wrap32 v) (wrap32 a))) < 18446744073709551616 := by rw [wrap_u64]; omega
theorem rng_i32_zero (_v _a : Int) (_h : 0 ≤ _v ∧ _v < 4294967296) : (0 : Int) ≤ 0 ∧ (0 : Int) < 18446744073709551616 := by omega
theorem val_i32_load (v a : Int) (h : 0 ≤ v ∧ v < 4294967296) : cutW 1 (IntKind.u64.wrap (wrap32 v)) = wVal 1 v 1 a := by
  have := p_i32_out v h
  simpa [cutW, wVal] using this
theorem val_i32_swap (v a : Int) (h : 0 ≤ v ∧ v < 4294967296) : cutW 1 (IntKind.u64.wrap (wrap32 v)) = wVal 1 v 4 a := by
  have := p_i32_out v h
  simpa [cutW, wVal] using this
theorem val_i32_and (v a : Int) (h : 0 ≤ v ∧ v < 4294967296) : cutW 1 (IntKind.u64.wrap (wrap32 v)) = wVal 1 v 6 a := by
  have := p_i32_out v h
  simpa [cutW, wVal] using this
theorem val_i32_or (v a : Int) (h : 0 ≤ v ∧ v < 4294967296) : cutW 1 (IntKind.u64.wrap (wrap32 v)) = wVal 1 v 7 a := by
  have := p_i32_out v h
  simpa [cutW, wVal] using this
theorem val_i32_store (v a : Int) (_h : 0 ≤ v ∧ v < 4294967296) : cutW 1 0 = wVal 1 v 2 a := by simp [cutW, wVal]
theorem val_i32_add (v a : Int) (_h : 0 ≤ v ∧ v < 4294967296) : cutW 1 (IntKind.u64.wrap (addK .i32 (wrap32 v) (wrap32 a))) = wVal 1 v 3 a := by
  rw [p_i32_add]
  have := p_i32_out ((v + a) % 18446744073709551616 % 4294967296) (by omega)
  simpa [cutW, wVal] using this
theorem ok_i32 (v a : Int) (h : 0 ≤ v ∧ v < 4294967296) (_ha : 0 ≤ a ∧ a < 18446744073709551616) : (wrap32 v == wrap32 a) = wOk 1 v 5 a := by
  rw [p_i32_eq v a h]; simp [wOk, cutW]
theorem new_i32_store (v a _b : Int) (_h : 0 ≤ v ∧ v < 4294967296) (_ha : 0 ≤ a ∧ a < 18446744073709551616) : Value.int .i32 (wrap32 a) = Value.int .i32 (wrap32 (wNew 1 v 2 a _b)) := by
  rw [p_i32_arg a]; simp [wNew, cutW]
theorem new_i32_swap (v a _b : Int) (_h : 0 ≤ v ∧ v < 4294967296) (_ha : 0 ≤ a ∧ a < 18446744073709551616) : Value.int .i32 (wrap32 a) = Value.int .i32 (wrap32 (wNew 1 v 4 a _b)) := by
  rw [p_i32_arg a]; simp [wNew, cutW]
theorem new_i32_add (v a _b : Int) (_h : 0 ≤ v ∧ v < 4294967296) (_ha : 0 ≤ a ∧ a < 18446744073709551616) : Value.int .i32 (addK .i32 (wrap32 v) (wrap32 a)) = Value.int .i32 (wrap32 (wNew 1 v 3 a _b)) := by
  rw [p_i32_add]; simp [wNew, cutW]
theorem new_i32_cas (v a b : Int) (h : 0 ≤ v ∧ v < 4294967296) (_ha : 0 ≤ a ∧ a < 18446744073709551616) : Value.int .i32 (casNew (wrap32 v) (wrap32 a) (wrap32 b)) = Value.int .i32 (wrap32 (wNew 1 v 5 a b)) := by
  rw [p_i32_cas v a b h]; simp [wNew, cutW]
theorem new_i32_and (v a _b : Int) (h : 0 ≤ v ∧ v < 4294967296) (_ha : 0 ≤ a ∧ a < 18446744073709551616) : Value.int .i32 (andK .i32 (wrap32 v) (wrap32 a)) = Value.int .i32 (wrap32 (wNew 1 v 6 a _b)) := by
  unfold andK
  rw [p_bits_i32 .and (.inl rfl) v a h]; simp [wNew, cutW]
theorem new_i32_or (v a _b : Int) (h : 0 ≤ v ∧ v < 4294967296) (_ha : 0 ≤ a ∧ a < 18446744073709551616) : Value.int .i32 (orK .i32 (wrap32 v) (wrap32 a)) = Value.int .i32 (wrap32 (wNew 1 v 7 a _b)) := by
  unfold orK
  rw [p_bits_i32 .or (.inr rfl) v a h]; simp [wNew, cutW]

theorem rng_i64 (v _a : Int) (_h : 0 ≤ v ∧ v < 18446744073709551616) : 0 ≤ (IntKind.u64.wrap (wrap64 v)) ∧ (IntKind.u64.wrap (wrap64 v)) < 18446744073709551616 := by rw [wrap_u64]; omega
theorem rng_i64_add (v a : Int) (_h : 0 ≤ v ∧ v < 18446744073709551616) : 0 ≤ (IntKind.u64.wrap (addK .i64 (wrap64 v) (wrap64 a))) ∧ (IntKind.u64.wrap (addK .i64 (wrap64 v) (wrap64 a))) < 18446744073709551616 := by rw [wrap_u64]; omega
theorem rng_i64_zero (_v _a : Int) (_h : 0 ≤ _v ∧ _v < 18446744073709551616) : (0 : Int) ≤ 0 ∧ (0 : Int) < 18446744073709551616 := by omega
theorem val_i64_load (v a : Int) (h : 0 ≤ v ∧ v < 18446744073709551616) : cutW 2 (IntKind.u64.wrap (wrap64 v)) = wVal 2 v 1 a := by
  have := p_i64_out v h
  simpa [cutW, wVal] using this
theorem val_i64_swap (v a : Int) (h : 0 ≤ v ∧ v < 18446744073709551616) : cutW 2 (IntKind.u64.wrap (wrap64 v)) = wVal 2 v 4 a := by
  have := p_i64_out v h
  simpa [cutW, wVal] using this
theorem val_i64_and (v a : Int) (h : 0 ≤ v ∧ v < 18446744073709551616) : cutW 2 (IntKind.u64.wrap (wrap64 v)) = wVal 2 v 6 a := by
  have := p_i64_out v h
  simpa [cutW, wVal] using this
theorem val_i64_or (v a : Int) (h : 0 ≤ v ∧ v < 18446744073709551616) : cutW 2 (IntKind.u64.wrap (wrap64 v)) = wVal 2 v 7 a := by
  have := p_i64_out v h
  simpa [cutW, wVal] using this
theorem val_i64_store (v a : Int) (_h : 0 ≤ v ∧ v < 18446744073709551616) : cutW 2 0 = wVal 2 v 2 a := by simp [cutW, wVal]
theorem val_i64_add (v a : Int) (_h : 0 ≤ v ∧ v < 18446744073709551616) : cutW 2 (IntKind.u64.wrap (addK .i64 (wrap64 v) (wrap64 a))) = wVal 2 v 3 a := by
  rw [p_i64_add]
  have := p_i64_out ((v + a) % 18446744073709551616) (by omega)
  simpa [cutW, wVal] using this
theorem ok_i64 (v a : Int) (h : 0 ≤ v ∧ v < 18446744073709551616) (ha : 0 ≤ a ∧ a < 18446744073709551616) : (wrap64 v == wrap64 a) = wOk 2 v 5 a := by
  rw [p_i64_eq v a h ha]; simp [wOk, cutW]
theorem new_i64_store (v a _b : Int) (_h : 0 ≤ v ∧ v < 18446744073709551616) (_ha : 0 ≤ a ∧ a < 18446744073709551616) : Value.int .i64 (wrap64 a) = Value.int .i64 (wrap64 (wNew 2 v 2 a _b)) := by
  simp [wNew, cutW]
theorem new_i64_swap (v a _b : Int) (_h : 0 ≤ v ∧ v < 18446744073709551616) (_ha : 0 ≤ a ∧ a < 18446744073709551616) : Value.int .i64 (wrap64 a) = Value.int .i64 (wrap64 (wNew 2 v 4 a _b)) := by
  simp [wNew, cutW]
theorem new_i64_add (v a _b : Int) (_h : 0 ≤ v ∧ v < 18446744073709551616) (_ha : 0 ≤ a ∧ a < 18446744073709551616) : Value.int .i64 (addK .i64 (wrap64 v) (wrap64 a)) = Value.int .i64 (wrap64 (wNew 2 v 3 a _b)) := by
  rw [p_i64_add]; simp [wNew, cutW]
theorem new_i64_cas (v a b : Int) (h : 0 ≤ v ∧ v < 18446744073709551616) (ha : 0 ≤ a ∧ a < 18446744073709551616) : Value.int .i64 (casNew (wrap64 v) (wrap64 a) (wrap64 b)) = Value.int .i64 (wrap64 (wNew 2 v 5 a b)) := by
  rw [p_i64_cas v a b h ha]; simp [wNew, cutW]
theorem new_i64_and (v a _b : Int) (h : 0 ≤ v ∧ v < 18446744073709551616) (ha : 0 ≤ a ∧ a < 18446744073709551616) : Value.int .i64 (andK .i64 (wrap64 v) (wrap64 a)) = Value.int .i64 (wrap64 (wNew 2 v 6 a _b)) := by
  unfold andK
  rw [p_bits_i64 .and (.inl rfl) v a h ha]; simp [wNew, cutW]
theorem new_i64_or (v a _b : Int) (h : 0 ≤ v ∧ v < 18446744073709551616) (ha : 0 ≤ a ∧ a < 18446744073709551616) : Value.int .i64 (orK .i64 (wrap64 v) (wrap64 a)) = Value.int .i64 (wrap64 (wNew 2 v 7 a _b)) := by
  unfold orK
  rw [p_bits_i64 .or (.inr rfl) v a h ha]; simp [wNew, cutW]

theorem rng_u32 (v _a : Int) (_h : 0 ≤ v ∧ v < 4294967296) : 0 ≤ (IntKind.u64.wrap v) ∧ (IntKind.u64.wrap v) < 18446744073709551616 := by rw [wrap_u64]; omega
theorem rng_u32_add (v a : Int) (_h : 0 ≤ v ∧ v < 4294967296) : 0 ≤ (IntKind.u64.wrap (addK .u32 v (a % 4294967296))) ∧ (IntKind.u64.wrap (addK .u32 v (a % 4294967296))) < 18446744073709551616 := by rw [wrap_u64]; omega
theorem rng_u32_zero (_v _a : Int) (_h : 0 ≤ _v ∧ _v < 4294967296) : (0 : Int) ≤ 0 ∧ (0 : Int) < 18446744073709551616 := by omega
theorem val_u32_load (v a : Int) (h : 0 ≤ v ∧ v < 4294967296) : cutW 3 (IntKind.u64.wrap v) = wVal 3 v 1 a := by
  have := p_u32_out v h
  simpa [cutW, wVal] using this
theorem val_u32_swap (v a : Int) (h : 0 ≤ v ∧ v < 4294967296) : cutW 3 (IntKind.u64.wrap v) = wVal 3 v 4 a := by
  have := p_u32_out v h
  simpa [cutW, wVal] using this
theorem val_u32_and (v a : Int) (h : 0 ≤ v ∧ v < 4294967296) : cutW 3 (IntKind.u64.wrap v) = wVal 3 v 6 a := by
  have := p_u32_out v h
  simpa [cutW, wVal] using this
theorem val_u32_or (v a : Int) (h : 0 ≤ v ∧ v < 4294967296) : cutW 3 (IntKind.u64.wrap v) = wVal 3 v 7 a := by
  have := p_u32_out v h
  simpa [cutW, wVal] using this
theorem val_u32_store (v a : Int) (_h : 0 ≤ v ∧ v < 4294967296) : cutW 3 0 = wVal 3 v 2 a := by simp [cutW, wVal]
theorem val_u32_add (v a : Int) (_h : 0 ≤ v ∧ v < 4294967296) : cutW 3 (IntKind.u64.wrap (addK .u32 v (a % 4294967296))) = wVal 3 v 3 a := by
  rw [p_u32_add]
  have := p_u32_out ((v + a) % 18446744073709551616 % 4294967296) (by omega)
  simpa [cutW, wVal] using this
theorem ok_u32 (v a : Int) (_h : 0 ≤ v ∧ v < 4294967296) (_ha : 0 ≤ a ∧ a < 18446744073709551616) : (v == a % 4294967296) = wOk 3 v 5 a := by simp [wOk, cutW]
theorem new_u32_store (v a _b : Int) (_h : 0 ≤ v ∧ v < 4294967296) (_ha : 0 ≤ a ∧ a < 18446744073709551616) : Value.int .u32 (a % 4294967296) = Value.int .u32 (wNew 3 v 2 a _b) := by
  simp [wNew, cutW]
theorem new_u32_swap (v a _b : Int) (_h : 0 ≤ v ∧ v < 4294967296) (_ha : 0 ≤ a ∧ a < 18446744073709551616) : Value.int .u32 (a % 4294967296) = Value.int .u32 (wNew 3 v 4 a _b) := by
  simp [wNew, cutW]
theorem new_u32_add (v a _b : Int) (_h : 0 ≤ v ∧ v < 4294967296) (_ha : 0 ≤ a ∧ a < 18446744073709551616) : Value.int .u32 (addK .u32 v (a % 4294967296)) = Value.int .u32 (wNew 3 v 3 a _b) := by
  rw [p_u32_add]; simp [wNew, cutW]
theorem new_u32_cas (v a b : Int) (_h : 0 ≤ v ∧ v < 4294967296) (_ha : 0 ≤ a ∧ a < 18446744073709551616) : Value.int .u32 (casNew v (a % 4294967296) (b % 4294967296)) = Value.int .u32 (wNew 3 v 5 a b) := by
  simp [wNew, cutW]
theorem new_u32_and (v a _b : Int) (h : 0 ≤ v ∧ v < 4294967296) (_ha : 0 ≤ a ∧ a < 18446744073709551616) : Value.int .u32 (andK .u32 v (a % 4294967296)) = Value.int .u32 (wNew 3 v 6 a _b) := by
  unfold andK
  rw [p_bits_u32 .and (.inl rfl) v a h]; simp [wNew, cutW]
theorem new_u32_or (v a _b : Int) (h : 0 ≤ v ∧ v < 4294967296) (_ha : 0 ≤ a ∧ a < 18446744073709551616) : Value.int .u32 (orK .u32 v (a % 4294967296)) = Value.int .u32 (wNew 3 v 7 a _b) := by
  unfold orK
  rw [p_bits_u32 .or (.inr rfl) v a h]; simp [wNew, cutW]

theorem rng_u64 (v _a : Int) (h : 0 ≤ v ∧ v < 18446744073709551616) : 0 ≤ v ∧ v < 18446744073709551616 := h
theorem rng_u64_add (v a : Int) (_h : 0 ≤ v ∧ v < 18446744073709551616) : 0 ≤ addK .u64 v a ∧ addK .u64 v a < 18446744073709551616 := by rw [p_u64_add]; omega
theorem rng_u64_zero (_v _a : Int) (_h : 0 ≤ _v ∧ _v < 18446744073709551616) : (0 : Int) ≤ 0 ∧ (0 : Int) < 18446744073709551616 := by omega
theorem val_u64_load (v a : Int) (_h : 0 ≤ v ∧ v < 18446744073709551616) : cutW 4 v = wVal 4 v 1 a := by simp [cutW, wVal]
theorem val_u64_swap (v a : Int) (_h : 0 ≤ v ∧ v < 18446744073709551616) : cutW 4 v = wVal 4 v 4 a := by simp [cutW, wVal]
theorem val_u64_and (v a : Int) (_h : 0 ≤ v ∧ v < 18446744073709551616) : cutW 4 v = wVal 4 v 6 a := by simp [cutW, wVal]
theorem val_u64_or (v a : Int) (_h : 0 ≤ v ∧ v < 18446744073709551616) : cutW 4 v = wVal 4 v 7 a := by simp [cutW, wVal]
theorem val_u64_store (v a : Int) (_h : 0 ≤ v ∧ v < 18446744073709551616) : cutW 4 0 = wVal 4 v 2 a := by simp [cutW, wVal]
theorem val_u64_add (v a : Int) (_h : 0 ≤ v ∧ v < 18446744073709551616) : cutW 4 (addK .u64 v a) = wVal 4 v 3 a := by
  rw [p_u64_add]
  simp [cutW, wVal]
theorem ok_u64 (v a : Int) (_h : 0 ≤ v ∧ v < 18446744073709551616) (_ha : 0 ≤ a ∧ a < 18446744073709551616) : (v == a) = wOk 4 v 5 a := by simp [wOk, cutW]
theorem new_u64_store (v a _b : Int) (_h : 0 ≤ v ∧ v < 18446744073709551616) (_ha : 0 ≤ a ∧ a < 18446744073709551616) : Value.int .u64 a = Value.int .u64 (wNew 4 v 2 a _b) := by
  simp [wNew, cutW]
theorem new_u64_swap (v a _b : Int) (_h : 0 ≤ v ∧ v < 18446744073709551616) (_ha : 0 ≤ a ∧ a < 18446744073709551616) : Value.int .u64 a = Value.int .u64 (wNew 4 v 4 a _b) := by
  simp [wNew, cutW]
theorem new_u64_add (v a _b : Int) (_h : 0 ≤ v ∧ v < 18446744073709551616) (_ha : 0 ≤ a ∧ a < 18446744073709551616) : Value.int .u64 (addK .u64 v a) = Value.int .u64 (wNew 4 v 3 a _b) := by
  rw [p_u64_add]; simp [wNew, cutW]
theorem new_u64_cas (v a b : Int) (_h : 0 ≤ v ∧ v < 18446744073709551616) (_ha : 0 ≤ a ∧ a < 18446744073709551616) : Value.int .u64 (casNew v a b) = Value.int .u64 (wNew 4 v 5 a b) := by
  simp [wNew, cutW]
theorem new_u64_and (v a _b : Int) (_h : 0 ≤ v ∧ v < 18446744073709551616) (_ha : 0 ≤ a ∧ a < 18446744073709551616) : Value.int .u64 (andK .u64 v a) = Value.int .u64 (wNew 4 v 6 a _b) := by
  unfold andK
  simp [wNew, cutW]
theorem new_u64_or (v a _b : Int) (_h : 0 ≤ v ∧ v < 18446744073709551616) (_ha : 0 ≤ a ∧ a < 18446744073709551616) : Value.int .u64 (orK .u64 v a) = Value.int .u64 (wNew 4 v 7 a _b) := by
  unfold orK
  simp [wNew, cutW]

theorem rng_up (v _a : Int) (h : 0 ≤ v ∧ v < 18446744073709551616) : 0 ≤ v ∧ v < 18446744073709551616 := h
theorem rng_up_add (v a : Int) (_h : 0 ≤ v ∧ v < 18446744073709551616) : 0 ≤ addK .u64 v a ∧ addK .u64 v a < 18446744073709551616 := by rw [p_u64_add]; omega
theorem rng_up_zero (_v _a : Int) (_h : 0 ≤ _v ∧ _v < 18446744073709551616) : (0 : Int) ≤ 0 ∧ (0 : Int) < 18446744073709551616 := by omega
theorem val_up_load (v a : Int) (_h : 0 ≤ v ∧ v < 18446744073709551616) : cutW 6 v = wVal 6 v 1 a := by simp [cutW, wVal]
theorem val_up_swap (v a : Int) (_h : 0 ≤ v ∧ v < 18446744073709551616) : cutW 6 v = wVal 6 v 4 a := by simp [cutW, wVal]
theorem val_up_and (v a : Int) (_h : 0 ≤ v ∧ v < 18446744073709551616) : cutW 6 v = wVal 6 v 6 a := by simp [cutW, wVal]
theorem val_up_or (v a : Int) (_h : 0 ≤ v ∧ v < 18446744073709551616) : cutW 6 v = wVal 6 v 7 a := by simp [cutW, wVal]
theorem val_up_store (v a : Int) (_h : 0 ≤ v ∧ v < 18446744073709551616) : cutW 6 0 = wVal 6 v 2 a := by simp [cutW, wVal]
theorem val_up_add (v a : Int) (_h : 0 ≤ v ∧ v < 18446744073709551616) : cutW 6 (addK .u64 v a) = wVal 6 v 3 a := by
  rw [p_u64_add]
  simp [cutW, wVal]
theorem ok_up (v a : Int) (_h : 0 ≤ v ∧ v < 18446744073709551616) (_ha : 0 ≤ a ∧ a < 18446744073709551616) : (v == a) = wOk 6 v 5 a := by simp [wOk, cutW]
theorem new_up_store (v a _b : Int) (_h : 0 ≤ v ∧ v < 18446744073709551616) (_ha : 0 ≤ a ∧ a < 18446744073709551616) : Value.int .u64 a = Value.int .u64 (wNew 6 v 2 a _b) := by
  simp [wNew, cutW]
theorem new_up_swap (v a _b : Int) (_h : 0 ≤ v ∧ v < 18446744073709551616) (_ha : 0 ≤ a ∧ a < 18446744073709551616) : Value.int .u64 a = Value.int .u64 (wNew 6 v 4 a _b) := by
  simp [wNew, cutW]
theorem new_up_add (v a _b : Int) (_h : 0 ≤ v ∧ v < 18446744073709551616) (_ha : 0 ≤ a ∧ a < 18446744073709551616) : Value.int .u64 (addK .u64 v a) = Value.int .u64 (wNew 6 v 3 a _b) := by
  rw [p_u64_add]; simp [wNew, cutW]
theorem new_up_cas (v a b : Int) (_h : 0 ≤ v ∧ v < 18446744073709551616) (_ha : 0 ≤ a ∧ a < 18446744073709551616) : Value.int .u64 (casNew v a b) = Value.int .u64 (wNew 6 v 5 a b) := by
  simp [wNew, cutW]
theorem new_up_and (v a _b : Int) (_h : 0 ≤ v ∧ v < 18446744073709551616) (_ha : 0 ≤ a ∧ a < 18446744073709551616) : Value.int .u64 (andK .u64 v a) = Value.int .u64 (wNew 6 v 6 a _b) := by
  unfold andK
  simp [wNew, cutW]
theorem new_up_or (v a _b : Int) (_h : 0 ≤ v ∧ v < 18446744073709551616) (_ha : 0 ≤ a ∧ a < 18446744073709551616) : Value.int .u64 (orK .u64 v a) = Value.int .u64 (wNew 6 v 7 a _b) := by
  unfold orK
  simp [wNew, cutW]

end Go.Proofs.YtfkhflknigemgaaGreat
