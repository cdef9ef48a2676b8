/-
  DERIVED. THE WALK over the reference's One, bit: an act on a row of numbers.
-/
import Derived.Test.YtjifoggfndicoaaPlain
namespace Go.Proofs.Ytjifoggfndicoaa
open Go.RowKit
set_option maxRecDepth 100000

theorem refbit_any (v : Bool) (w : World) : Calls Try.prog 53 #[.bool v] w fun e w' => e = .returned (.int .i64 (bitOf v)) ∧ w = w' := by
  cases v
  · go_enter Try.func53, Try.ntmps53
    go_wp2
    go_ret
    exact ⟨rfl, rfl⟩
  · go_enter Try.func53, Try.ntmps53
    go_wp2
    go_ret
    exact ⟨rfl, rfl⟩

theorem boxed_cell {w : World} {g m : Nat} {v : Value} (h : w.cell? ⟨g, m, none⟩ = some v) (o : Obj) : (w.alloc o).cell? ⟨g, m, none⟩ = some v := by
  rw [World.cell?_alloc_past _ _ _ (World.block_lt_of_cell? w ⟨g, m, none⟩ h)]; exact h

theorem box_kept {w : World} {g m : Nat} {u : Value} (h : w.cell? ⟨g, m, none⟩ = some u) (v : Value) (cs : Array Value) (e : TypeId) (o : Nat) (x : Value) (hx : cs[o]? = some x) :
    ((w.alloc (.cells cs e)).setCell ⟨g, m, none⟩ v).cell? ⟨w.heap.size, o, none⟩ = some x := by
  have hlt := World.block_lt_of_cell? w ⟨g, m, none⟩ h
  have h2 := (Turns.setCell (S := fun i => i = g) (w.alloc (.cells cs e)) (a := ⟨g, m, none⟩) rfl v).cell (cell_of_heap (heap_alloc_new w _) hx) (by simp at hlt; omega)
  exact h2

set_option maxHeartbeats 400000 in
theorem one_load (g n cap m : Nat) (x a b : Int) (w : World) (hm : m < n) (hc : w.cell? ⟨g, m, none⟩ = some (.int .i64 x)) (_hf : ∀ o, (w.alloc o).frozen? ⟨g, m, none⟩ = false) :
    Calls Try.prog 18 #[.slice (some ⟨g, 0, none⟩) n cap, .agg #[.int .i64 1, .int .i64 (m : Int), .int .i64 a, .int .i64 b]] w fun e w' => e = .returned (.int .i64 (numAns 1 x a)) ∧
      (w.alloc (.cells #[.int .i64 1, .int .i64 (m : Int), .int .i64 a, .int .i64 b] 47)).setCell ⟨g, m, none⟩ (.int .i64 (numNew 1 x a b)) = w' := by
  have hb := boxed_cell hc
  have m0 : (0 : Int) ≤ (m : Int) := by omega
  have m1 : (m : Int) < (n : Int) := by omega
  have Hb := Lib.hid (setCell_self (hb (.cells #[.int .i64 1, .int .i64 (m : Int), .int .i64 a, .int .i64 b] 47)))
  go_enter Try.func18, Try.ntmps18
  go_wp2
  go_ret
  exact ⟨rfl, Hb.out⟩

set_option maxHeartbeats 400000 in
theorem one_store (g n cap m : Nat) (x a b : Int) (w : World) (hm : m < n) (hc : w.cell? ⟨g, m, none⟩ = some (.int .i64 x)) (hf : ∀ o, (w.alloc o).frozen? ⟨g, m, none⟩ = false) :
    Calls Try.prog 18 #[.slice (some ⟨g, 0, none⟩) n cap, .agg #[.int .i64 2, .int .i64 (m : Int), .int .i64 a, .int .i64 b]] w fun e w' => e = .returned (.int .i64 (numAns 2 x a)) ∧
      (w.alloc (.cells #[.int .i64 2, .int .i64 (m : Int), .int .i64 a, .int .i64 b] 47)).setCell ⟨g, m, none⟩ (.int .i64 (numNew 2 x a b)) = w' := by
  have hb := boxed_cell hc
  have m0 : (0 : Int) ≤ (m : Int) := by omega
  have m1 : (m : Int) < (n : Int) := by omega
  go_enter Try.func18, Try.ntmps18
  go_wp2
  go_ret
  exact ⟨rfl, rfl⟩

set_option maxHeartbeats 400000 in
theorem one_add (g n cap m : Nat) (x a b : Int) (w : World) (hm : m < n) (hc : w.cell? ⟨g, m, none⟩ = some (.int .i64 x)) (hf : ∀ o, (w.alloc o).frozen? ⟨g, m, none⟩ = false) :
    Calls Try.prog 18 #[.slice (some ⟨g, 0, none⟩) n cap, .agg #[.int .i64 3, .int .i64 (m : Int), .int .i64 a, .int .i64 b]] w fun e w' => e = .returned (.int .i64 (numAns 3 x a)) ∧
      (w.alloc (.cells #[.int .i64 3, .int .i64 (m : Int), .int .i64 a, .int .i64 b] 47)).setCell ⟨g, m, none⟩ (.int .i64 (numNew 3 x a b)) = w' := by
  have hb := boxed_cell hc
  have hbx := fun v => box_kept hc v #[.int .i64 3, .int .i64 (m : Int), .int .i64 a, .int .i64 b] 47 2 (.int .i64 a) rfl
  have m0 : (0 : Int) ≤ (m : Int) := by omega
  have m1 : (m : Int) < (n : Int) := by omega
  go_enter Try.func18, Try.ntmps18
  go_wp2
  go_ret
  exact ⟨rfl, rfl⟩

set_option maxHeartbeats 400000 in
theorem one_swap (g n cap m : Nat) (x a b : Int) (w : World) (hm : m < n) (hc : w.cell? ⟨g, m, none⟩ = some (.int .i64 x)) (hf : ∀ o, (w.alloc o).frozen? ⟨g, m, none⟩ = false) :
    Calls Try.prog 18 #[.slice (some ⟨g, 0, none⟩) n cap, .agg #[.int .i64 4, .int .i64 (m : Int), .int .i64 a, .int .i64 b]] w fun e w' => e = .returned (.int .i64 (numAns 4 x a)) ∧
      (w.alloc (.cells #[.int .i64 4, .int .i64 (m : Int), .int .i64 a, .int .i64 b] 47)).setCell ⟨g, m, none⟩ (.int .i64 (numNew 4 x a b)) = w' := by
  have hb := boxed_cell hc
  have m0 : (0 : Int) ≤ (m : Int) := by omega
  have m1 : (m : Int) < (n : Int) := by omega
  go_enter Try.func18, Try.ntmps18
  go_wp2
  go_ret
  exact ⟨rfl, rfl⟩

set_option maxHeartbeats 400000 in
theorem one_cas (g n cap m : Nat) (x a b : Int) (w : World) (hm : m < n) (hc : w.cell? ⟨g, m, none⟩ = some (.int .i64 x)) (hf : ∀ o, (w.alloc o).frozen? ⟨g, m, none⟩ = false) :
    Calls Try.prog 18 #[.slice (some ⟨g, 0, none⟩) n cap, .agg #[.int .i64 5, .int .i64 (m : Int), .int .i64 a, .int .i64 b]] w fun e w' => e = .returned (.int .i64 (numAns 5 x a)) ∧
      (w.alloc (.cells #[.int .i64 5, .int .i64 (m : Int), .int .i64 a, .int .i64 b] 47)).setCell ⟨g, m, none⟩ (.int .i64 (numNew 5 x a b)) = w' := by
  have hb := boxed_cell hc
  have hbx := fun v => box_kept hc v #[.int .i64 5, .int .i64 (m : Int), .int .i64 a, .int .i64 b] 47 2 (.int .i64 a) rfl
  have m0 : (0 : Int) ≤ (m : Int) := by omega
  have m1 : (m : Int) < (n : Int) := by omega
  by_cases hx : x = a
  · have e1 : (x == a) = true := by rw [hx]; simp
    have Hx := Lib.hid hx
    clear hx
    go_enter Try.func18, Try.ntmps18
    go_wp2_with (go_at_call 53; refine (refbit_any _ _).mono ?_; rintro e w3 ⟨rfl, rfl⟩)
    go_ret
    have hx := Hx.out
    exact ⟨by rw [numAns]; simp [hx], by rw [numNew]; simp [casNew, hx]⟩
  · have e1 : (x == a) = false := beq_eq_false_iff_ne.2 hx
    have Hx := Lib.hid hx
    have Hb := Lib.hid (setCell_self (hb (.cells #[.int .i64 5, .int .i64 (m : Int), .int .i64 a, .int .i64 b] 47)))
    clear hx
    go_enter Try.func18, Try.ntmps18
    go_wp2_with (go_at_call 53; refine (refbit_any _ _).mono ?_; rintro e w3 ⟨rfl, rfl⟩)
    go_ret
    have hx := Hx.out
    exact ⟨by rw [numAns, beq_eq_false_iff_ne.2 hx]; rfl, by rw [numNew]; simp only [casNew, if_neg hx]; exact Hb.out⟩

set_option maxHeartbeats 400000 in
theorem one_and (g n cap m : Nat) (x a b : Int) (w : World) (hm : m < n) (hc : w.cell? ⟨g, m, none⟩ = some (.int .i64 x)) (hf : ∀ o, (w.alloc o).frozen? ⟨g, m, none⟩ = false) :
    Calls Try.prog 18 #[.slice (some ⟨g, 0, none⟩) n cap, .agg #[.int .i64 6, .int .i64 (m : Int), .int .i64 a, .int .i64 b]] w fun e w' => e = .returned (.int .i64 (numAns 6 x a)) ∧
      (w.alloc (.cells #[.int .i64 6, .int .i64 (m : Int), .int .i64 a, .int .i64 b] 47)).setCell ⟨g, m, none⟩ (.int .i64 (numNew 6 x a b)) = w' := by
  have hb := boxed_cell hc
  have m0 : (0 : Int) ≤ (m : Int) := by omega
  have m1 : (m : Int) < (n : Int) := by omega
  go_enter Try.func18, Try.ntmps18
  go_wp2
  go_ret
  exact ⟨rfl, rfl⟩

set_option maxHeartbeats 400000 in
theorem one_or (g n cap m : Nat) (x a b : Int) (w : World) (hm : m < n) (hc : w.cell? ⟨g, m, none⟩ = some (.int .i64 x)) (hf : ∀ o, (w.alloc o).frozen? ⟨g, m, none⟩ = false) :
    Calls Try.prog 18 #[.slice (some ⟨g, 0, none⟩) n cap, .agg #[.int .i64 7, .int .i64 (m : Int), .int .i64 a, .int .i64 b]] w fun e w' => e = .returned (.int .i64 (numAns 7 x a)) ∧
      (w.alloc (.cells #[.int .i64 7, .int .i64 (m : Int), .int .i64 a, .int .i64 b] 47)).setCell ⟨g, m, none⟩ (.int .i64 (numNew 7 x a b)) = w' := by
  have hb := boxed_cell hc
  have m0 : (0 : Int) ≤ (m : Int) := by omega
  have m1 : (m : Int) < (n : Int) := by omega
  go_enter Try.func18, Try.ntmps18
  go_wp2
  go_ret
  exact ⟨rfl, rfl⟩

theorem one_any (k : Int) (hk : 1 ≤ k ∧ k ≤ 7) (g n cap m : Nat) (x a b : Int) (w : World) (hm : m < n) (hc : w.cell? ⟨g, m, none⟩ = some (.int .i64 x)) (hf : ∀ o, (w.alloc o).frozen? ⟨g, m, none⟩ = false) :
    Calls Try.prog 18 #[.slice (some ⟨g, 0, none⟩) n cap, .agg #[.int .i64 k, .int .i64 (m : Int), .int .i64 a, .int .i64 b]] w fun e w' => e = .returned (.int .i64 (numAns k x a)) ∧
      (w.alloc (.cells #[.int .i64 k, .int .i64 (m : Int), .int .i64 a, .int .i64 b] 47)).setCell ⟨g, m, none⟩ (.int .i64 (numNew k x a b)) = w' := by
  obtain rfl | rfl | rfl | rfl | rfl | rfl | rfl : k = 1 ∨ k = 2 ∨ k = 3 ∨ k = 4 ∨ k = 5 ∨ k = 6 ∨ k = 7 := by omega
  · exact one_load g n cap m x a b w hm hc hf
  · exact one_store g n cap m x a b w hm hc hf
  · exact one_add g n cap m x a b w hm hc hf
  · exact one_swap g n cap m x a b w hm hc hf
  · exact one_cas g n cap m x a b w hm hc hf
  · exact one_and g n cap m x a b w hm hc hf
  · exact one_or g n cap m x a b w hm hc hf

end Go.Proofs.Ytjifoggfndicoaa
