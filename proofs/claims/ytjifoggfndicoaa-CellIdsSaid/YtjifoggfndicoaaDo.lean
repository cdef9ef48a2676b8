/-
  DERIVED. THE WALK over package cell's 'do': an act on a number through whatever gate.
-/
import Derived.Test.YtjifoggfndicoaaTape
import Derived.Test.YtjifoggfndicoaaPlain
namespace Go.Proofs.Ytjifoggfndicoaa
open Go.RowKit
set_option maxRecDepth 100000

theorem bit_any (v : Bool) (w : World) : Calls Try.prog 89 #[.bool v] w fun e w' => e = .returned (.int .i64 (bitOf v)) ∧ w = w' := by
  cases v
  · go_enter Try.func89, Try.ntmps89
    go_wp2
    go_ret
    exact ⟨rfl, rfl⟩
  · go_enter Try.func89, Try.ntmps89
    go_wp2
    go_ret
    exact ⟨rfl, rfl⟩

/-- an act as a value. -/
abbrev actV (k at_ a b : Int) : Value := .agg #[.int .i64 k, .int .i64 at_, .int .i64 a, .int .i64 b]

set_option maxHeartbeats 400000 in
theorem do_load (g : Value) (nb : Nat) (x at_ a b : Int) (w : World) (R : World → Prop) (hp : Passes g 1 (w.alloc (.cells #[.int .i64 1, .int .i64 at_, .int .i64 a, .int .i64 b] 57)) R)
    (hR : ∀ w1, R w1 → w1.heap[nb]? = some (.cells #[.int .i64 x] 45 (0, 0))) :
    Calls Try.prog 51 #[.pointer (some ⟨nb, 0, none⟩), g, actV 1 at_ a b] w fun e w' => e = .returned (.int .i64 (numAns 1 x a)) ∧ ∃ w1, R w1 ∧ w1.setCell ⟨nb, 0, none⟩ (.int .i64 (numNew 1 x a b)) = w' := by
  have hR2 := Lib.hid hR
  go_enter Try.func51, Try.ntmps51
  go_wp2_with (go_at_call 22; refine (num_load g nb x _ R hp hR).mono ?_; rintro e w1 ⟨rfl, h1⟩)
  go_ret
  exact ⟨rfl, w1, h1, setCell_self (cell_of_heap (hR2.out w1 h1) (j := 0) rfl)⟩

set_option maxHeartbeats 400000 in
theorem do_store (g : Value) (nb : Nat) (x at_ a b : Int) (w : World) (R : World → Prop) (hp : Passes g 2 (w.alloc (.cells #[.int .i64 2, .int .i64 at_, .int .i64 a, .int .i64 b] 57)) R)
    (hR : ∀ w1, R w1 → w1.heap[nb]? = some (.cells #[.int .i64 x] 45 (0, 0))) :
    Calls Try.prog 51 #[.pointer (some ⟨nb, 0, none⟩), g, actV 2 at_ a b] w fun e w' => e = .returned (.int .i64 (numAns 2 x a)) ∧ ∃ w1, R w1 ∧ w1.setCell ⟨nb, 0, none⟩ (.int .i64 (numNew 2 x a b)) = w' := by
  go_enter Try.func51, Try.ntmps51
  go_wp2_with (go_at_call 28; refine (num_store g nb x a _ R hp hR).mono ?_; rintro e w1 ⟨rfl, w2, h2, rfl⟩)
  go_ret
  exact ⟨rfl, w2, h2, rfl⟩

set_option maxHeartbeats 400000 in
theorem do_add (g : Value) (nb : Nat) (x at_ a b : Int) (w : World) (R : World → Prop) (hp : Passes g 3 (w.alloc (.cells #[.int .i64 3, .int .i64 at_, .int .i64 a, .int .i64 b] 57)) R)
    (hR : ∀ w1, R w1 → w1.heap[nb]? = some (.cells #[.int .i64 x] 45 (0, 0))) :
    Calls Try.prog 51 #[.pointer (some ⟨nb, 0, none⟩), g, actV 3 at_ a b] w fun e w' => e = .returned (.int .i64 (numAns 3 x a)) ∧ ∃ w1, R w1 ∧ w1.setCell ⟨nb, 0, none⟩ (.int .i64 (numNew 3 x a b)) = w' := by
  go_enter Try.func51, Try.ntmps51
  go_wp2_with (go_at_call 23; refine (num_add g nb x a _ R hp hR).mono ?_; rintro e w1 ⟨rfl, w2, h2, rfl⟩)
  go_ret
  exact ⟨rfl, w2, h2, rfl⟩

set_option maxHeartbeats 400000 in
theorem do_swap (g : Value) (nb : Nat) (x at_ a b : Int) (w : World) (R : World → Prop) (hp : Passes g 4 (w.alloc (.cells #[.int .i64 4, .int .i64 at_, .int .i64 a, .int .i64 b] 57)) R)
    (hR : ∀ w1, R w1 → w1.heap[nb]? = some (.cells #[.int .i64 x] 45 (0, 0))) :
    Calls Try.prog 51 #[.pointer (some ⟨nb, 0, none⟩), g, actV 4 at_ a b] w fun e w' => e = .returned (.int .i64 (numAns 4 x a)) ∧ ∃ w1, R w1 ∧ w1.setCell ⟨nb, 0, none⟩ (.int .i64 (numNew 4 x a b)) = w' := by
  go_enter Try.func51, Try.ntmps51
  go_wp2_with (go_at_call 24; refine (num_swap g nb x a _ R hp hR).mono ?_; rintro e w1 ⟨rfl, w2, h2, rfl⟩)
  go_ret
  exact ⟨rfl, w2, h2, rfl⟩

set_option maxHeartbeats 400000 in
theorem do_cas (g : Value) (nb : Nat) (x at_ a b : Int) (w : World) (R : World → Prop) (hp : Passes g 5 (w.alloc (.cells #[.int .i64 5, .int .i64 at_, .int .i64 a, .int .i64 b] 57)) R)
    (hR : ∀ w1, R w1 → w1.heap[nb]? = some (.cells #[.int .i64 x] 45 (0, 0))) :
    Calls Try.prog 51 #[.pointer (some ⟨nb, 0, none⟩), g, actV 5 at_ a b] w fun e w' => e = .returned (.int .i64 (numAns 5 x a)) ∧ ∃ w1, R w1 ∧ w1.setCell ⟨nb, 0, none⟩ (.int .i64 (numNew 5 x a b)) = w' := by
  go_enter Try.func51, Try.ntmps51
  go_wp2_with (first | (go_at_call 25; refine (num_cas g nb x a b _ R hp hR).mono ?_; rintro e w1 ⟨rfl, w2, h2, rfl⟩) | (go_at_call 89; refine (bit_any _ _).mono ?_; rintro e w3 ⟨rfl, rfl⟩))
  go_ret
  exact ⟨rfl, w2, h2, rfl⟩

set_option maxHeartbeats 400000 in
theorem do_and (g : Value) (nb : Nat) (x at_ a b : Int) (w : World) (R : World → Prop) (hp : Passes g 6 (w.alloc (.cells #[.int .i64 6, .int .i64 at_, .int .i64 a, .int .i64 b] 57)) R)
    (hR : ∀ w1, R w1 → w1.heap[nb]? = some (.cells #[.int .i64 x] 45 (0, 0))) :
    Calls Try.prog 51 #[.pointer (some ⟨nb, 0, none⟩), g, actV 6 at_ a b] w fun e w' => e = .returned (.int .i64 (numAns 6 x a)) ∧ ∃ w1, R w1 ∧ w1.setCell ⟨nb, 0, none⟩ (.int .i64 (numNew 6 x a b)) = w' := by
  go_enter Try.func51, Try.ntmps51
  go_wp2_with (go_at_call 27; refine (num_and g nb x a _ R hp hR).mono ?_; rintro e w1 ⟨rfl, w2, h2, rfl⟩)
  go_ret
  exact ⟨rfl, w2, h2, rfl⟩

set_option maxHeartbeats 400000 in
theorem do_or (g : Value) (nb : Nat) (x at_ a b : Int) (w : World) (R : World → Prop) (hp : Passes g 7 (w.alloc (.cells #[.int .i64 7, .int .i64 at_, .int .i64 a, .int .i64 b] 57)) R)
    (hR : ∀ w1, R w1 → w1.heap[nb]? = some (.cells #[.int .i64 x] 45 (0, 0))) :
    Calls Try.prog 51 #[.pointer (some ⟨nb, 0, none⟩), g, actV 7 at_ a b] w fun e w' => e = .returned (.int .i64 (numAns 7 x a)) ∧ ∃ w1, R w1 ∧ w1.setCell ⟨nb, 0, none⟩ (.int .i64 (numNew 7 x a b)) = w' := by
  go_enter Try.func51, Try.ntmps51
  go_wp2_with (go_at_call 26; refine (num_or g nb x a _ R hp hR).mono ?_; rintro e w1 ⟨rfl, w2, h2, rfl⟩)
  go_ret
  exact ⟨rfl, w2, h2, rfl⟩

theorem do_any (g : Value) (nb : Nat) (x k at_ a b : Int) (hk : 1 ≤ k ∧ k ≤ 7) (w : World) (R : World → Prop) (hp : Passes g k (w.alloc (.cells #[.int .i64 k, .int .i64 at_, .int .i64 a, .int .i64 b] 57)) R)
    (hR : ∀ w1, R w1 → w1.heap[nb]? = some (.cells #[.int .i64 x] 45 (0, 0))) :
    Calls Try.prog 51 #[.pointer (some ⟨nb, 0, none⟩), g, actV k at_ a b] w fun e w' => e = .returned (.int .i64 (numAns k x a)) ∧ ∃ w1, R w1 ∧ w1.setCell ⟨nb, 0, none⟩ (.int .i64 (numNew k x a b)) = w' := by
  obtain rfl | rfl | rfl | rfl | rfl | rfl | rfl : k = 1 ∨ k = 2 ∨ k = 3 ∨ k = 4 ∨ k = 5 ∨ k = 6 ∨ k = 7 := by omega
  · exact do_load g nb x at_ a b w R hp hR
  · exact do_store g nb x at_ a b w R hp hR
  · exact do_add g nb x at_ a b w R hp hR
  · exact do_swap g nb x at_ a b w R hp hR
  · exact do_cas g nb x at_ a b w R hp hR
  · exact do_and g nb x at_ a b w R hp hR
  · exact do_or g nb x at_ a b w R hp hR

end Go.Proofs.Ytjifoggfndicoaa
