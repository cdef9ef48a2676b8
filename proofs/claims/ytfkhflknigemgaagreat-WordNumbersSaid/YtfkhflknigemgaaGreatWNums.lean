/-
  DERIVED. THE WALK over larchlaw01's WordNumbers.
-/
import Derived.Test.YtfkhflknigemgaaGreatWPlains
import Derived.Test.YtfkhflknigemgaaGreatShut3
namespace Go.Proofs.YtfkhflknigemgaaGreat
open Go.RowKit
set_option maxRecDepth 100000

set_option maxHeartbeats 4000000 in
theorem numbers_any (kd n a b : Int) (w : World) (ha : 0 ≤ a ∧ a < 18446744073709551616) (hb : 0 ≤ b ∧ b < 18446744073709551616) :
    Calls Tryz.prog 5 #[.int .i64 kd, .int .i64 n, .agg #[.int .u64 a, .int .u64 b]] w fun e w' => e = .returned (.bool true) ∧ Below w.heap.size w w' := by
  go_enter Tryz.func5, Tryz.ntmps5
  go_wp2_with fail
  refine (known_any _).mono ?_
  rintro e w1 ⟨rfl, b1⟩
  have h1 : w1.heap[w.heap.size]? = some (.cells #[.int .u64 a, .int .u64 b] 46 (0, 0)) := by rw [b1.block _ (by simp)]; exact heap_alloc_new w _
  have c0 := cell_of_heap h1 (j := 0) rfl
  have c1 := cell_of_heap h1 (j := 1) rfl
  have Hb := Lib.hid (((Below.refl _ w).alloc (Nat.le_refl _) _).trans (b1.mono (by simp)))
  clear b1 h1
  go_wp2_with (first
    | (go_at_call 14; refine (rnarrow kd a _ ha).mono ?_; rintro e w2 ⟨rfl, rfl⟩)
    | (go_at_call 15; refine (wnarrow kd a _ ha).mono ?_; rintro e w2 ⟨rfl, rfl⟩)
    | (go_at_call 16; refine (rof kd n _).mono ?_; rintro e w2 ⟨rfl, rfl⟩)
    | (go_at_call 17; refine (wof kd n _).mono ?_; rintro e w2 ⟨rfl, rfl⟩)
    | (go_at_call 18; refine (rplain kd b _ hb).mono ?_; rintro e w2 ⟨rfl, rfl⟩)
    | (go_at_call 19; refine (wplain kd b _ hb).mono ?_; rintro e w2 ⟨rfl, rfl⟩)
    | (go_at_call 20; refine (rends kd _).mono ?_; rintro e w2 ⟨rfl, rfl⟩)
    | (go_at_call 21; refine (wends kd _).mono ?_; rintro e w2 ⟨rfl, rfl⟩)
    | (go_at_call 22; refine (rless kd a b _ ha hb).mono ?_; rintro e w2 ⟨rfl, rfl⟩)
    | (go_at_call 23; refine (wless kd a b _ ha hb).mono ?_; rintro e w2 ⟨rfl, rfl⟩))
  go_ret
  exact ⟨rfl, Hb.out⟩

theorem numbers_law (x0 : Int) (_w0 : (Lit.int .i64 x0).wf = true) (x1 : Int) (_w1 : (Lit.int .i64 x1).wf = true) (x2 y2 : Int) (w2 : (Lit.int .u64 x2).wf = true) (w2b : (Lit.int .u64 y2).wf = true) (w : World) :
    Calls Tryz.prog 5 #[.int .i64 x0, .int .i64 x1, .agg #[.int .u64 x2, .int .u64 y2]] w fun e w'' => e = .returned (.bool true) ∧ Below w.heap.size w w'' := numbers_any x0 x1 x2 y2 w (wf_u64 _ w2) (wf_u64 _ w2b)

end Go.Proofs.YtfkhflknigemgaaGreat
