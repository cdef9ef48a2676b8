/-
  DERIVED. A mark's Load without a gate.
-/
import Derived.Test.YtjifoggfndicoaaMark
namespace Go.Proofs.Ytjifoggfndicoaa
open Go.RowKit

theorem mark_nil (nb : Nat) (x : Int) (w : World) (h : w.heap[nb]? = some (.cells #[.int .u32 x] 84 (0, 0))) :
    Calls Try.prog 37 #[.pointer (some ⟨nb, 0, none⟩), .nilIface] w fun e w' => e = .returned (.bool (x != 0)) ∧ w = w' := by
  refine (mark_load _ nb x w (fun w' => w = w') (pass_nil 1 _) ?_).mono ?_
  · rintro w1 rfl
    exact h
  · rintro e w' ⟨rfl, rfl⟩
    exact ⟨rfl, rfl⟩

end Go.Proofs.Ytjifoggfndicoaa
