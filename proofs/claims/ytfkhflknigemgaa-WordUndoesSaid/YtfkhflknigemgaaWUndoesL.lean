/-
  DERIVED. WordUndoes as the row takes it.
-/
import Derived.Test.YtfkhflknigemgaaWUndoes
namespace Go.Proofs.Ytfkhflknigemgaa
open Go.RowKit

theorem wf_u64 (n : Int) (h : (Lit.int .u64 n).wf = true) : 0 ≤ n ∧ n < 18446744073709551616 := by
  have h' : IntKind.u64.min ≤ n ∧ n ≤ IntKind.u64.max := by simpa [Lit.wf] using h
  have h1 : IntKind.u64.min = 0 := by decide
  have h2 : IntKind.u64.max = 18446744073709551615 := by decide
  omega

theorem undoes_law (kd : Int) (_ : (Lit.int .i64 kd).wf = true) (s : Int) (hs : (Lit.int .u64 s).wf = true) (n : Int) (hn : (Lit.int .u64 n).wf = true) (w : World) :
    Calls Try.prog 3 #[.int .i64 kd, .int .u64 s, .int .u64 n] w fun e w' => e = .returned (.bool true) ∧ Below w.heap.size w w' :=
  undoes_any kd s n w (wf_u64 s hs) (wf_u64 n hn)

end Go.Proofs.Ytfkhflknigemgaa
