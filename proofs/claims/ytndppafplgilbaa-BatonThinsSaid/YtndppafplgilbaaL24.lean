/-
  larchlaw04.BatonThins returns true for every input. No condition. (Part 24 of 49; joined by program.)
-/
import Derived.Test.YtndppafplgilbaaProg
import Derived.Test.YtndppafplgilbaaL16
import Derived.WalkKit
import Derived.Conc.CompanyMem
import Derived.Conc.SmallLaws
set_option linter.unusedVariables false
set_option linter.unusedSimpArgs false
set_option linter.unusedSectionVars false
set_option maxRecDepth 100000
namespace Go.Proofs.Ytndppafplgilbaa
open Go Go.Conc Go.RowKit
structure LAh (a:Prop):Prop where
  out:a
theorem laW {a b:Prop} (h:a) (hab:LAh a→b:=by intro hLA;(repeat (first | refine l_seq T ?_ | refine l_skip T ?_ | (refine l_region T ?_;simp only [List.size_toArray,List.length_cons,List.length_nil,Nat.reduceAdd,Nat.zero_add,List.range,List.range.loop]) | refine l_end T ?_ | (refine l_un T rfl (by rfl) ?_;walk_nrm) | ((co_applyP (l_val T (by simp) rfl (by rfl) (fun w=>run_eq_of ?_) (fun w=>?_) ?_);rotate_left;(focus (intro K hK;go_simp;exact hK));(focus (solve | simp [go_sem])));walk_nrm)));exact hLA.out):b:=hab ⟨h⟩
end Go.Proofs.Ytndppafplgilbaa
