/-
  No cell of these rows narrows 'for every input' (looked for: loops, veiled, ifaces, maps, wideKeys, modest, calm, conditions, laid).
  DERIVED. THE GIVEN ROWS OF THIS SEAT. 3 by the template 'for every input the law returns true; each argument reads behind the call as it read before'; 0 by the template 'total and deterministic' (their statements: YtfkhflknigemgaaGreatTotals.lean).
  GIVEN WITH THE SEED: the statements are not yours to turn. If you find one false, say at which input.
  Laid BY PROGRAM, IN A SANDBOX (cutbox-rows.mjs): the forced cells as the released guide's own fill.sh prints them over the translation 4cd60cc80e3d116d… (all of the seat's roots in one cut). By AI agents, Wed Nov 11 2026. No macro, syntax, notation, axiom, sorry.
-/
import Derived.Test.YtfkhflknigemgaaGreatChecked
import GoSem.Claim
import GoSem.ClaimJoined
import GoSem.ClaimMapViews
import Derived.JoinedTies
import Derived.KernelRfl
namespace Go.Proofs.YtfkhflknigemgaaGreat
/- THE CELL 'sum', in the pinned program and in every row, IS THE sha256 OF THE DUMP (.gsa) THAT YtfkhflknigemgaaGreatProg.lean LOADS. Nothing in Lean hashes anything: it is a label: what it is worth is what the hold of that sum in a sandbox is worth. -/
noncomputable def Tryz.pinned : Pinned := { name := "ytfkhflknigemgaagreat", sum := "4cd60cc80e3d116db0a61cd3941e185e1e67a12d1a710a00ba8bedfcbe5c56d8", checked := Tryz.checked }
namespace Rows
def none {H : Type} : Left H := { results := [], args := [] }

/-- 'larchlaw01.WordDoes': WHATEVER THE INPUT: true; the input reads as it did. -/
def wordDoesSpec : ChangeSpec := { name := "wordDoes", fn := fun _ => fun
  | [d1, d2, d3] => { results := [.lit (.bool true)], args := [d1, d2, d3] }
  | _ => none }
def wordDoesRow : OpenClaim := { program := "ytfkhflknigemgaagreat", sum := "4cd60cc80e3d116db0a61cd3941e185e1e67a12d1a710a00ba8bedfcbe5c56d8", func := "larch/larchlaw01.WordDoes", spec := "wordDoes", unfollowed := true, recurses := true, apart := false }
def WordDoesSaid : Prop := wordDoesRow.holds Tryz.pinned (OpenSpec.ofChange wordDoesSpec)

/-- ITS FALSE NEIGHBOUR: 'it returns false'. Refute it at one input. -/
def wordDoesWrong : ChangeSpec := { name := "wordDoes", fn := fun _ => fun
  | [d1, d2, d3] => { results := [.lit (.bool false)], args := [d1, d2, d3] }
  | _ => none }
def WordDoesWrongFalsely : Prop := wordDoesRow.holds Tryz.pinned (OpenSpec.ofChange wordDoesWrong)

/-- 'larchlaw01.WordApart': WHATEVER THE INPUT: true; the input reads as it did. -/
def wordApartSpec : ChangeSpec := { name := "wordApart", fn := fun _ => fun
  | [d1, d2, d3] => { results := [.lit (.bool true)], args := [d1, d2, d3] }
  | _ => none }
def wordApartRow : OpenClaim := { program := "ytfkhflknigemgaagreat", sum := "4cd60cc80e3d116db0a61cd3941e185e1e67a12d1a710a00ba8bedfcbe5c56d8", func := "larch/larchlaw01.WordApart", spec := "wordApart", unfollowed := true, recurses := true, apart := false }
def WordApartSaid : Prop := wordApartRow.holds Tryz.pinned (OpenSpec.ofChange wordApartSpec)

/-- ITS FALSE NEIGHBOUR: 'it returns false'. Refute it at one input. -/
def wordApartWrong : ChangeSpec := { name := "wordApart", fn := fun _ => fun
  | [d1, d2, d3] => { results := [.lit (.bool false)], args := [d1, d2, d3] }
  | _ => none }
def WordApartWrongFalsely : Prop := wordApartRow.holds Tryz.pinned (OpenSpec.ofChange wordApartWrong)

/-- 'larchlaw01.WordNumbers': WHATEVER THE INPUT: true; the input reads as it did. -/
def wordNumbersSpec : ChangeSpec := { name := "wordNumbers", fn := fun _ => fun
  | [d1, d2, d3] => { results := [.lit (.bool true)], args := [d1, d2, d3] }
  | _ => none }
def wordNumbersRow : OpenClaim := { program := "ytfkhflknigemgaagreat", sum := "4cd60cc80e3d116db0a61cd3941e185e1e67a12d1a710a00ba8bedfcbe5c56d8", func := "larch/larchlaw01.WordNumbers", spec := "wordNumbers", unfollowed := true, recurses := true, apart := false }
def WordNumbersSaid : Prop := wordNumbersRow.holds Tryz.pinned (OpenSpec.ofChange wordNumbersSpec)

/-- ITS FALSE NEIGHBOUR: 'it returns false'. Refute it at one input. -/
def wordNumbersWrong : ChangeSpec := { name := "wordNumbers", fn := fun _ => fun
  | [d1, d2, d3] => { results := [.lit (.bool false)], args := [d1, d2, d3] }
  | _ => none }
def WordNumbersWrongFalsely : Prop := wordNumbersRow.holds Tryz.pinned (OpenSpec.ofChange wordNumbersWrong)

/- THE SECOND FORM. 'bulk': how many values and letters a reading holds, each counted each time it is reached (what is shared counts as often as it is met; a slice's spare places count too). A statement '..UptoSaid' is the law's where the arguments, and the package variables that the reading takes, are together of bulk at most 1048576: NARROWER than '..Said'. Prove '..Said' where nothing that the law and all that it calls make is longer than what came in: it says more and counts as full. Else prove '..UptoSaid'. A law counts once. -/
mutual
def uptoBulk {H : Type} : DataW H → Nat
  | .lit (.string bytes) => bytes.length + 1
  | .lit _ => 1
  | .nil => 1
  | .ptr d => uptoBulk d + 1
  | .slice elems spare => uptoBulkAll elems + uptoBulkAll spare + 1
  | .agg parts => uptoBulkAll parts + 1
  | .iface _ d => uptoBulk d + 1
  | .map entries => uptoBulkEntries entries + 1
  | .held _ => 1
def uptoBulkAll {H : Type} : List (DataW H) → Nat
  | [] => 0
  | d :: r => uptoBulk d + uptoBulkAll r
def uptoBulkEntries {H : Type} : List (Lit × DataW H) → Nat
  | [] => 0
  | x :: r => uptoBulkEntry x + uptoBulkEntries r
def uptoBulkEntry {H : Type} : Lit × DataW H → Nat
  | (.string bytes, d) => bytes.length + uptoBulk d + 1
  | (_, d) => uptoBulk d + 1
 end
def uptoSmall : (H : Type) → List (DataW H) → Bool := fun _ ds => decide (uptoBulkAll ds ≤ 1048576)
def OpenSpec.upto (s : _root_.Go.ChangeSpec) : _root_.Go.OpenSpec := { _root_.Go.OpenSpec.ofChange s with cond := some uptoSmall }

/-- 'larchlaw01.WordDoes', WHERE WHAT IT READS IS OF BULK AT MOST 1048576: true; the input reads as it did. -/
def wordDoesUptoRow : OpenClaim := { program := "ytfkhflknigemgaagreat", sum := "4cd60cc80e3d116db0a61cd3941e185e1e67a12d1a710a00ba8bedfcbe5c56d8", func := "larch/larchlaw01.WordDoes", spec := "wordDoes", unfollowed := true, recurses := true, apart := false, narrowed := true }
def WordDoesUptoSaid : Prop := wordDoesUptoRow.holds Tryz.pinned (OpenSpec.upto wordDoesSpec)

/-- 'larchlaw01.WordApart', WHERE WHAT IT READS IS OF BULK AT MOST 1048576: true; the input reads as it did. -/
def wordApartUptoRow : OpenClaim := { program := "ytfkhflknigemgaagreat", sum := "4cd60cc80e3d116db0a61cd3941e185e1e67a12d1a710a00ba8bedfcbe5c56d8", func := "larch/larchlaw01.WordApart", spec := "wordApart", unfollowed := true, recurses := true, apart := false, narrowed := true }
def WordApartUptoSaid : Prop := wordApartUptoRow.holds Tryz.pinned (OpenSpec.upto wordApartSpec)

/-- 'larchlaw01.WordNumbers', WHERE WHAT IT READS IS OF BULK AT MOST 1048576: true; the input reads as it did. -/
def wordNumbersUptoRow : OpenClaim := { program := "ytfkhflknigemgaagreat", sum := "4cd60cc80e3d116db0a61cd3941e185e1e67a12d1a710a00ba8bedfcbe5c56d8", func := "larch/larchlaw01.WordNumbers", spec := "wordNumbers", unfollowed := true, recurses := true, apart := false, narrowed := true }
def WordNumbersUptoSaid : Prop := wordNumbersUptoRow.holds Tryz.pinned (OpenSpec.upto wordNumbersSpec)

end Rows
end Go.Proofs.YtfkhflknigemgaaGreat
