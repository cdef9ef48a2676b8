/-
  No cell of these rows narrows 'for every input' (looked for: loops, veiled, ifaces, maps, wideKeys, modest, calm, conditions, laid).
  DERIVED. THE GIVEN ROWS OF THIS SEAT. 3 by the template 'for every input the law returns true; each argument reads behind the call as it read before'; 0 by the template 'total and deterministic' (their statements: YtnpelkohmnhodaaTotals.lean).
  GIVEN WITH THE SEED: the statements are not yours to turn. If you find one false, say at which input.
  Laid BY PROGRAM, IN A SANDBOX (cutbox-rows.mjs): the forced cells as the released guide's own fill.sh prints them over the translation 51c65222c7598ad6… (all of the seat's roots in one cut). By AI agents, Wed Nov 11 2026. No macro, syntax, notation, axiom, sorry.
-/
import Derived.Test.YtnpelkohmnhodaaChecked
import GoSem.Claim
import GoSem.ClaimJoined
import GoSem.ClaimMapViews
import Derived.JoinedTies
import Derived.KernelRfl
namespace Go.Proofs.Ytnpelkohmnhodaa
/- THE CELL 'sum', in the pinned program and in every row, IS THE sha256 OF THE DUMP (.gsa) THAT YtnpelkohmnhodaaProg.lean LOADS. Nothing in Lean hashes anything: it is a label: what it is worth is what the hold of that sum in a sandbox is worth. -/
noncomputable def Try.pinned : Pinned := { name := "ytnpelkohmnhodaa", sum := "51c65222c7598ad6fd3b55782109fd212540f8623db48ec985f41b84bb4611a1", checked := Try.checked }
namespace Rows
def none {H : Type} : Left H := { results := [], args := [] }

/-- 'larchtop.LarchHistories': WHATEVER THE INPUT: true; the input reads as it did. -/
def larchHistoriesSpec : ChangeSpec := { name := "larchHistories", fn := fun _ => fun
  | [d] => { results := [.lit (.bool true)], args := [d] }
  | _ => none }
def larchHistoriesRow : OpenClaim := { program := "ytnpelkohmnhodaa", sum := "51c65222c7598ad6fd3b55782109fd212540f8623db48ec985f41b84bb4611a1", func := "larch/larchtop.LarchHistories", spec := "larchHistories", inPlace := ["slices.overlaps[larch/api.Pair]"], unfollowed := true, recurses := true, apart := false }
def LarchHistoriesSaid : Prop := larchHistoriesRow.holds Try.pinned (OpenSpec.ofChange larchHistoriesSpec)

/-- ITS FALSE NEIGHBOUR: 'it returns false'. Refute it at one input. -/
def larchHistoriesWrong : ChangeSpec := { name := "larchHistories", fn := fun _ => fun
  | [d] => { results := [.lit (.bool false)], args := [d] }
  | _ => none }
def LarchHistoriesWrongFalsely : Prop := larchHistoriesRow.holds Try.pinned (OpenSpec.ofChange larchHistoriesWrong)

/-- 'larchtop.LarchOneWins': WHATEVER THE INPUT: true; the input reads as it did. -/
def larchOneWinsSpec : ChangeSpec := { name := "larchOneWins", fn := fun _ => fun
  | [d1, d2, d3] => { results := [.lit (.bool true)], args := [d1, d2, d3] }
  | _ => none }
def larchOneWinsRow : OpenClaim := { program := "ytnpelkohmnhodaa", sum := "51c65222c7598ad6fd3b55782109fd212540f8623db48ec985f41b84bb4611a1", func := "larch/larchtop.LarchOneWins", spec := "larchOneWins", unfollowed := true, recurses := true, apart := false }
def LarchOneWinsSaid : Prop := larchOneWinsRow.holds Try.pinned (OpenSpec.ofChange larchOneWinsSpec)

/-- ITS FALSE NEIGHBOUR: 'it returns false'. Refute it at one input. -/
def larchOneWinsWrong : ChangeSpec := { name := "larchOneWins", fn := fun _ => fun
  | [d1, d2, d3] => { results := [.lit (.bool false)], args := [d1, d2, d3] }
  | _ => none }
def LarchOneWinsWrongFalsely : Prop := larchOneWinsRow.holds Try.pinned (OpenSpec.ofChange larchOneWinsWrong)

/-- 'larchtop.LarchFinds': WHATEVER THE INPUT: true; the input reads as it did. -/
def larchFindsSpec : ChangeSpec := { name := "larchFinds", fn := fun _ => fun
  | [d1, d2] => { results := [.lit (.bool true)], args := [d1, d2] }
  | _ => none }
def larchFindsRow : OpenClaim := { program := "ytnpelkohmnhodaa", sum := "51c65222c7598ad6fd3b55782109fd212540f8623db48ec985f41b84bb4611a1", func := "larch/larchtop.LarchFinds", spec := "larchFinds", inPlace := ["slices.overlaps[larch/api.Pair]"], unfollowed := true, recurses := true, apart := false }
def LarchFindsSaid : Prop := larchFindsRow.holds Try.pinned (OpenSpec.ofChange larchFindsSpec)

/-- ITS FALSE NEIGHBOUR: 'it returns false'. Refute it at one input. -/
def larchFindsWrong : ChangeSpec := { name := "larchFinds", fn := fun _ => fun
  | [d1, d2] => { results := [.lit (.bool false)], args := [d1, d2] }
  | _ => none }
def LarchFindsWrongFalsely : Prop := larchFindsRow.holds Try.pinned (OpenSpec.ofChange larchFindsWrong)

/- THE SECOND FORM. 'bulk': how many values and letters a reading holds, each counted each time it is reached (what is shared counts as often as it is met; a slice's spare places count too). A statement '..UptoSaid' is the law's where the arguments, and the package variables that the reading takes, are together of bulk at most 1048576: NARROWER than '..Said'. Prove '..Said' where nothing that the law and all that it calls make is longer than what came in: it says more and counts as full. Else prove '..UptoSaid'. A law counts once. -/
mutual
def uptoBulk {H : Type} : DataW H → Nat
  | .lit (.string bytes) => bytes.length + 1
  | .lit _ => 1
  | .nil => 1
  | .ptr d => uptoBulk d + 1
  | .slice elems spare => uptoBulkAll elems + uptoBulkAll spare + 1
  | .agg parts => uptoBulkAll parts + 1
  | .iface _ d => uptoBulk d + 1
  | .map entries => uptoBulkEntries entries + 1
  | .held _ => 1
def uptoBulkAll {H : Type} : List (DataW H) → Nat
  | [] => 0
  | d :: r => uptoBulk d + uptoBulkAll r
def uptoBulkEntries {H : Type} : List (Lit × DataW H) → Nat
  | [] => 0
  | x :: r => uptoBulkEntry x + uptoBulkEntries r
def uptoBulkEntry {H : Type} : Lit × DataW H → Nat
  | (.string bytes, d) => bytes.length + uptoBulk d + 1
  | (_, d) => uptoBulk d + 1
 end
def uptoSmall : (H : Type) → List (DataW H) → Bool := fun _ ds => decide (uptoBulkAll ds ≤ 1048576)
def OpenSpec.upto (s : _root_.Go.ChangeSpec) : _root_.Go.OpenSpec := { _root_.Go.OpenSpec.ofChange s with cond := some uptoSmall }

/-- 'larchtop.LarchHistories', WHERE WHAT IT READS IS OF BULK AT MOST 1048576: true; the input reads as it did. -/
def larchHistoriesUptoRow : OpenClaim := { program := "ytnpelkohmnhodaa", sum := "51c65222c7598ad6fd3b55782109fd212540f8623db48ec985f41b84bb4611a1", func := "larch/larchtop.LarchHistories", spec := "larchHistories", inPlace := ["slices.overlaps[larch/api.Pair]"], unfollowed := true, recurses := true, apart := false, narrowed := true }
def LarchHistoriesUptoSaid : Prop := larchHistoriesUptoRow.holds Try.pinned (OpenSpec.upto larchHistoriesSpec)

/-- 'larchtop.LarchOneWins', WHERE WHAT IT READS IS OF BULK AT MOST 1048576: true; the input reads as it did. -/
def larchOneWinsUptoRow : OpenClaim := { program := "ytnpelkohmnhodaa", sum := "51c65222c7598ad6fd3b55782109fd212540f8623db48ec985f41b84bb4611a1", func := "larch/larchtop.LarchOneWins", spec := "larchOneWins", unfollowed := true, recurses := true, apart := false, narrowed := true }
def LarchOneWinsUptoSaid : Prop := larchOneWinsUptoRow.holds Try.pinned (OpenSpec.upto larchOneWinsSpec)

/-- 'larchtop.LarchFinds', WHERE WHAT IT READS IS OF BULK AT MOST 1048576: true; the input reads as it did. -/
def larchFindsUptoRow : OpenClaim := { program := "ytnpelkohmnhodaa", sum := "51c65222c7598ad6fd3b55782109fd212540f8623db48ec985f41b84bb4611a1", func := "larch/larchtop.LarchFinds", spec := "larchFinds", inPlace := ["slices.overlaps[larch/api.Pair]"], unfollowed := true, recurses := true, apart := false, narrowed := true }
def LarchFindsUptoSaid : Prop := larchFindsUptoRow.holds Try.pinned (OpenSpec.upto larchFindsSpec)

end Rows
end Go.Proofs.Ytnpelkohmnhodaa
