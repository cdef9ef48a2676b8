/-
  No cell of these rows narrows 'for every input' (looked for: loops, veiled, ifaces, maps, wideKeys, modest, calm, conditions, laid).
  DERIVED. THE GIVEN ROWS OF THIS SEAT. 7 by the template 'for every input the law returns true; each argument reads behind the call as it read before'; 0 by the template 'total and deterministic' (their statements: YtjifoggfndicoaaTotals.lean).
  GIVEN WITH THE SEED: the statements are not yours to turn. If you find one false, say at which input.
  Laid BY PROGRAM, IN A SANDBOX (cutbox-rows.mjs): the forced cells as the released guide's own fill.sh prints them over the translation 31eb87a5df828652… (all of the seat's roots in one cut). By AI agents, Wed Nov 11 2026. No macro, syntax, notation, axiom, sorry.
-/
import Derived.Test.YtjifoggfndicoaaChecked
import GoSem.Claim
import GoSem.ClaimJoined
import GoSem.ClaimMapViews
import Derived.JoinedTies
import Derived.KernelRfl
namespace Go.Proofs.Ytjifoggfndicoaa
/- THE CELL 'sum', in the pinned program and in every row, IS THE sha256 OF THE DUMP (.gsa) THAT YtjifoggfndicoaaProg.lean LOADS. Nothing in Lean hashes anything: it is a label: what it is worth is what the hold of that sum in a sandbox is worth. -/
noncomputable def Try.pinned : Pinned := { name := "ytjifoggfndicoaa", sum := "31eb87a5df828652f874a14ddb6638cec3c543a6223656acfc8a19a115728186", checked := Try.checked }
namespace Rows
def none {H : Type} : Left H := { results := [], args := [] }

/-- 'larchlaw02.CellNums': WHATEVER THE INPUT: true; the input reads as it did. -/
def cellNumsSpec : ChangeSpec := { name := "cellNums", fn := fun _ => fun
  | [d1, d2] => { results := [.lit (.bool true)], args := [d1, d2] }
  | _ => none }
def cellNumsRow : OpenClaim := { program := "ytjifoggfndicoaa", sum := "31eb87a5df828652f874a14ddb6638cec3c543a6223656acfc8a19a115728186", func := "larch/larchlaw02.CellNums", spec := "cellNums", inPlace := ["sync/atomic.StoreInt64", "sync/atomic.LoadInt64", "sync/atomic.AddInt64", "sync/atomic.SwapInt64", "sync/atomic.CompareAndSwapInt64", "sync/atomic.AndInt64", "sync/atomic.OrInt64"], unfollowed := true, recurses := true, apart := false }
def CellNumsSaid : Prop := cellNumsRow.holds Try.pinned (OpenSpec.ofChange cellNumsSpec)

/-- ITS FALSE NEIGHBOUR: 'it returns false'. Refute it at one input. -/
def cellNumsWrong : ChangeSpec := { name := "cellNums", fn := fun _ => fun
  | [d1, d2] => { results := [.lit (.bool false)], args := [d1, d2] }
  | _ => none }
def CellNumsWrongFalsely : Prop := cellNumsRow.holds Try.pinned (OpenSpec.ofChange cellNumsWrong)

/-- 'larchlaw02.CellGates': WHATEVER THE INPUT: true; the input reads as it did. -/
def cellGatesSpec : ChangeSpec := { name := "cellGates", fn := fun _ => fun
  | [d] => { results := [.lit (.bool true)], args := [d] }
  | _ => none }
def cellGatesRow : OpenClaim := { program := "ytjifoggfndicoaa", sum := "31eb87a5df828652f874a14ddb6638cec3c543a6223656acfc8a19a115728186", func := "larch/larchlaw02.CellGates", spec := "cellGates", inPlace := ["sync/atomic.StoreInt64", "sync/atomic.LoadInt64", "sync/atomic.AddInt64", "sync/atomic.SwapInt64", "sync/atomic.CompareAndSwapInt64", "sync/atomic.AndInt64", "sync/atomic.OrInt64"], unfollowed := true, recurses := true, apart := false }
def CellGatesSaid : Prop := cellGatesRow.holds Try.pinned (OpenSpec.ofChange cellGatesSpec)

/-- ITS FALSE NEIGHBOUR: 'it returns false'. Refute it at one input. -/
def cellGatesWrong : ChangeSpec := { name := "cellGates", fn := fun _ => fun
  | [d] => { results := [.lit (.bool false)], args := [d] }
  | _ => none }
def CellGatesWrongFalsely : Prop := cellGatesRow.holds Try.pinned (OpenSpec.ofChange cellGatesWrong)

/-- 'larchlaw02.CellRound': WHATEVER THE INPUT: true; the input reads as it did. -/
def cellRoundSpec : ChangeSpec := { name := "cellRound", fn := fun _ => fun
  | [d1, d2] => { results := [.lit (.bool true)], args := [d1, d2] }
  | _ => none }
def cellRoundRow : OpenClaim := { program := "ytjifoggfndicoaa", sum := "31eb87a5df828652f874a14ddb6638cec3c543a6223656acfc8a19a115728186", func := "larch/larchlaw02.CellRound", spec := "cellRound", inPlace := ["sync/atomic.StoreInt64", "sync/atomic.LoadInt64", "sync/atomic.AddInt64", "sync/atomic.SwapInt64", "sync/atomic.CompareAndSwapInt64", "sync/atomic.AndInt64", "sync/atomic.OrInt64"], unfollowed := true, recurses := true, apart := false }
def CellRoundSaid : Prop := cellRoundRow.holds Try.pinned (OpenSpec.ofChange cellRoundSpec)

/-- ITS FALSE NEIGHBOUR: 'it returns false'. Refute it at one input. -/
def cellRoundWrong : ChangeSpec := { name := "cellRound", fn := fun _ => fun
  | [d1, d2] => { results := [.lit (.bool false)], args := [d1, d2] }
  | _ => none }
def CellRoundWrongFalsely : Prop := cellRoundRow.holds Try.pinned (OpenSpec.ofChange cellRoundWrong)

/-- 'larchlaw02.CellKeeps': WHATEVER THE INPUT: true; the input reads as it did. -/
def cellKeepsSpec : ChangeSpec := { name := "cellKeeps", fn := fun _ => fun
  | [d1, d2] => { results := [.lit (.bool true)], args := [d1, d2] }
  | _ => none }
def cellKeepsRow : OpenClaim := { program := "ytjifoggfndicoaa", sum := "31eb87a5df828652f874a14ddb6638cec3c543a6223656acfc8a19a115728186", func := "larch/larchlaw02.CellKeeps", spec := "cellKeeps", inPlace := ["sync/atomic.StoreInt64", "sync/atomic.LoadInt64", "sync/atomic.AddInt64", "sync/atomic.SwapInt64", "sync/atomic.CompareAndSwapInt64", "sync/atomic.AndInt64", "sync/atomic.OrInt64"], unfollowed := true, recurses := true, apart := false }
def CellKeepsSaid : Prop := cellKeepsRow.holds Try.pinned (OpenSpec.ofChange cellKeepsSpec)

/-- ITS FALSE NEIGHBOUR: 'it returns false'. Refute it at one input. -/
def cellKeepsWrong : ChangeSpec := { name := "cellKeeps", fn := fun _ => fun
  | [d1, d2] => { results := [.lit (.bool false)], args := [d1, d2] }
  | _ => none }
def CellKeepsWrongFalsely : Prop := cellKeepsRow.holds Try.pinned (OpenSpec.ofChange cellKeepsWrong)

/-- 'larchlaw02.CellSame': WHATEVER THE INPUT: true; the input reads as it did. -/
def cellSameSpec : ChangeSpec := { name := "cellSame", fn := fun _ => fun
  | [d1, d2] => { results := [.lit (.bool true)], args := [d1, d2] }
  | _ => none }
def cellSameRow : OpenClaim := { program := "ytjifoggfndicoaa", sum := "31eb87a5df828652f874a14ddb6638cec3c543a6223656acfc8a19a115728186", func := "larch/larchlaw02.CellSame", spec := "cellSame", inPlace := ["sync/atomic.StoreInt64", "sync/atomic.LoadInt64", "sync/atomic.AddInt64", "sync/atomic.SwapInt64", "sync/atomic.CompareAndSwapInt64", "sync/atomic.AndInt64", "sync/atomic.OrInt64", "sync/atomic.StorePointer", "sync/atomic.CompareAndSwapPointer", "sync/atomic.LoadPointer", "sync/atomic.SwapPointer", "sync/atomic.StoreUint32", "sync/atomic.LoadUint32", "sync/atomic.CompareAndSwapUint32", "sync/atomic.SwapUint32"], unfollowed := true, recurses := true, apart := false }
def CellSameSaid : Prop := cellSameRow.holds Try.pinned (OpenSpec.ofChange cellSameSpec)

/-- ITS FALSE NEIGHBOUR: 'it returns false'. Refute it at one input. -/
def cellSameWrong : ChangeSpec := { name := "cellSame", fn := fun _ => fun
  | [d1, d2] => { results := [.lit (.bool false)], args := [d1, d2] }
  | _ => none }
def CellSameWrongFalsely : Prop := cellSameRow.holds Try.pinned (OpenSpec.ofChange cellSameWrong)

/-- 'larchlaw02.CellMarks': WHATEVER THE INPUT: true; the input reads as it did. -/
def cellMarksSpec : ChangeSpec := { name := "cellMarks", fn := fun _ => fun
  | [d1, d2] => { results := [.lit (.bool true)], args := [d1, d2] }
  | _ => none }
def cellMarksRow : OpenClaim := { program := "ytjifoggfndicoaa", sum := "31eb87a5df828652f874a14ddb6638cec3c543a6223656acfc8a19a115728186", func := "larch/larchlaw02.CellMarks", spec := "cellMarks", inPlace := ["sync/atomic.StoreInt64", "sync/atomic.LoadInt64", "sync/atomic.AddInt64", "sync/atomic.SwapInt64", "sync/atomic.CompareAndSwapInt64", "sync/atomic.AndInt64", "sync/atomic.OrInt64", "sync/atomic.StoreUint32", "sync/atomic.LoadUint32", "sync/atomic.SwapUint32", "sync/atomic.CompareAndSwapUint32"], unfollowed := true, recurses := true, apart := false }
def CellMarksSaid : Prop := cellMarksRow.holds Try.pinned (OpenSpec.ofChange cellMarksSpec)

/-- ITS FALSE NEIGHBOUR: 'it returns false'. Refute it at one input. -/
def cellMarksWrong : ChangeSpec := { name := "cellMarks", fn := fun _ => fun
  | [d1, d2] => { results := [.lit (.bool false)], args := [d1, d2] }
  | _ => none }
def CellMarksWrongFalsely : Prop := cellMarksRow.holds Try.pinned (OpenSpec.ofChange cellMarksWrong)

/-- 'larchlaw02.CellIds': WHATEVER THE INPUT: true; the input reads as it did. -/
def cellIdsSpec : ChangeSpec := { name := "cellIds", fn := fun _ => fun
  | [d1, d2, d3] => { results := [.lit (.bool true)], args := [d1, d2, d3] }
  | _ => none }
def cellIdsRow : OpenClaim := { program := "ytjifoggfndicoaa", sum := "31eb87a5df828652f874a14ddb6638cec3c543a6223656acfc8a19a115728186", func := "larch/larchlaw02.CellIds", spec := "cellIds", inPlace := ["sync/atomic.StoreInt64", "sync/atomic.LoadInt64", "sync/atomic.AddInt64", "sync/atomic.SwapInt64", "sync/atomic.CompareAndSwapInt64", "sync/atomic.AndInt64", "sync/atomic.OrInt64", "sync/atomic.StorePointer", "sync/atomic.LoadPointer", "sync/atomic.SwapPointer", "sync/atomic.CompareAndSwapPointer"], unfollowed := true, recurses := true, apart := false }
def CellIdsSaid : Prop := cellIdsRow.holds Try.pinned (OpenSpec.ofChange cellIdsSpec)

/-- ITS FALSE NEIGHBOUR: 'it returns false'. Refute it at one input. -/
def cellIdsWrong : ChangeSpec := { name := "cellIds", fn := fun _ => fun
  | [d1, d2, d3] => { results := [.lit (.bool false)], args := [d1, d2, d3] }
  | _ => none }
def CellIdsWrongFalsely : Prop := cellIdsRow.holds Try.pinned (OpenSpec.ofChange cellIdsWrong)

/- THE SECOND FORM. 'bulk': how many values and letters a reading holds, each counted each time it is reached (what is shared counts as often as it is met; a slice's spare places count too). A statement '..UptoSaid' is the law's where the arguments, and the package variables that the reading takes, are together of bulk at most 1048576: NARROWER than '..Said'. Prove '..Said' where nothing that the law and all that it calls make is longer than what came in: it says more and counts as full. Else prove '..UptoSaid'. A law counts once. -/
mutual
def uptoBulk {H : Type} : DataW H → Nat
  | .lit (.string bytes) => bytes.length + 1
  | .lit _ => 1
  | .nil => 1
  | .ptr d => uptoBulk d + 1
  | .slice elems spare => uptoBulkAll elems + uptoBulkAll spare + 1
  | .agg parts => uptoBulkAll parts + 1
  | .iface _ d => uptoBulk d + 1
  | .map entries => uptoBulkEntries entries + 1
  | .held _ => 1
def uptoBulkAll {H : Type} : List (DataW H) → Nat
  | [] => 0
  | d :: r => uptoBulk d + uptoBulkAll r
def uptoBulkEntries {H : Type} : List (Lit × DataW H) → Nat
  | [] => 0
  | x :: r => uptoBulkEntry x + uptoBulkEntries r
def uptoBulkEntry {H : Type} : Lit × DataW H → Nat
  | (.string bytes, d) => bytes.length + uptoBulk d + 1
  | (_, d) => uptoBulk d + 1
 end
def uptoSmall : (H : Type) → List (DataW H) → Bool := fun _ ds => decide (uptoBulkAll ds ≤ 1048576)
def OpenSpec.upto (s : _root_.Go.ChangeSpec) : _root_.Go.OpenSpec := { _root_.Go.OpenSpec.ofChange s with cond := some uptoSmall }

/-- 'larchlaw02.CellNums', WHERE WHAT IT READS IS OF BULK AT MOST 1048576: true; the input reads as it did. -/
def cellNumsUptoRow : OpenClaim := { program := "ytjifoggfndicoaa", sum := "31eb87a5df828652f874a14ddb6638cec3c543a6223656acfc8a19a115728186", func := "larch/larchlaw02.CellNums", spec := "cellNums", inPlace := ["sync/atomic.StoreInt64", "sync/atomic.LoadInt64", "sync/atomic.AddInt64", "sync/atomic.SwapInt64", "sync/atomic.CompareAndSwapInt64", "sync/atomic.AndInt64", "sync/atomic.OrInt64"], unfollowed := true, recurses := true, apart := false, narrowed := true }
def CellNumsUptoSaid : Prop := cellNumsUptoRow.holds Try.pinned (OpenSpec.upto cellNumsSpec)

/-- 'larchlaw02.CellGates', WHERE WHAT IT READS IS OF BULK AT MOST 1048576: true; the input reads as it did. -/
def cellGatesUptoRow : OpenClaim := { program := "ytjifoggfndicoaa", sum := "31eb87a5df828652f874a14ddb6638cec3c543a6223656acfc8a19a115728186", func := "larch/larchlaw02.CellGates", spec := "cellGates", inPlace := ["sync/atomic.StoreInt64", "sync/atomic.LoadInt64", "sync/atomic.AddInt64", "sync/atomic.SwapInt64", "sync/atomic.CompareAndSwapInt64", "sync/atomic.AndInt64", "sync/atomic.OrInt64"], unfollowed := true, recurses := true, apart := false, narrowed := true }
def CellGatesUptoSaid : Prop := cellGatesUptoRow.holds Try.pinned (OpenSpec.upto cellGatesSpec)

/-- 'larchlaw02.CellRound', WHERE WHAT IT READS IS OF BULK AT MOST 1048576: true; the input reads as it did. -/
def cellRoundUptoRow : OpenClaim := { program := "ytjifoggfndicoaa", sum := "31eb87a5df828652f874a14ddb6638cec3c543a6223656acfc8a19a115728186", func := "larch/larchlaw02.CellRound", spec := "cellRound", inPlace := ["sync/atomic.StoreInt64", "sync/atomic.LoadInt64", "sync/atomic.AddInt64", "sync/atomic.SwapInt64", "sync/atomic.CompareAndSwapInt64", "sync/atomic.AndInt64", "sync/atomic.OrInt64"], unfollowed := true, recurses := true, apart := false, narrowed := true }
def CellRoundUptoSaid : Prop := cellRoundUptoRow.holds Try.pinned (OpenSpec.upto cellRoundSpec)

/-- 'larchlaw02.CellKeeps', WHERE WHAT IT READS IS OF BULK AT MOST 1048576: true; the input reads as it did. -/
def cellKeepsUptoRow : OpenClaim := { program := "ytjifoggfndicoaa", sum := "31eb87a5df828652f874a14ddb6638cec3c543a6223656acfc8a19a115728186", func := "larch/larchlaw02.CellKeeps", spec := "cellKeeps", inPlace := ["sync/atomic.StoreInt64", "sync/atomic.LoadInt64", "sync/atomic.AddInt64", "sync/atomic.SwapInt64", "sync/atomic.CompareAndSwapInt64", "sync/atomic.AndInt64", "sync/atomic.OrInt64"], unfollowed := true, recurses := true, apart := false, narrowed := true }
def CellKeepsUptoSaid : Prop := cellKeepsUptoRow.holds Try.pinned (OpenSpec.upto cellKeepsSpec)

/-- 'larchlaw02.CellSame', WHERE WHAT IT READS IS OF BULK AT MOST 1048576: true; the input reads as it did. -/
def cellSameUptoRow : OpenClaim := { program := "ytjifoggfndicoaa", sum := "31eb87a5df828652f874a14ddb6638cec3c543a6223656acfc8a19a115728186", func := "larch/larchlaw02.CellSame", spec := "cellSame", inPlace := ["sync/atomic.StoreInt64", "sync/atomic.LoadInt64", "sync/atomic.AddInt64", "sync/atomic.SwapInt64", "sync/atomic.CompareAndSwapInt64", "sync/atomic.AndInt64", "sync/atomic.OrInt64", "sync/atomic.StorePointer", "sync/atomic.CompareAndSwapPointer", "sync/atomic.LoadPointer", "sync/atomic.SwapPointer", "sync/atomic.StoreUint32", "sync/atomic.LoadUint32", "sync/atomic.CompareAndSwapUint32", "sync/atomic.SwapUint32"], unfollowed := true, recurses := true, apart := false, narrowed := true }
def CellSameUptoSaid : Prop := cellSameUptoRow.holds Try.pinned (OpenSpec.upto cellSameSpec)

/-- 'larchlaw02.CellMarks', WHERE WHAT IT READS IS OF BULK AT MOST 1048576: true; the input reads as it did. -/
def cellMarksUptoRow : OpenClaim := { program := "ytjifoggfndicoaa", sum := "31eb87a5df828652f874a14ddb6638cec3c543a6223656acfc8a19a115728186", func := "larch/larchlaw02.CellMarks", spec := "cellMarks", inPlace := ["sync/atomic.StoreInt64", "sync/atomic.LoadInt64", "sync/atomic.AddInt64", "sync/atomic.SwapInt64", "sync/atomic.CompareAndSwapInt64", "sync/atomic.AndInt64", "sync/atomic.OrInt64", "sync/atomic.StoreUint32", "sync/atomic.LoadUint32", "sync/atomic.SwapUint32", "sync/atomic.CompareAndSwapUint32"], unfollowed := true, recurses := true, apart := false, narrowed := true }
def CellMarksUptoSaid : Prop := cellMarksUptoRow.holds Try.pinned (OpenSpec.upto cellMarksSpec)

/-- 'larchlaw02.CellIds', WHERE WHAT IT READS IS OF BULK AT MOST 1048576: true; the input reads as it did. -/
def cellIdsUptoRow : OpenClaim := { program := "ytjifoggfndicoaa", sum := "31eb87a5df828652f874a14ddb6638cec3c543a6223656acfc8a19a115728186", func := "larch/larchlaw02.CellIds", spec := "cellIds", inPlace := ["sync/atomic.StoreInt64", "sync/atomic.LoadInt64", "sync/atomic.AddInt64", "sync/atomic.SwapInt64", "sync/atomic.CompareAndSwapInt64", "sync/atomic.AndInt64", "sync/atomic.OrInt64", "sync/atomic.StorePointer", "sync/atomic.LoadPointer", "sync/atomic.SwapPointer", "sync/atomic.CompareAndSwapPointer"], unfollowed := true, recurses := true, apart := false, narrowed := true }
def CellIdsUptoSaid : Prop := cellIdsUptoRow.holds Try.pinned (OpenSpec.upto cellIdsSpec)

end Rows
end Go.Proofs.Ytjifoggfndicoaa
