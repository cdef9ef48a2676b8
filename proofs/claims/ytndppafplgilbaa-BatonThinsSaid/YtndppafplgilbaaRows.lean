/-
  No cell of these rows narrows 'for every input' (looked for: loops, veiled, ifaces, maps, wideKeys, modest, calm, conditions, laid).
  DERIVED. THE GIVEN ROWS OF THIS SEAT. 8 by the template 'for every input the law returns true; each argument reads behind the call as it read before'; 0 by the template 'total and deterministic' (their statements: YtndppafplgilbaaTotals.lean).
  GIVEN WITH THE SEED: the statements are not yours to turn. If you find one false, say at which input.
  Laid BY PROGRAM, IN A SANDBOX (cutbox-rows.mjs): the forced cells as the released guide's own fill.sh prints them over the translation 1bf088cdd5e36fe5… (all of the seat's roots in one cut). By AI agents, Wed Nov 11 2026. No macro, syntax, notation, axiom, sorry.
-/
import Derived.Test.YtndppafplgilbaaChecked
import GoSem.Claim
import GoSem.ClaimJoined
import GoSem.ClaimMapViews
import Derived.JoinedTies
import Derived.KernelRfl
namespace Go.Proofs.Ytndppafplgilbaa
/- THE CELL 'sum', in the pinned program and in every row, IS THE sha256 OF THE DUMP (.gsa) THAT YtndppafplgilbaaProg.lean LOADS. Nothing in Lean hashes anything: it is a label: what it is worth is what the hold of that sum in a sandbox is worth. -/
noncomputable def Try.pinned : Pinned := { name := "ytndppafplgilbaa", sum := "1bf088cdd5e36fe5de0a4ca499127be86f55f445509e63205384cd178a12ca82", checked := Try.checked }
namespace Rows
def none {H : Type} : Left H := { results := [], args := [] }

/-- 'larchlaw04.BatonPlays': WHATEVER THE INPUT: true; the input reads as it did. -/
def batonPlaysSpec : ChangeSpec := { name := "batonPlays", fn := fun _ => fun
  | [d] => { results := [.lit (.bool true)], args := [d] }
  | _ => none }
def batonPlaysRow : OpenClaim := { program := "ytndppafplgilbaa", sum := "1bf088cdd5e36fe5de0a4ca499127be86f55f445509e63205384cd178a12ca82", func := "larch/larchlaw04.BatonPlays", spec := "batonPlays", inPlace := ["sync/atomic.StoreInt64", "sync/atomic.LoadInt64", "sync/atomic.AddInt64", "sync/atomic.SwapInt64", "sync/atomic.CompareAndSwapInt64", "sync/atomic.AndInt64", "sync/atomic.OrInt64", "(*sync.WaitGroup).Add", "internal/race.ReleaseMerge", "internal/race.Disable", "internal/race.Enable", "internal/synctest.IsInBubble", "internal/synctest.Associate[sync.WaitGroup]", "sync.fatal", "sync/atomic.OrUint64", "sync/atomic.AddUint64", "internal/race.Read", "sync/atomic.LoadUint64", "sync/atomic.StoreUint64", "internal/synctest.Disassociate[sync.WaitGroup]", "sync.runtime_Semrelease", "(*sync.WaitGroup).Done", "(*sync.WaitGroup).Wait", "internal/race.Acquire", "internal/synctest.IsAssociated[sync.WaitGroup]", "sync/atomic.CompareAndSwapUint64", "internal/race.Write", "sync.runtime_SemacquireWaitGroup"], unfollowed := true, recurses := true, leaving := true, apart := false }
def BatonPlaysSaid : Prop := batonPlaysRow.holds Try.pinned (OpenSpec.ofChange batonPlaysSpec)

/-- ITS FALSE NEIGHBOUR: 'it returns false'. Refute it at one input. -/
def batonPlaysWrong : ChangeSpec := { name := "batonPlays", fn := fun _ => fun
  | [d] => { results := [.lit (.bool false)], args := [d] }
  | _ => none }
def BatonPlaysWrongFalsely : Prop := batonPlaysRow.holds Try.pinned (OpenSpec.ofChange batonPlaysWrong)

/-- 'larchlaw04.BatonKeeps': WHATEVER THE INPUT: true; the input reads as it did. -/
def batonKeepsSpec : ChangeSpec := { name := "batonKeeps", fn := fun _ => fun
  | [d] => { results := [.lit (.bool true)], args := [d] }
  | _ => none }
def batonKeepsRow : OpenClaim := { program := "ytndppafplgilbaa", sum := "1bf088cdd5e36fe5de0a4ca499127be86f55f445509e63205384cd178a12ca82", func := "larch/larchlaw04.BatonKeeps", spec := "batonKeeps", inPlace := ["sync/atomic.StoreInt64", "sync/atomic.LoadInt64", "sync/atomic.AddInt64", "sync/atomic.SwapInt64", "sync/atomic.CompareAndSwapInt64", "sync/atomic.AndInt64", "sync/atomic.OrInt64", "(*sync.WaitGroup).Add", "internal/race.ReleaseMerge", "internal/race.Disable", "internal/race.Enable", "internal/synctest.IsInBubble", "internal/synctest.Associate[sync.WaitGroup]", "sync.fatal", "sync/atomic.OrUint64", "sync/atomic.AddUint64", "internal/race.Read", "sync/atomic.LoadUint64", "sync/atomic.StoreUint64", "internal/synctest.Disassociate[sync.WaitGroup]", "sync.runtime_Semrelease", "(*sync.WaitGroup).Done", "(*sync.WaitGroup).Wait", "internal/race.Acquire", "internal/synctest.IsAssociated[sync.WaitGroup]", "sync/atomic.CompareAndSwapUint64", "internal/race.Write", "sync.runtime_SemacquireWaitGroup"], unfollowed := true, recurses := true, leaving := true, apart := false }
def BatonKeepsSaid : Prop := batonKeepsRow.holds Try.pinned (OpenSpec.ofChange batonKeepsSpec)

/-- ITS FALSE NEIGHBOUR: 'it returns false'. Refute it at one input. -/
def batonKeepsWrong : ChangeSpec := { name := "batonKeeps", fn := fun _ => fun
  | [d] => { results := [.lit (.bool false)], args := [d] }
  | _ => none }
def BatonKeepsWrongFalsely : Prop := batonKeepsRow.holds Try.pinned (OpenSpec.ofChange batonKeepsWrong)

/-- 'larchlaw04.BatonThins': WHATEVER THE INPUT: true; the input reads as it did. -/
def batonThinsSpec : ChangeSpec := { name := "batonThins", fn := fun _ => fun
  | [d1, d2] => { results := [.lit (.bool true)], args := [d1, d2] }
  | _ => none }
def batonThinsRow : OpenClaim := { program := "ytndppafplgilbaa", sum := "1bf088cdd5e36fe5de0a4ca499127be86f55f445509e63205384cd178a12ca82", func := "larch/larchlaw04.BatonThins", spec := "batonThins", inPlace := ["sync/atomic.StoreInt64", "sync/atomic.LoadInt64", "sync/atomic.AddInt64", "sync/atomic.SwapInt64", "sync/atomic.CompareAndSwapInt64", "sync/atomic.AndInt64", "sync/atomic.OrInt64", "(*sync.WaitGroup).Add", "internal/race.ReleaseMerge", "internal/race.Disable", "internal/race.Enable", "internal/synctest.IsInBubble", "internal/synctest.Associate[sync.WaitGroup]", "sync.fatal", "sync/atomic.OrUint64", "sync/atomic.AddUint64", "internal/race.Read", "sync/atomic.LoadUint64", "sync/atomic.StoreUint64", "internal/synctest.Disassociate[sync.WaitGroup]", "sync.runtime_Semrelease", "(*sync.WaitGroup).Done", "(*sync.WaitGroup).Wait", "internal/race.Acquire", "internal/synctest.IsAssociated[sync.WaitGroup]", "sync/atomic.CompareAndSwapUint64", "internal/race.Write", "sync.runtime_SemacquireWaitGroup"], unfollowed := true, recurses := true, leaving := true, apart := false }
def BatonThinsSaid : Prop := batonThinsRow.holds Try.pinned (OpenSpec.ofChange batonThinsSpec)

/-- ITS FALSE NEIGHBOUR: 'it returns false'. Refute it at one input. -/
def batonThinsWrong : ChangeSpec := { name := "batonThins", fn := fun _ => fun
  | [d1, d2] => { results := [.lit (.bool false)], args := [d1, d2] }
  | _ => none }
def BatonThinsWrongFalsely : Prop := batonThinsRow.holds Try.pinned (OpenSpec.ofChange batonThinsWrong)

/-- 'larchlaw04.BatonRuns': WHATEVER THE INPUT: true; the input reads as it did. -/
def batonRunsSpec : ChangeSpec := { name := "batonRuns", fn := fun _ => fun
  | [d1, d2] => { results := [.lit (.bool true)], args := [d1, d2] }
  | _ => none }
def batonRunsRow : OpenClaim := { program := "ytndppafplgilbaa", sum := "1bf088cdd5e36fe5de0a4ca499127be86f55f445509e63205384cd178a12ca82", func := "larch/larchlaw04.BatonRuns", spec := "batonRuns", inPlace := ["sync/atomic.StoreInt64", "sync/atomic.LoadInt64", "sync/atomic.AddInt64", "sync/atomic.SwapInt64", "sync/atomic.CompareAndSwapInt64", "sync/atomic.AndInt64", "sync/atomic.OrInt64", "(*sync.WaitGroup).Add", "internal/race.ReleaseMerge", "internal/race.Disable", "internal/race.Enable", "internal/synctest.IsInBubble", "internal/synctest.Associate[sync.WaitGroup]", "sync.fatal", "sync/atomic.OrUint64", "sync/atomic.AddUint64", "internal/race.Read", "sync/atomic.LoadUint64", "sync/atomic.StoreUint64", "internal/synctest.Disassociate[sync.WaitGroup]", "sync.runtime_Semrelease", "(*sync.WaitGroup).Done", "(*sync.WaitGroup).Wait", "internal/race.Acquire", "internal/synctest.IsAssociated[sync.WaitGroup]", "sync/atomic.CompareAndSwapUint64", "internal/race.Write", "sync.runtime_SemacquireWaitGroup"], unfollowed := true, recurses := true, leaving := true, apart := false }
def BatonRunsSaid : Prop := batonRunsRow.holds Try.pinned (OpenSpec.ofChange batonRunsSpec)

/-- ITS FALSE NEIGHBOUR: 'it returns false'. Refute it at one input. -/
def batonRunsWrong : ChangeSpec := { name := "batonRuns", fn := fun _ => fun
  | [d1, d2] => { results := [.lit (.bool false)], args := [d1, d2] }
  | _ => none }
def BatonRunsWrongFalsely : Prop := batonRunsRow.holds Try.pinned (OpenSpec.ofChange batonRunsWrong)

/-- 'larchlaw04.BatonOps': WHATEVER THE INPUT: true; the input reads as it did. -/
def batonOpsSpec : ChangeSpec := { name := "batonOps", fn := fun _ => fun
  | [d1, d2] => { results := [.lit (.bool true)], args := [d1, d2] }
  | _ => none }
def batonOpsRow : OpenClaim := { program := "ytndppafplgilbaa", sum := "1bf088cdd5e36fe5de0a4ca499127be86f55f445509e63205384cd178a12ca82", func := "larch/larchlaw04.BatonOps", spec := "batonOps", inPlace := ["sync/atomic.StoreInt64", "sync/atomic.LoadInt64", "sync/atomic.AddInt64", "sync/atomic.SwapInt64", "sync/atomic.CompareAndSwapInt64", "sync/atomic.AndInt64", "sync/atomic.OrInt64", "(*sync.WaitGroup).Add", "internal/race.ReleaseMerge", "internal/race.Disable", "internal/race.Enable", "internal/synctest.IsInBubble", "internal/synctest.Associate[sync.WaitGroup]", "sync.fatal", "sync/atomic.OrUint64", "sync/atomic.AddUint64", "internal/race.Read", "sync/atomic.LoadUint64", "sync/atomic.StoreUint64", "internal/synctest.Disassociate[sync.WaitGroup]", "sync.runtime_Semrelease", "(*sync.WaitGroup).Done", "(*sync.WaitGroup).Wait", "internal/race.Acquire", "internal/synctest.IsAssociated[sync.WaitGroup]", "sync/atomic.CompareAndSwapUint64", "internal/race.Write", "sync.runtime_SemacquireWaitGroup"], unfollowed := true, recurses := true, leaving := true, apart := false }
def BatonOpsSaid : Prop := batonOpsRow.holds Try.pinned (OpenSpec.ofChange batonOpsSpec)

/-- ITS FALSE NEIGHBOUR: 'it returns false'. Refute it at one input. -/
def batonOpsWrong : ChangeSpec := { name := "batonOps", fn := fun _ => fun
  | [d1, d2] => { results := [.lit (.bool false)], args := [d1, d2] }
  | _ => none }
def BatonOpsWrongFalsely : Prop := batonOpsRow.holds Try.pinned (OpenSpec.ofChange batonOpsWrong)

/-- 'larchlaw04.BatonLists': WHATEVER THE INPUT: true; the input reads as it did. -/
def batonListsSpec : ChangeSpec := { name := "batonLists", fn := fun _ => fun
  | [d1, d2, d3] => { results := [.lit (.bool true)], args := [d1, d2, d3] }
  | _ => none }
def batonListsRow : OpenClaim := { program := "ytndppafplgilbaa", sum := "1bf088cdd5e36fe5de0a4ca499127be86f55f445509e63205384cd178a12ca82", func := "larch/larchlaw04.BatonLists", spec := "batonLists", inPlace := ["sync/atomic.StoreInt64", "sync/atomic.LoadInt64", "sync/atomic.AddInt64", "sync/atomic.SwapInt64", "sync/atomic.CompareAndSwapInt64", "sync/atomic.AndInt64", "sync/atomic.OrInt64", "(*sync.WaitGroup).Add", "internal/race.ReleaseMerge", "internal/race.Disable", "internal/race.Enable", "internal/synctest.IsInBubble", "internal/synctest.Associate[sync.WaitGroup]", "sync.fatal", "sync/atomic.OrUint64", "sync/atomic.AddUint64", "internal/race.Read", "sync/atomic.LoadUint64", "sync/atomic.StoreUint64", "internal/synctest.Disassociate[sync.WaitGroup]", "sync.runtime_Semrelease", "(*sync.WaitGroup).Done", "(*sync.WaitGroup).Wait", "internal/race.Acquire", "internal/synctest.IsAssociated[sync.WaitGroup]", "sync/atomic.CompareAndSwapUint64", "internal/race.Write", "sync.runtime_SemacquireWaitGroup"], unfollowed := true, recurses := true, leaving := true, apart := false }
def BatonListsSaid : Prop := batonListsRow.holds Try.pinned (OpenSpec.ofChange batonListsSpec)

/-- ITS FALSE NEIGHBOUR: 'it returns false'. Refute it at one input. -/
def batonListsWrong : ChangeSpec := { name := "batonLists", fn := fun _ => fun
  | [d1, d2, d3] => { results := [.lit (.bool false)], args := [d1, d2, d3] }
  | _ => none }
def BatonListsWrongFalsely : Prop := batonListsRow.holds Try.pinned (OpenSpec.ofChange batonListsWrong)

/-- 'larchlaw04.BatonDrives': WHATEVER THE INPUT: true; the input reads as it did. -/
def batonDrivesSpec : ChangeSpec := { name := "batonDrives", fn := fun _ => fun
  | [d1, d2, d3] => { results := [.lit (.bool true)], args := [d1, d2, d3] }
  | _ => none }
def batonDrivesRow : OpenClaim := { program := "ytndppafplgilbaa", sum := "1bf088cdd5e36fe5de0a4ca499127be86f55f445509e63205384cd178a12ca82", func := "larch/larchlaw04.BatonDrives", spec := "batonDrives", inPlace := ["sync/atomic.StoreInt64", "sync/atomic.LoadInt64", "sync/atomic.AddInt64", "sync/atomic.SwapInt64", "sync/atomic.CompareAndSwapInt64", "sync/atomic.AndInt64", "sync/atomic.OrInt64", "(*sync.WaitGroup).Add", "internal/race.ReleaseMerge", "internal/race.Disable", "internal/race.Enable", "internal/synctest.IsInBubble", "internal/synctest.Associate[sync.WaitGroup]", "sync.fatal", "sync/atomic.OrUint64", "sync/atomic.AddUint64", "internal/race.Read", "sync/atomic.LoadUint64", "sync/atomic.StoreUint64", "internal/synctest.Disassociate[sync.WaitGroup]", "sync.runtime_Semrelease", "(*sync.WaitGroup).Done", "(*sync.WaitGroup).Wait", "internal/race.Acquire", "internal/synctest.IsAssociated[sync.WaitGroup]", "sync/atomic.CompareAndSwapUint64", "internal/race.Write", "sync.runtime_SemacquireWaitGroup"], unfollowed := true, recurses := true, leaving := true, apart := false }
def BatonDrivesSaid : Prop := batonDrivesRow.holds Try.pinned (OpenSpec.ofChange batonDrivesSpec)

/-- ITS FALSE NEIGHBOUR: 'it returns false'. Refute it at one input. -/
def batonDrivesWrong : ChangeSpec := { name := "batonDrives", fn := fun _ => fun
  | [d1, d2, d3] => { results := [.lit (.bool false)], args := [d1, d2, d3] }
  | _ => none }
def BatonDrivesWrongFalsely : Prop := batonDrivesRow.holds Try.pinned (OpenSpec.ofChange batonDrivesWrong)

/-- 'larchlaw04.BatonEchoes': WHATEVER THE INPUT: true; the input reads as it did. -/
def batonEchoesSpec : ChangeSpec := { name := "batonEchoes", fn := fun _ => fun
  | [d1, d2] => { results := [.lit (.bool true)], args := [d1, d2] }
  | _ => none }
def batonEchoesRow : OpenClaim := { program := "ytndppafplgilbaa", sum := "1bf088cdd5e36fe5de0a4ca499127be86f55f445509e63205384cd178a12ca82", func := "larch/larchlaw04.BatonEchoes", spec := "batonEchoes", inPlace := ["sync/atomic.StoreInt64", "sync/atomic.LoadInt64", "sync/atomic.AddInt64", "sync/atomic.SwapInt64", "sync/atomic.CompareAndSwapInt64", "sync/atomic.AndInt64", "sync/atomic.OrInt64", "(*sync.WaitGroup).Add", "internal/race.ReleaseMerge", "internal/race.Disable", "internal/race.Enable", "internal/synctest.IsInBubble", "internal/synctest.Associate[sync.WaitGroup]", "sync.fatal", "sync/atomic.OrUint64", "sync/atomic.AddUint64", "internal/race.Read", "sync/atomic.LoadUint64", "sync/atomic.StoreUint64", "internal/synctest.Disassociate[sync.WaitGroup]", "sync.runtime_Semrelease", "(*sync.WaitGroup).Done", "(*sync.WaitGroup).Wait", "internal/race.Acquire", "internal/synctest.IsAssociated[sync.WaitGroup]", "sync/atomic.CompareAndSwapUint64", "internal/race.Write", "sync.runtime_SemacquireWaitGroup"], unfollowed := true, recurses := true, leaving := true, apart := false }
def BatonEchoesSaid : Prop := batonEchoesRow.holds Try.pinned (OpenSpec.ofChange batonEchoesSpec)

/-- ITS FALSE NEIGHBOUR: 'it returns false'. Refute it at one input. -/
def batonEchoesWrong : ChangeSpec := { name := "batonEchoes", fn := fun _ => fun
  | [d1, d2] => { results := [.lit (.bool false)], args := [d1, d2] }
  | _ => none }
def BatonEchoesWrongFalsely : Prop := batonEchoesRow.holds Try.pinned (OpenSpec.ofChange batonEchoesWrong)

/- THE SECOND FORM. 'bulk': how many values and letters a reading holds, each counted each time it is reached (what is shared counts as often as it is met; a slice's spare places count too). A statement '..UptoSaid' is the law's where the arguments, and the package variables that the reading takes, are together of bulk at most 1048576: NARROWER than '..Said'. Prove '..Said' where nothing that the law and all that it calls make is longer than what came in: it says more and counts as full. Else prove '..UptoSaid'. A law counts once. -/
mutual
def uptoBulk {H : Type} : DataW H → Nat
  | .lit (.string bytes) => bytes.length + 1
  | .lit _ => 1
  | .nil => 1
  | .ptr d => uptoBulk d + 1
  | .slice elems spare => uptoBulkAll elems + uptoBulkAll spare + 1
  | .agg parts => uptoBulkAll parts + 1
  | .iface _ d => uptoBulk d + 1
  | .map entries => uptoBulkEntries entries + 1
  | .held _ => 1
def uptoBulkAll {H : Type} : List (DataW H) → Nat
  | [] => 0
  | d :: r => uptoBulk d + uptoBulkAll r
def uptoBulkEntries {H : Type} : List (Lit × DataW H) → Nat
  | [] => 0
  | x :: r => uptoBulkEntry x + uptoBulkEntries r
def uptoBulkEntry {H : Type} : Lit × DataW H → Nat
  | (.string bytes, d) => bytes.length + uptoBulk d + 1
  | (_, d) => uptoBulk d + 1
 end
def uptoSmall : (H : Type) → List (DataW H) → Bool := fun _ ds => decide (uptoBulkAll ds ≤ 1048576)
def OpenSpec.upto (s : _root_.Go.ChangeSpec) : _root_.Go.OpenSpec := { _root_.Go.OpenSpec.ofChange s with cond := some uptoSmall }

/-- 'larchlaw04.BatonPlays', WHERE WHAT IT READS IS OF BULK AT MOST 1048576: true; the input reads as it did. -/
def batonPlaysUptoRow : OpenClaim := { program := "ytndppafplgilbaa", sum := "1bf088cdd5e36fe5de0a4ca499127be86f55f445509e63205384cd178a12ca82", func := "larch/larchlaw04.BatonPlays", spec := "batonPlays", inPlace := ["sync/atomic.StoreInt64", "sync/atomic.LoadInt64", "sync/atomic.AddInt64", "sync/atomic.SwapInt64", "sync/atomic.CompareAndSwapInt64", "sync/atomic.AndInt64", "sync/atomic.OrInt64", "(*sync.WaitGroup).Add", "internal/race.ReleaseMerge", "internal/race.Disable", "internal/race.Enable", "internal/synctest.IsInBubble", "internal/synctest.Associate[sync.WaitGroup]", "sync.fatal", "sync/atomic.OrUint64", "sync/atomic.AddUint64", "internal/race.Read", "sync/atomic.LoadUint64", "sync/atomic.StoreUint64", "internal/synctest.Disassociate[sync.WaitGroup]", "sync.runtime_Semrelease", "(*sync.WaitGroup).Done", "(*sync.WaitGroup).Wait", "internal/race.Acquire", "internal/synctest.IsAssociated[sync.WaitGroup]", "sync/atomic.CompareAndSwapUint64", "internal/race.Write", "sync.runtime_SemacquireWaitGroup"], unfollowed := true, recurses := true, leaving := true, apart := false, narrowed := true }
def BatonPlaysUptoSaid : Prop := batonPlaysUptoRow.holds Try.pinned (OpenSpec.upto batonPlaysSpec)

/-- 'larchlaw04.BatonKeeps', WHERE WHAT IT READS IS OF BULK AT MOST 1048576: true; the input reads as it did. -/
def batonKeepsUptoRow : OpenClaim := { program := "ytndppafplgilbaa", sum := "1bf088cdd5e36fe5de0a4ca499127be86f55f445509e63205384cd178a12ca82", func := "larch/larchlaw04.BatonKeeps", spec := "batonKeeps", inPlace := ["sync/atomic.StoreInt64", "sync/atomic.LoadInt64", "sync/atomic.AddInt64", "sync/atomic.SwapInt64", "sync/atomic.CompareAndSwapInt64", "sync/atomic.AndInt64", "sync/atomic.OrInt64", "(*sync.WaitGroup).Add", "internal/race.ReleaseMerge", "internal/race.Disable", "internal/race.Enable", "internal/synctest.IsInBubble", "internal/synctest.Associate[sync.WaitGroup]", "sync.fatal", "sync/atomic.OrUint64", "sync/atomic.AddUint64", "internal/race.Read", "sync/atomic.LoadUint64", "sync/atomic.StoreUint64", "internal/synctest.Disassociate[sync.WaitGroup]", "sync.runtime_Semrelease", "(*sync.WaitGroup).Done", "(*sync.WaitGroup).Wait", "internal/race.Acquire", "internal/synctest.IsAssociated[sync.WaitGroup]", "sync/atomic.CompareAndSwapUint64", "internal/race.Write", "sync.runtime_SemacquireWaitGroup"], unfollowed := true, recurses := true, leaving := true, apart := false, narrowed := true }
def BatonKeepsUptoSaid : Prop := batonKeepsUptoRow.holds Try.pinned (OpenSpec.upto batonKeepsSpec)

/-- 'larchlaw04.BatonThins', WHERE WHAT IT READS IS OF BULK AT MOST 1048576: true; the input reads as it did. -/
def batonThinsUptoRow : OpenClaim := { program := "ytndppafplgilbaa", sum := "1bf088cdd5e36fe5de0a4ca499127be86f55f445509e63205384cd178a12ca82", func := "larch/larchlaw04.BatonThins", spec := "batonThins", inPlace := ["sync/atomic.StoreInt64", "sync/atomic.LoadInt64", "sync/atomic.AddInt64", "sync/atomic.SwapInt64", "sync/atomic.CompareAndSwapInt64", "sync/atomic.AndInt64", "sync/atomic.OrInt64", "(*sync.WaitGroup).Add", "internal/race.ReleaseMerge", "internal/race.Disable", "internal/race.Enable", "internal/synctest.IsInBubble", "internal/synctest.Associate[sync.WaitGroup]", "sync.fatal", "sync/atomic.OrUint64", "sync/atomic.AddUint64", "internal/race.Read", "sync/atomic.LoadUint64", "sync/atomic.StoreUint64", "internal/synctest.Disassociate[sync.WaitGroup]", "sync.runtime_Semrelease", "(*sync.WaitGroup).Done", "(*sync.WaitGroup).Wait", "internal/race.Acquire", "internal/synctest.IsAssociated[sync.WaitGroup]", "sync/atomic.CompareAndSwapUint64", "internal/race.Write", "sync.runtime_SemacquireWaitGroup"], unfollowed := true, recurses := true, leaving := true, apart := false, narrowed := true }
def BatonThinsUptoSaid : Prop := batonThinsUptoRow.holds Try.pinned (OpenSpec.upto batonThinsSpec)

/-- 'larchlaw04.BatonRuns', WHERE WHAT IT READS IS OF BULK AT MOST 1048576: true; the input reads as it did. -/
def batonRunsUptoRow : OpenClaim := { program := "ytndppafplgilbaa", sum := "1bf088cdd5e36fe5de0a4ca499127be86f55f445509e63205384cd178a12ca82", func := "larch/larchlaw04.BatonRuns", spec := "batonRuns", inPlace := ["sync/atomic.StoreInt64", "sync/atomic.LoadInt64", "sync/atomic.AddInt64", "sync/atomic.SwapInt64", "sync/atomic.CompareAndSwapInt64", "sync/atomic.AndInt64", "sync/atomic.OrInt64", "(*sync.WaitGroup).Add", "internal/race.ReleaseMerge", "internal/race.Disable", "internal/race.Enable", "internal/synctest.IsInBubble", "internal/synctest.Associate[sync.WaitGroup]", "sync.fatal", "sync/atomic.OrUint64", "sync/atomic.AddUint64", "internal/race.Read", "sync/atomic.LoadUint64", "sync/atomic.StoreUint64", "internal/synctest.Disassociate[sync.WaitGroup]", "sync.runtime_Semrelease", "(*sync.WaitGroup).Done", "(*sync.WaitGroup).Wait", "internal/race.Acquire", "internal/synctest.IsAssociated[sync.WaitGroup]", "sync/atomic.CompareAndSwapUint64", "internal/race.Write", "sync.runtime_SemacquireWaitGroup"], unfollowed := true, recurses := true, leaving := true, apart := false, narrowed := true }
def BatonRunsUptoSaid : Prop := batonRunsUptoRow.holds Try.pinned (OpenSpec.upto batonRunsSpec)

/-- 'larchlaw04.BatonOps', WHERE WHAT IT READS IS OF BULK AT MOST 1048576: true; the input reads as it did. -/
def batonOpsUptoRow : OpenClaim := { program := "ytndppafplgilbaa", sum := "1bf088cdd5e36fe5de0a4ca499127be86f55f445509e63205384cd178a12ca82", func := "larch/larchlaw04.BatonOps", spec := "batonOps", inPlace := ["sync/atomic.StoreInt64", "sync/atomic.LoadInt64", "sync/atomic.AddInt64", "sync/atomic.SwapInt64", "sync/atomic.CompareAndSwapInt64", "sync/atomic.AndInt64", "sync/atomic.OrInt64", "(*sync.WaitGroup).Add", "internal/race.ReleaseMerge", "internal/race.Disable", "internal/race.Enable", "internal/synctest.IsInBubble", "internal/synctest.Associate[sync.WaitGroup]", "sync.fatal", "sync/atomic.OrUint64", "sync/atomic.AddUint64", "internal/race.Read", "sync/atomic.LoadUint64", "sync/atomic.StoreUint64", "internal/synctest.Disassociate[sync.WaitGroup]", "sync.runtime_Semrelease", "(*sync.WaitGroup).Done", "(*sync.WaitGroup).Wait", "internal/race.Acquire", "internal/synctest.IsAssociated[sync.WaitGroup]", "sync/atomic.CompareAndSwapUint64", "internal/race.Write", "sync.runtime_SemacquireWaitGroup"], unfollowed := true, recurses := true, leaving := true, apart := false, narrowed := true }
def BatonOpsUptoSaid : Prop := batonOpsUptoRow.holds Try.pinned (OpenSpec.upto batonOpsSpec)

/-- 'larchlaw04.BatonLists', WHERE WHAT IT READS IS OF BULK AT MOST 1048576: true; the input reads as it did. -/
def batonListsUptoRow : OpenClaim := { program := "ytndppafplgilbaa", sum := "1bf088cdd5e36fe5de0a4ca499127be86f55f445509e63205384cd178a12ca82", func := "larch/larchlaw04.BatonLists", spec := "batonLists", inPlace := ["sync/atomic.StoreInt64", "sync/atomic.LoadInt64", "sync/atomic.AddInt64", "sync/atomic.SwapInt64", "sync/atomic.CompareAndSwapInt64", "sync/atomic.AndInt64", "sync/atomic.OrInt64", "(*sync.WaitGroup).Add", "internal/race.ReleaseMerge", "internal/race.Disable", "internal/race.Enable", "internal/synctest.IsInBubble", "internal/synctest.Associate[sync.WaitGroup]", "sync.fatal", "sync/atomic.OrUint64", "sync/atomic.AddUint64", "internal/race.Read", "sync/atomic.LoadUint64", "sync/atomic.StoreUint64", "internal/synctest.Disassociate[sync.WaitGroup]", "sync.runtime_Semrelease", "(*sync.WaitGroup).Done", "(*sync.WaitGroup).Wait", "internal/race.Acquire", "internal/synctest.IsAssociated[sync.WaitGroup]", "sync/atomic.CompareAndSwapUint64", "internal/race.Write", "sync.runtime_SemacquireWaitGroup"], unfollowed := true, recurses := true, leaving := true, apart := false, narrowed := true }
def BatonListsUptoSaid : Prop := batonListsUptoRow.holds Try.pinned (OpenSpec.upto batonListsSpec)

/-- 'larchlaw04.BatonDrives', WHERE WHAT IT READS IS OF BULK AT MOST 1048576: true; the input reads as it did. -/
def batonDrivesUptoRow : OpenClaim := { program := "ytndppafplgilbaa", sum := "1bf088cdd5e36fe5de0a4ca499127be86f55f445509e63205384cd178a12ca82", func := "larch/larchlaw04.BatonDrives", spec := "batonDrives", inPlace := ["sync/atomic.StoreInt64", "sync/atomic.LoadInt64", "sync/atomic.AddInt64", "sync/atomic.SwapInt64", "sync/atomic.CompareAndSwapInt64", "sync/atomic.AndInt64", "sync/atomic.OrInt64", "(*sync.WaitGroup).Add", "internal/race.ReleaseMerge", "internal/race.Disable", "internal/race.Enable", "internal/synctest.IsInBubble", "internal/synctest.Associate[sync.WaitGroup]", "sync.fatal", "sync/atomic.OrUint64", "sync/atomic.AddUint64", "internal/race.Read", "sync/atomic.LoadUint64", "sync/atomic.StoreUint64", "internal/synctest.Disassociate[sync.WaitGroup]", "sync.runtime_Semrelease", "(*sync.WaitGroup).Done", "(*sync.WaitGroup).Wait", "internal/race.Acquire", "internal/synctest.IsAssociated[sync.WaitGroup]", "sync/atomic.CompareAndSwapUint64", "internal/race.Write", "sync.runtime_SemacquireWaitGroup"], unfollowed := true, recurses := true, leaving := true, apart := false, narrowed := true }
def BatonDrivesUptoSaid : Prop := batonDrivesUptoRow.holds Try.pinned (OpenSpec.upto batonDrivesSpec)

/-- 'larchlaw04.BatonEchoes', WHERE WHAT IT READS IS OF BULK AT MOST 1048576: true; the input reads as it did. -/
def batonEchoesUptoRow : OpenClaim := { program := "ytndppafplgilbaa", sum := "1bf088cdd5e36fe5de0a4ca499127be86f55f445509e63205384cd178a12ca82", func := "larch/larchlaw04.BatonEchoes", spec := "batonEchoes", inPlace := ["sync/atomic.StoreInt64", "sync/atomic.LoadInt64", "sync/atomic.AddInt64", "sync/atomic.SwapInt64", "sync/atomic.CompareAndSwapInt64", "sync/atomic.AndInt64", "sync/atomic.OrInt64", "(*sync.WaitGroup).Add", "internal/race.ReleaseMerge", "internal/race.Disable", "internal/race.Enable", "internal/synctest.IsInBubble", "internal/synctest.Associate[sync.WaitGroup]", "sync.fatal", "sync/atomic.OrUint64", "sync/atomic.AddUint64", "internal/race.Read", "sync/atomic.LoadUint64", "sync/atomic.StoreUint64", "internal/synctest.Disassociate[sync.WaitGroup]", "sync.runtime_Semrelease", "(*sync.WaitGroup).Done", "(*sync.WaitGroup).Wait", "internal/race.Acquire", "internal/synctest.IsAssociated[sync.WaitGroup]", "sync/atomic.CompareAndSwapUint64", "internal/race.Write", "sync.runtime_SemacquireWaitGroup"], unfollowed := true, recurses := true, leaving := true, apart := false, narrowed := true }
def BatonEchoesUptoSaid : Prop := batonEchoesUptoRow.holds Try.pinned (OpenSpec.upto batonEchoesSpec)

end Rows
end Go.Proofs.Ytndppafplgilbaa
