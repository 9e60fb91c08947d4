/-
  No cell of these rows narrows 'for every input' (looked for: loops, veiled, ifaces, maps, wideKeys, modest, calm, conditions, laid).
  DERIVED. THE GIVEN ROWS OF THIS SEAT. 9 by the template 'for every input the law returns true; each argument reads behind the call as it read before'; 0 by the template 'total and deterministic' (their statements: YtcejbandeikdjaaTotals.lean).
  GIVEN WITH THE SEED: the statements are not yours to turn. If you find one false, say at which input.
  Laid BY PROGRAM, IN A SANDBOX (cutbox-rows.mjs): the forced cells as the released guide's own fill.sh prints them over the translation 0ac150d95505dbd1… (all of the seat's roots in one cut). By AI agents, Wed Nov 11 2026. No macro, syntax, notation, axiom, sorry.
-/
import Derived.Test.YtcejbandeikdjaaChecked
import GoSem.Claim
import GoSem.ClaimJoined
import GoSem.ClaimMapViews
import Derived.JoinedTies
import Derived.KernelRfl
namespace Go.Proofs.Ytcejbandeikdjaa
/- THE CELL 'sum', in the pinned program and in every row, IS THE sha256 OF THE DUMP (.gsa) THAT YtcejbandeikdjaaProg.lean LOADS. Nothing in Lean hashes anything: it is a label: what it is worth is what the hold of that sum in a sandbox is worth. -/
noncomputable def Try.pinned : Pinned := { name := "ytcejbandeikdjaa", sum := "0ac150d95505dbd1177013a3d1cab51fa934542c73cb48c7a87a456cfbbae24d", checked := Try.checked }
namespace Rows
def none {H : Type} : Left H := { results := [], args := [] }

/-- 'carillonlaw07.QueuePlays': WHATEVER THE INPUT: true; the input reads as it did. -/
def queuePlaysSpec : ChangeSpec := { name := "queuePlays", fn := fun _ => fun
  | [d1, d2, d3, d4] => { results := [.lit (.bool true)], args := [d1, d2, d3, d4] }
  | _ => none }
def queuePlaysRow : OpenClaim := { program := "ytcejbandeikdjaa", sum := "0ac150d95505dbd1177013a3d1cab51fa934542c73cb48c7a87a456cfbbae24d", func := "carillon/carillonlaw07.QueuePlays", spec := "queuePlays", inPlace := ["sync/atomic.StorePointer", "sync/atomic.LoadPointer", "sync/atomic.CompareAndSwapPointer"], unfollowed := true, recurses := true, leaving := true, apart := false }
def QueuePlaysSaid : Prop := queuePlaysRow.holds Try.pinned (OpenSpec.ofChange queuePlaysSpec)

/-- ITS FALSE NEIGHBOUR: 'it returns false'. Refute it at one input. -/
def queuePlaysWrong : ChangeSpec := { name := "queuePlays", fn := fun _ => fun
  | [d1, d2, d3, d4] => { results := [.lit (.bool false)], args := [d1, d2, d3, d4] }
  | _ => none }
def QueuePlaysWrongFalsely : Prop := queuePlaysRow.holds Try.pinned (OpenSpec.ofChange queuePlaysWrong)

/-- 'carillonlaw07.QueueCalls': WHATEVER THE INPUT: true; the input reads as it did. -/
def queueCallsSpec : ChangeSpec := { name := "queueCalls", fn := fun _ => fun
  | [d1, d2] => { results := [.lit (.bool true)], args := [d1, d2] }
  | _ => none }
def queueCallsRow : OpenClaim := { program := "ytcejbandeikdjaa", sum := "0ac150d95505dbd1177013a3d1cab51fa934542c73cb48c7a87a456cfbbae24d", func := "carillon/carillonlaw07.QueueCalls", spec := "queueCalls", inPlace := ["sync/atomic.StorePointer", "sync/atomic.LoadPointer", "sync/atomic.CompareAndSwapPointer"], unfollowed := true, recurses := true, leaving := true, apart := false }
def QueueCallsSaid : Prop := queueCallsRow.holds Try.pinned (OpenSpec.ofChange queueCallsSpec)

/-- ITS FALSE NEIGHBOUR: 'it returns false'. Refute it at one input. -/
def queueCallsWrong : ChangeSpec := { name := "queueCalls", fn := fun _ => fun
  | [d1, d2] => { results := [.lit (.bool false)], args := [d1, d2] }
  | _ => none }
def QueueCallsWrongFalsely : Prop := queueCallsRow.holds Try.pinned (OpenSpec.ofChange queueCallsWrong)

/-- 'carillonlaw07.QueueNil': WHATEVER THE INPUT: true; the input reads as it did. -/
def queueNilSpec : ChangeSpec := { name := "queueNil", fn := fun _ => fun
  | [d] => { results := [.lit (.bool true)], args := [d] }
  | _ => none }
def queueNilRow : OpenClaim := { program := "ytcejbandeikdjaa", sum := "0ac150d95505dbd1177013a3d1cab51fa934542c73cb48c7a87a456cfbbae24d", func := "carillon/carillonlaw07.QueueNil", spec := "queueNil", inPlace := ["sync/atomic.StorePointer", "sync/atomic.LoadPointer", "sync/atomic.CompareAndSwapPointer"], unfollowed := true, recurses := true, leaving := true, apart := false }
def QueueNilSaid : Prop := queueNilRow.holds Try.pinned (OpenSpec.ofChange queueNilSpec)

/-- ITS FALSE NEIGHBOUR: 'it returns false'. Refute it at one input. -/
def queueNilWrong : ChangeSpec := { name := "queueNil", fn := fun _ => fun
  | [d] => { results := [.lit (.bool false)], args := [d] }
  | _ => none }
def QueueNilWrongFalsely : Prop := queueNilRow.holds Try.pinned (OpenSpec.ofChange queueNilWrong)

/-- 'carillonlaw07.QueueKeeps': WHATEVER THE INPUT: true; the input reads as it did. -/
def queueKeepsSpec : ChangeSpec := { name := "queueKeeps", fn := fun _ => fun
  | [d1, d2, d3] => { results := [.lit (.bool true)], args := [d1, d2, d3] }
  | _ => none }
def queueKeepsRow : OpenClaim := { program := "ytcejbandeikdjaa", sum := "0ac150d95505dbd1177013a3d1cab51fa934542c73cb48c7a87a456cfbbae24d", func := "carillon/carillonlaw07.QueueKeeps", spec := "queueKeeps", inPlace := ["sync/atomic.StorePointer", "sync/atomic.LoadPointer", "sync/atomic.CompareAndSwapPointer"], unfollowed := true, recurses := true, leaving := true, apart := false }
def QueueKeepsSaid : Prop := queueKeepsRow.holds Try.pinned (OpenSpec.ofChange queueKeepsSpec)

/-- ITS FALSE NEIGHBOUR: 'it returns false'. Refute it at one input. -/
def queueKeepsWrong : ChangeSpec := { name := "queueKeeps", fn := fun _ => fun
  | [d1, d2, d3] => { results := [.lit (.bool false)], args := [d1, d2, d3] }
  | _ => none }
def QueueKeepsWrongFalsely : Prop := queueKeepsRow.holds Try.pinned (OpenSpec.ofChange queueKeepsWrong)

/-- 'carillonlaw07.QueueFree': WHATEVER THE INPUT: true; the input reads as it did. -/
def queueFreeSpec : ChangeSpec := { name := "queueFree", fn := fun _ => fun
  | [d1, d2] => { results := [.lit (.bool true)], args := [d1, d2] }
  | _ => none }
def queueFreeRow : OpenClaim := { program := "ytcejbandeikdjaa", sum := "0ac150d95505dbd1177013a3d1cab51fa934542c73cb48c7a87a456cfbbae24d", func := "carillon/carillonlaw07.QueueFree", spec := "queueFree", inPlace := ["sync/atomic.StorePointer", "sync/atomic.LoadPointer", "sync/atomic.CompareAndSwapPointer", "(*sync.WaitGroup).Add", "internal/race.ReleaseMerge", "internal/race.Disable", "internal/race.Enable", "internal/synctest.IsInBubble", "internal/synctest.Associate[sync.WaitGroup]", "sync.fatal", "sync/atomic.OrUint64", "sync/atomic.AddUint64", "internal/race.Read", "sync/atomic.LoadUint64", "sync/atomic.StoreUint64", "internal/synctest.Disassociate[sync.WaitGroup]", "sync.runtime_Semrelease", "(*sync.WaitGroup).Done", "(*sync.WaitGroup).Wait", "internal/race.Acquire", "internal/synctest.IsAssociated[sync.WaitGroup]", "sync/atomic.CompareAndSwapUint64", "internal/race.Write", "sync.runtime_SemacquireWaitGroup"], unfollowed := true, recurses := true, leaving := true, apart := false }
def QueueFreeSaid : Prop := queueFreeRow.holds Try.pinned (OpenSpec.ofChange queueFreeSpec)

/-- ITS FALSE NEIGHBOUR: 'it returns false'. Refute it at one input. -/
def queueFreeWrong : ChangeSpec := { name := "queueFree", fn := fun _ => fun
  | [d1, d2] => { results := [.lit (.bool false)], args := [d1, d2] }
  | _ => none }
def QueueFreeWrongFalsely : Prop := queueFreeRow.holds Try.pinned (OpenSpec.ofChange queueFreeWrong)

/-- 'carillonlaw07.QueueCrowd': WHATEVER THE INPUT: true; the input reads as it did. -/
def queueCrowdSpec : ChangeSpec := { name := "queueCrowd", fn := fun _ => fun
  | [d1, d2] => { results := [.lit (.bool true)], args := [d1, d2] }
  | _ => none }
def queueCrowdRow : OpenClaim := { program := "ytcejbandeikdjaa", sum := "0ac150d95505dbd1177013a3d1cab51fa934542c73cb48c7a87a456cfbbae24d", func := "carillon/carillonlaw07.QueueCrowd", spec := "queueCrowd", inPlace := ["sync/atomic.StorePointer", "sync/atomic.LoadPointer", "sync/atomic.CompareAndSwapPointer", "(*sync.WaitGroup).Add", "internal/race.ReleaseMerge", "internal/race.Disable", "internal/race.Enable", "internal/synctest.IsInBubble", "internal/synctest.Associate[sync.WaitGroup]", "sync.fatal", "sync/atomic.OrUint64", "sync/atomic.AddUint64", "internal/race.Read", "sync/atomic.LoadUint64", "sync/atomic.StoreUint64", "internal/synctest.Disassociate[sync.WaitGroup]", "sync.runtime_Semrelease", "(*sync.WaitGroup).Done", "(*sync.WaitGroup).Wait", "internal/race.Acquire", "internal/synctest.IsAssociated[sync.WaitGroup]", "sync/atomic.CompareAndSwapUint64", "internal/race.Write", "sync.runtime_SemacquireWaitGroup"], unfollowed := true, recurses := true, leaving := true, apart := false }
def QueueCrowdSaid : Prop := queueCrowdRow.holds Try.pinned (OpenSpec.ofChange queueCrowdSpec)

/-- ITS FALSE NEIGHBOUR: 'it returns false'. Refute it at one input. -/
def queueCrowdWrong : ChangeSpec := { name := "queueCrowd", fn := fun _ => fun
  | [d1, d2] => { results := [.lit (.bool false)], args := [d1, d2] }
  | _ => none }
def QueueCrowdWrongFalsely : Prop := queueCrowdRow.holds Try.pinned (OpenSpec.ofChange queueCrowdWrong)

/-- 'carillonlaw07.QueueTakers': WHATEVER THE INPUT: true; the input reads as it did. -/
def queueTakersSpec : ChangeSpec := { name := "queueTakers", fn := fun _ => fun
  | [d1, d2, d3] => { results := [.lit (.bool true)], args := [d1, d2, d3] }
  | _ => none }
def queueTakersRow : OpenClaim := { program := "ytcejbandeikdjaa", sum := "0ac150d95505dbd1177013a3d1cab51fa934542c73cb48c7a87a456cfbbae24d", func := "carillon/carillonlaw07.QueueTakers", spec := "queueTakers", inPlace := ["sync/atomic.StorePointer", "sync/atomic.LoadPointer", "sync/atomic.CompareAndSwapPointer", "(*sync.WaitGroup).Add", "internal/race.ReleaseMerge", "internal/race.Disable", "internal/race.Enable", "internal/synctest.IsInBubble", "internal/synctest.Associate[sync.WaitGroup]", "sync.fatal", "sync/atomic.OrUint64", "sync/atomic.AddUint64", "internal/race.Read", "sync/atomic.LoadUint64", "sync/atomic.StoreUint64", "internal/synctest.Disassociate[sync.WaitGroup]", "sync.runtime_Semrelease", "(*sync.WaitGroup).Done", "(*sync.WaitGroup).Wait", "internal/race.Acquire", "internal/synctest.IsAssociated[sync.WaitGroup]", "sync/atomic.CompareAndSwapUint64", "internal/race.Write", "sync.runtime_SemacquireWaitGroup"], unfollowed := true, recurses := true, leaving := true, apart := false }
def QueueTakersSaid : Prop := queueTakersRow.holds Try.pinned (OpenSpec.ofChange queueTakersSpec)

/-- ITS FALSE NEIGHBOUR: 'it returns false'. Refute it at one input. -/
def queueTakersWrong : ChangeSpec := { name := "queueTakers", fn := fun _ => fun
  | [d1, d2, d3] => { results := [.lit (.bool false)], args := [d1, d2, d3] }
  | _ => none }
def QueueTakersWrongFalsely : Prop := queueTakersRow.holds Try.pinned (OpenSpec.ofChange queueTakersWrong)

/-- 'carillonlaw07.QueueStorm': WHATEVER THE INPUT: true; the input reads as it did. -/
def queueStormSpec : ChangeSpec := { name := "queueStorm", fn := fun _ => fun
  | [d] => { results := [.lit (.bool true)], args := [d] }
  | _ => none }
def queueStormRow : OpenClaim := { program := "ytcejbandeikdjaa", sum := "0ac150d95505dbd1177013a3d1cab51fa934542c73cb48c7a87a456cfbbae24d", func := "carillon/carillonlaw07.QueueStorm", spec := "queueStorm", inPlace := ["sync/atomic.StorePointer", "sync/atomic.LoadPointer", "sync/atomic.CompareAndSwapPointer", "(*sync.WaitGroup).Add", "internal/race.ReleaseMerge", "internal/race.Disable", "internal/race.Enable", "internal/synctest.IsInBubble", "internal/synctest.Associate[sync.WaitGroup]", "sync.fatal", "sync/atomic.OrUint64", "sync/atomic.AddUint64", "internal/race.Read", "sync/atomic.LoadUint64", "sync/atomic.StoreUint64", "internal/synctest.Disassociate[sync.WaitGroup]", "sync.runtime_Semrelease", "(*sync.WaitGroup).Done", "(*sync.WaitGroup).Wait", "internal/race.Acquire", "internal/synctest.IsAssociated[sync.WaitGroup]", "sync/atomic.CompareAndSwapUint64", "internal/race.Write", "sync.runtime_SemacquireWaitGroup"], unfollowed := true, recurses := true, leaving := true, apart := false }
def QueueStormSaid : Prop := queueStormRow.holds Try.pinned (OpenSpec.ofChange queueStormSpec)

/-- ITS FALSE NEIGHBOUR: 'it returns false'. Refute it at one input. -/
def queueStormWrong : ChangeSpec := { name := "queueStorm", fn := fun _ => fun
  | [d] => { results := [.lit (.bool false)], args := [d] }
  | _ => none }
def QueueStormWrongFalsely : Prop := queueStormRow.holds Try.pinned (OpenSpec.ofChange queueStormWrong)

/-- 'carillonlaw07.QueueStormed': WHATEVER THE INPUT: true; the input reads as it did. -/
def queueStormedSpec : ChangeSpec := { name := "queueStormed", fn := fun _ => fun
  | [] => { results := [.lit (.bool true)], args := [] }
  | _ => none }
def queueStormedRow : OpenClaim := { program := "ytcejbandeikdjaa", sum := "0ac150d95505dbd1177013a3d1cab51fa934542c73cb48c7a87a456cfbbae24d", func := "carillon/carillonlaw07.QueueStormed", spec := "queueStormed", inPlace := ["sync/atomic.StorePointer", "sync/atomic.LoadPointer", "sync/atomic.CompareAndSwapPointer", "(*sync.WaitGroup).Add", "internal/race.ReleaseMerge", "internal/race.Disable", "internal/race.Enable", "internal/synctest.IsInBubble", "internal/synctest.Associate[sync.WaitGroup]", "sync.fatal", "sync/atomic.OrUint64", "sync/atomic.AddUint64", "internal/race.Read", "sync/atomic.LoadUint64", "sync/atomic.StoreUint64", "internal/synctest.Disassociate[sync.WaitGroup]", "sync.runtime_Semrelease", "(*sync.WaitGroup).Done", "(*sync.WaitGroup).Wait", "internal/race.Acquire", "internal/synctest.IsAssociated[sync.WaitGroup]", "sync/atomic.CompareAndSwapUint64", "internal/race.Write", "sync.runtime_SemacquireWaitGroup"], unfollowed := true, recurses := true, leaving := true, apart := false }
def QueueStormedSaid : Prop := queueStormedRow.holds Try.pinned (OpenSpec.ofChange queueStormedSpec)

/-- ITS FALSE NEIGHBOUR: 'it returns false'. Refute it at one input. -/
def queueStormedWrong : ChangeSpec := { name := "queueStormed", fn := fun _ => fun
  | [] => { results := [.lit (.bool false)], args := [] }
  | _ => none }
def QueueStormedWrongFalsely : Prop := queueStormedRow.holds Try.pinned (OpenSpec.ofChange queueStormedWrong)

/- THE SECOND FORM. 'bulk': how many values and letters a reading holds, each counted each time it is reached (what is shared counts as often as it is met; a slice's spare places count too). A statement '..UptoSaid' is the law's where the arguments, and the package variables that the reading takes, are together of bulk at most 1048576: NARROWER than '..Said'. Prove '..Said' where nothing that the law and all that it calls make is longer than what came in: it says more and counts as full. Else prove '..UptoSaid'. A law counts once. -/
mutual
def uptoBulk {H : Type} : DataW H → Nat
  | .lit (.string bytes) => bytes.length + 1
  | .lit _ => 1
  | .nil => 1
  | .ptr d => uptoBulk d + 1
  | .slice elems spare => uptoBulkAll elems + uptoBulkAll spare + 1
  | .agg parts => uptoBulkAll parts + 1
  | .iface _ d => uptoBulk d + 1
  | .map entries => uptoBulkEntries entries + 1
  | .held _ => 1
def uptoBulkAll {H : Type} : List (DataW H) → Nat
  | [] => 0
  | d :: r => uptoBulk d + uptoBulkAll r
def uptoBulkEntries {H : Type} : List (Lit × DataW H) → Nat
  | [] => 0
  | x :: r => uptoBulkEntry x + uptoBulkEntries r
def uptoBulkEntry {H : Type} : Lit × DataW H → Nat
  | (.string bytes, d) => bytes.length + uptoBulk d + 1
  | (_, d) => uptoBulk d + 1
 end
def uptoSmall : (H : Type) → List (DataW H) → Bool := fun _ ds => decide (uptoBulkAll ds ≤ 1048576)
def OpenSpec.upto (s : _root_.Go.ChangeSpec) : _root_.Go.OpenSpec := { _root_.Go.OpenSpec.ofChange s with cond := some uptoSmall }

/-- 'carillonlaw07.QueuePlays', WHERE WHAT IT READS IS OF BULK AT MOST 1048576: true; the input reads as it did. -/
def queuePlaysUptoRow : OpenClaim := { program := "ytcejbandeikdjaa", sum := "0ac150d95505dbd1177013a3d1cab51fa934542c73cb48c7a87a456cfbbae24d", func := "carillon/carillonlaw07.QueuePlays", spec := "queuePlays", inPlace := ["sync/atomic.StorePointer", "sync/atomic.LoadPointer", "sync/atomic.CompareAndSwapPointer"], unfollowed := true, recurses := true, leaving := true, apart := false, narrowed := true }
def QueuePlaysUptoSaid : Prop := queuePlaysUptoRow.holds Try.pinned (OpenSpec.upto queuePlaysSpec)

/-- 'carillonlaw07.QueueCalls', WHERE WHAT IT READS IS OF BULK AT MOST 1048576: true; the input reads as it did. -/
def queueCallsUptoRow : OpenClaim := { program := "ytcejbandeikdjaa", sum := "0ac150d95505dbd1177013a3d1cab51fa934542c73cb48c7a87a456cfbbae24d", func := "carillon/carillonlaw07.QueueCalls", spec := "queueCalls", inPlace := ["sync/atomic.StorePointer", "sync/atomic.LoadPointer", "sync/atomic.CompareAndSwapPointer"], unfollowed := true, recurses := true, leaving := true, apart := false, narrowed := true }
def QueueCallsUptoSaid : Prop := queueCallsUptoRow.holds Try.pinned (OpenSpec.upto queueCallsSpec)

/-- 'carillonlaw07.QueueNil', WHERE WHAT IT READS IS OF BULK AT MOST 1048576: true; the input reads as it did. -/
def queueNilUptoRow : OpenClaim := { program := "ytcejbandeikdjaa", sum := "0ac150d95505dbd1177013a3d1cab51fa934542c73cb48c7a87a456cfbbae24d", func := "carillon/carillonlaw07.QueueNil", spec := "queueNil", inPlace := ["sync/atomic.StorePointer", "sync/atomic.LoadPointer", "sync/atomic.CompareAndSwapPointer"], unfollowed := true, recurses := true, leaving := true, apart := false, narrowed := true }
def QueueNilUptoSaid : Prop := queueNilUptoRow.holds Try.pinned (OpenSpec.upto queueNilSpec)

/-- 'carillonlaw07.QueueKeeps', WHERE WHAT IT READS IS OF BULK AT MOST 1048576: true; the input reads as it did. -/
def queueKeepsUptoRow : OpenClaim := { program := "ytcejbandeikdjaa", sum := "0ac150d95505dbd1177013a3d1cab51fa934542c73cb48c7a87a456cfbbae24d", func := "carillon/carillonlaw07.QueueKeeps", spec := "queueKeeps", inPlace := ["sync/atomic.StorePointer", "sync/atomic.LoadPointer", "sync/atomic.CompareAndSwapPointer"], unfollowed := true, recurses := true, leaving := true, apart := false, narrowed := true }
def QueueKeepsUptoSaid : Prop := queueKeepsUptoRow.holds Try.pinned (OpenSpec.upto queueKeepsSpec)

/-- 'carillonlaw07.QueueFree', WHERE WHAT IT READS IS OF BULK AT MOST 1048576: true; the input reads as it did. -/
def queueFreeUptoRow : OpenClaim := { program := "ytcejbandeikdjaa", sum := "0ac150d95505dbd1177013a3d1cab51fa934542c73cb48c7a87a456cfbbae24d", func := "carillon/carillonlaw07.QueueFree", spec := "queueFree", inPlace := ["sync/atomic.StorePointer", "sync/atomic.LoadPointer", "sync/atomic.CompareAndSwapPointer", "(*sync.WaitGroup).Add", "internal/race.ReleaseMerge", "internal/race.Disable", "internal/race.Enable", "internal/synctest.IsInBubble", "internal/synctest.Associate[sync.WaitGroup]", "sync.fatal", "sync/atomic.OrUint64", "sync/atomic.AddUint64", "internal/race.Read", "sync/atomic.LoadUint64", "sync/atomic.StoreUint64", "internal/synctest.Disassociate[sync.WaitGroup]", "sync.runtime_Semrelease", "(*sync.WaitGroup).Done", "(*sync.WaitGroup).Wait", "internal/race.Acquire", "internal/synctest.IsAssociated[sync.WaitGroup]", "sync/atomic.CompareAndSwapUint64", "internal/race.Write", "sync.runtime_SemacquireWaitGroup"], unfollowed := true, recurses := true, leaving := true, apart := false, narrowed := true }
def QueueFreeUptoSaid : Prop := queueFreeUptoRow.holds Try.pinned (OpenSpec.upto queueFreeSpec)

/-- 'carillonlaw07.QueueCrowd', WHERE WHAT IT READS IS OF BULK AT MOST 1048576: true; the input reads as it did. -/
def queueCrowdUptoRow : OpenClaim := { program := "ytcejbandeikdjaa", sum := "0ac150d95505dbd1177013a3d1cab51fa934542c73cb48c7a87a456cfbbae24d", func := "carillon/carillonlaw07.QueueCrowd", spec := "queueCrowd", inPlace := ["sync/atomic.StorePointer", "sync/atomic.LoadPointer", "sync/atomic.CompareAndSwapPointer", "(*sync.WaitGroup).Add", "internal/race.ReleaseMerge", "internal/race.Disable", "internal/race.Enable", "internal/synctest.IsInBubble", "internal/synctest.Associate[sync.WaitGroup]", "sync.fatal", "sync/atomic.OrUint64", "sync/atomic.AddUint64", "internal/race.Read", "sync/atomic.LoadUint64", "sync/atomic.StoreUint64", "internal/synctest.Disassociate[sync.WaitGroup]", "sync.runtime_Semrelease", "(*sync.WaitGroup).Done", "(*sync.WaitGroup).Wait", "internal/race.Acquire", "internal/synctest.IsAssociated[sync.WaitGroup]", "sync/atomic.CompareAndSwapUint64", "internal/race.Write", "sync.runtime_SemacquireWaitGroup"], unfollowed := true, recurses := true, leaving := true, apart := false, narrowed := true }
def QueueCrowdUptoSaid : Prop := queueCrowdUptoRow.holds Try.pinned (OpenSpec.upto queueCrowdSpec)

/-- 'carillonlaw07.QueueTakers', WHERE WHAT IT READS IS OF BULK AT MOST 1048576: true; the input reads as it did. -/
def queueTakersUptoRow : OpenClaim := { program := "ytcejbandeikdjaa", sum := "0ac150d95505dbd1177013a3d1cab51fa934542c73cb48c7a87a456cfbbae24d", func := "carillon/carillonlaw07.QueueTakers", spec := "queueTakers", inPlace := ["sync/atomic.StorePointer", "sync/atomic.LoadPointer", "sync/atomic.CompareAndSwapPointer", "(*sync.WaitGroup).Add", "internal/race.ReleaseMerge", "internal/race.Disable", "internal/race.Enable", "internal/synctest.IsInBubble", "internal/synctest.Associate[sync.WaitGroup]", "sync.fatal", "sync/atomic.OrUint64", "sync/atomic.AddUint64", "internal/race.Read", "sync/atomic.LoadUint64", "sync/atomic.StoreUint64", "internal/synctest.Disassociate[sync.WaitGroup]", "sync.runtime_Semrelease", "(*sync.WaitGroup).Done", "(*sync.WaitGroup).Wait", "internal/race.Acquire", "internal/synctest.IsAssociated[sync.WaitGroup]", "sync/atomic.CompareAndSwapUint64", "internal/race.Write", "sync.runtime_SemacquireWaitGroup"], unfollowed := true, recurses := true, leaving := true, apart := false, narrowed := true }
def QueueTakersUptoSaid : Prop := queueTakersUptoRow.holds Try.pinned (OpenSpec.upto queueTakersSpec)

/-- 'carillonlaw07.QueueStorm', WHERE WHAT IT READS IS OF BULK AT MOST 1048576: true; the input reads as it did. -/
def queueStormUptoRow : OpenClaim := { program := "ytcejbandeikdjaa", sum := "0ac150d95505dbd1177013a3d1cab51fa934542c73cb48c7a87a456cfbbae24d", func := "carillon/carillonlaw07.QueueStorm", spec := "queueStorm", inPlace := ["sync/atomic.StorePointer", "sync/atomic.LoadPointer", "sync/atomic.CompareAndSwapPointer", "(*sync.WaitGroup).Add", "internal/race.ReleaseMerge", "internal/race.Disable", "internal/race.Enable", "internal/synctest.IsInBubble", "internal/synctest.Associate[sync.WaitGroup]", "sync.fatal", "sync/atomic.OrUint64", "sync/atomic.AddUint64", "internal/race.Read", "sync/atomic.LoadUint64", "sync/atomic.StoreUint64", "internal/synctest.Disassociate[sync.WaitGroup]", "sync.runtime_Semrelease", "(*sync.WaitGroup).Done", "(*sync.WaitGroup).Wait", "internal/race.Acquire", "internal/synctest.IsAssociated[sync.WaitGroup]", "sync/atomic.CompareAndSwapUint64", "internal/race.Write", "sync.runtime_SemacquireWaitGroup"], unfollowed := true, recurses := true, leaving := true, apart := false, narrowed := true }
def QueueStormUptoSaid : Prop := queueStormUptoRow.holds Try.pinned (OpenSpec.upto queueStormSpec)

/-- 'carillonlaw07.QueueStormed', WHERE WHAT IT READS IS OF BULK AT MOST 1048576: true; the input reads as it did. -/
def queueStormedUptoRow : OpenClaim := { program := "ytcejbandeikdjaa", sum := "0ac150d95505dbd1177013a3d1cab51fa934542c73cb48c7a87a456cfbbae24d", func := "carillon/carillonlaw07.QueueStormed", spec := "queueStormed", inPlace := ["sync/atomic.StorePointer", "sync/atomic.LoadPointer", "sync/atomic.CompareAndSwapPointer", "(*sync.WaitGroup).Add", "internal/race.ReleaseMerge", "internal/race.Disable", "internal/race.Enable", "internal/synctest.IsInBubble", "internal/synctest.Associate[sync.WaitGroup]", "sync.fatal", "sync/atomic.OrUint64", "sync/atomic.AddUint64", "internal/race.Read", "sync/atomic.LoadUint64", "sync/atomic.StoreUint64", "internal/synctest.Disassociate[sync.WaitGroup]", "sync.runtime_Semrelease", "(*sync.WaitGroup).Done", "(*sync.WaitGroup).Wait", "internal/race.Acquire", "internal/synctest.IsAssociated[sync.WaitGroup]", "sync/atomic.CompareAndSwapUint64", "internal/race.Write", "sync.runtime_SemacquireWaitGroup"], unfollowed := true, recurses := true, leaving := true, apart := false, narrowed := true }
def QueueStormedUptoSaid : Prop := queueStormedUptoRow.holds Try.pinned (OpenSpec.upto queueStormedSpec)

end Rows
end Go.Proofs.Ytcejbandeikdjaa
