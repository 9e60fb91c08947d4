/-
  No cell of these rows narrows 'for every input' (looked for: loops, veiled, ifaces, maps, wideKeys, modest, calm, conditions, laid).
  DERIVED. THE GIVEN ROWS OF THIS SEAT. 10 by the template 'for every input the law returns true; each argument reads behind the call as it read before'; 0 by the template 'total and deterministic' (their statements: YtlcgkpapnpdfpaaTotals.lean).
  GIVEN WITH THE SEED: the statements are not yours to turn. If you find one false, say at which input.
  Laid BY PROGRAM, IN A SANDBOX (cutbox-rows.mjs): the forced cells as the released guide's own fill.sh prints them over the translation 0c11673373383b25… (all of the seat's roots in one cut). By AI agents, Wed Nov 11 2026. No macro, syntax, notation, axiom, sorry.
-/
import Derived.Test.YtlcgkpapnpdfpaaChecked
import GoSem.Claim
import GoSem.ClaimJoined
import GoSem.ClaimMapViews
import Derived.JoinedTies
import Derived.KernelRfl
namespace Go.Proofs.Ytlcgkpapnpdfpaa
/- THE CELL 'sum', in the pinned program and in every row, IS THE sha256 OF THE DUMP (.gsa) THAT YtlcgkpapnpdfpaaProg.lean LOADS. Nothing in Lean hashes anything: it is a label: what it is worth is what the hold of that sum in a sandbox is worth. -/
noncomputable def Try.pinned : Pinned := { name := "ytlcgkpapnpdfpaa", sum := "0c11673373383b25017f60a2ef4cc8948f5ea272226e7a3c95c1fd463766d925", checked := Try.checked }
namespace Rows
def none {H : Type} : Left H := { results := [], args := [] }

/-- 'carillonlaw08.SeqlockPlays': WHATEVER THE INPUT: true; the input reads as it did. -/
def seqlockPlaysSpec : ChangeSpec := { name := "seqlockPlays", fn := fun _ => fun
  | [d] => { results := [.lit (.bool true)], args := [d] }
  | _ => none }
def seqlockPlaysRow : OpenClaim := { program := "ytlcgkpapnpdfpaa", sum := "0c11673373383b25017f60a2ef4cc8948f5ea272226e7a3c95c1fd463766d925", func := "carillon/carillonlaw08.SeqlockPlays", spec := "seqlockPlays", inPlace := ["sync/atomic.StoreInt64", "sync/atomic.LoadInt64", "sync/atomic.CompareAndSwapInt64", "sync/atomic.AddInt64"], unfollowed := true, recurses := true, leaving := true, apart := false }
def SeqlockPlaysSaid : Prop := seqlockPlaysRow.holds Try.pinned (OpenSpec.ofChange seqlockPlaysSpec)

/-- ITS FALSE NEIGHBOUR: 'it returns false'. Refute it at one input. -/
def seqlockPlaysWrong : ChangeSpec := { name := "seqlockPlays", fn := fun _ => fun
  | [d] => { results := [.lit (.bool false)], args := [d] }
  | _ => none }
def SeqlockPlaysWrongFalsely : Prop := seqlockPlaysRow.holds Try.pinned (OpenSpec.ofChange seqlockPlaysWrong)

/-- 'carillonlaw08.SeqlockCalls': WHATEVER THE INPUT: true; the input reads as it did. -/
def seqlockCallsSpec : ChangeSpec := { name := "seqlockCalls", fn := fun _ => fun
  | [d1, d2] => { results := [.lit (.bool true)], args := [d1, d2] }
  | _ => none }
def seqlockCallsRow : OpenClaim := { program := "ytlcgkpapnpdfpaa", sum := "0c11673373383b25017f60a2ef4cc8948f5ea272226e7a3c95c1fd463766d925", func := "carillon/carillonlaw08.SeqlockCalls", spec := "seqlockCalls", inPlace := ["sync/atomic.StoreInt64", "sync/atomic.LoadInt64", "sync/atomic.CompareAndSwapInt64", "sync/atomic.AddInt64"], unfollowed := true, recurses := true, leaving := true, apart := false }
def SeqlockCallsSaid : Prop := seqlockCallsRow.holds Try.pinned (OpenSpec.ofChange seqlockCallsSpec)

/-- ITS FALSE NEIGHBOUR: 'it returns false'. Refute it at one input. -/
def seqlockCallsWrong : ChangeSpec := { name := "seqlockCalls", fn := fun _ => fun
  | [d1, d2] => { results := [.lit (.bool false)], args := [d1, d2] }
  | _ => none }
def SeqlockCallsWrongFalsely : Prop := seqlockCallsRow.holds Try.pinned (OpenSpec.ofChange seqlockCallsWrong)

/-- 'carillonlaw08.SeqlockShort': WHATEVER THE INPUT: true; the input reads as it did. -/
def seqlockShortSpec : ChangeSpec := { name := "seqlockShort", fn := fun _ => fun
  | [d1, d2, d3] => { results := [.lit (.bool true)], args := [d1, d2, d3] }
  | _ => none }
def seqlockShortRow : OpenClaim := { program := "ytlcgkpapnpdfpaa", sum := "0c11673373383b25017f60a2ef4cc8948f5ea272226e7a3c95c1fd463766d925", func := "carillon/carillonlaw08.SeqlockShort", spec := "seqlockShort", inPlace := ["sync/atomic.StoreInt64", "sync/atomic.LoadInt64", "sync/atomic.CompareAndSwapInt64", "sync/atomic.AddInt64"], unfollowed := true, recurses := true, leaving := true, apart := false }
def SeqlockShortSaid : Prop := seqlockShortRow.holds Try.pinned (OpenSpec.ofChange seqlockShortSpec)

/-- ITS FALSE NEIGHBOUR: 'it returns false'. Refute it at one input. -/
def seqlockShortWrong : ChangeSpec := { name := "seqlockShort", fn := fun _ => fun
  | [d1, d2, d3] => { results := [.lit (.bool false)], args := [d1, d2, d3] }
  | _ => none }
def SeqlockShortWrongFalsely : Prop := seqlockShortRow.holds Try.pinned (OpenSpec.ofChange seqlockShortWrong)

/-- 'carillonlaw08.SeqlockNone': WHATEVER THE INPUT: true; the input reads as it did. -/
def seqlockNoneSpec : ChangeSpec := { name := "seqlockNone", fn := fun _ => fun
  | [d] => { results := [.lit (.bool true)], args := [d] }
  | _ => none }
def seqlockNoneRow : OpenClaim := { program := "ytlcgkpapnpdfpaa", sum := "0c11673373383b25017f60a2ef4cc8948f5ea272226e7a3c95c1fd463766d925", func := "carillon/carillonlaw08.SeqlockNone", spec := "seqlockNone", inPlace := ["sync/atomic.StoreInt64", "sync/atomic.LoadInt64", "sync/atomic.CompareAndSwapInt64", "sync/atomic.AddInt64"], unfollowed := true, recurses := true, leaving := true, apart := false }
def SeqlockNoneSaid : Prop := seqlockNoneRow.holds Try.pinned (OpenSpec.ofChange seqlockNoneSpec)

/-- ITS FALSE NEIGHBOUR: 'it returns false'. Refute it at one input. -/
def seqlockNoneWrong : ChangeSpec := { name := "seqlockNone", fn := fun _ => fun
  | [d] => { results := [.lit (.bool false)], args := [d] }
  | _ => none }
def SeqlockNoneWrongFalsely : Prop := seqlockNoneRow.holds Try.pinned (OpenSpec.ofChange seqlockNoneWrong)

/-- 'carillonlaw08.SeqlockKeeps': WHATEVER THE INPUT: true; the input reads as it did. -/
def seqlockKeepsSpec : ChangeSpec := { name := "seqlockKeeps", fn := fun _ => fun
  | [d1, d2] => { results := [.lit (.bool true)], args := [d1, d2] }
  | _ => none }
def seqlockKeepsRow : OpenClaim := { program := "ytlcgkpapnpdfpaa", sum := "0c11673373383b25017f60a2ef4cc8948f5ea272226e7a3c95c1fd463766d925", func := "carillon/carillonlaw08.SeqlockKeeps", spec := "seqlockKeeps", inPlace := ["sync/atomic.StoreInt64", "sync/atomic.LoadInt64", "sync/atomic.CompareAndSwapInt64", "sync/atomic.AddInt64"], unfollowed := true, recurses := true, leaving := true, apart := false }
def SeqlockKeepsSaid : Prop := seqlockKeepsRow.holds Try.pinned (OpenSpec.ofChange seqlockKeepsSpec)

/-- ITS FALSE NEIGHBOUR: 'it returns false'. Refute it at one input. -/
def seqlockKeepsWrong : ChangeSpec := { name := "seqlockKeeps", fn := fun _ => fun
  | [d1, d2] => { results := [.lit (.bool false)], args := [d1, d2] }
  | _ => none }
def SeqlockKeepsWrongFalsely : Prop := seqlockKeepsRow.holds Try.pinned (OpenSpec.ofChange seqlockKeepsWrong)

/-- 'carillonlaw06.StackClassic': WHATEVER THE INPUT: true; the input reads as it did. -/
def stackClassicSpec : ChangeSpec := { name := "stackClassic", fn := fun _ => fun
  | [] => { results := [.lit (.bool true)], args := [] }
  | _ => none }
def stackClassicRow : OpenClaim := { program := "ytlcgkpapnpdfpaa", sum := "0c11673373383b25017f60a2ef4cc8948f5ea272226e7a3c95c1fd463766d925", func := "carillon/carillonlaw06.StackClassic", spec := "stackClassic", inPlace := ["sync/atomic.StoreInt64", "sync/atomic.StoreUint64", "sync/atomic.LoadUint64", "sync/atomic.LoadInt64", "sync/atomic.CompareAndSwapUint64"], unfollowed := true, recurses := true, leaving := true, apart := false }
def StackClassicSaid : Prop := stackClassicRow.holds Try.pinned (OpenSpec.ofChange stackClassicSpec)

/-- ITS FALSE NEIGHBOUR: 'it returns false'. Refute it at one input. -/
def stackClassicWrong : ChangeSpec := { name := "stackClassic", fn := fun _ => fun
  | [] => { results := [.lit (.bool false)], args := [] }
  | _ => none }
def StackClassicWrongFalsely : Prop := stackClassicRow.holds Try.pinned (OpenSpec.ofChange stackClassicWrong)

/-- 'carillonlaw06.StackPlays': WHATEVER THE INPUT: true; the input reads as it did. -/
def stackPlaysSpec : ChangeSpec := { name := "stackPlays", fn := fun _ => fun
  | [d1, d2, d3, d4, d5] => { results := [.lit (.bool true)], args := [d1, d2, d3, d4, d5] }
  | _ => none }
def stackPlaysRow : OpenClaim := { program := "ytlcgkpapnpdfpaa", sum := "0c11673373383b25017f60a2ef4cc8948f5ea272226e7a3c95c1fd463766d925", func := "carillon/carillonlaw06.StackPlays", spec := "stackPlays", inPlace := ["sync/atomic.StoreInt64", "sync/atomic.StoreUint64", "sync/atomic.LoadUint64", "sync/atomic.LoadInt64", "sync/atomic.CompareAndSwapUint64"], unfollowed := true, recurses := true, leaving := true, apart := false }
def StackPlaysSaid : Prop := stackPlaysRow.holds Try.pinned (OpenSpec.ofChange stackPlaysSpec)

/-- ITS FALSE NEIGHBOUR: 'it returns false'. Refute it at one input. -/
def stackPlaysWrong : ChangeSpec := { name := "stackPlays", fn := fun _ => fun
  | [d1, d2, d3, d4, d5] => { results := [.lit (.bool false)], args := [d1, d2, d3, d4, d5] }
  | _ => none }
def StackPlaysWrongFalsely : Prop := stackPlaysRow.holds Try.pinned (OpenSpec.ofChange stackPlaysWrong)

/-- 'carillonlaw06.StackAlone': WHATEVER THE INPUT: true; the input reads as it did. -/
def stackAloneSpec : ChangeSpec := { name := "stackAlone", fn := fun _ => fun
  | [d1, d2] => { results := [.lit (.bool true)], args := [d1, d2] }
  | _ => none }
def stackAloneRow : OpenClaim := { program := "ytlcgkpapnpdfpaa", sum := "0c11673373383b25017f60a2ef4cc8948f5ea272226e7a3c95c1fd463766d925", func := "carillon/carillonlaw06.StackAlone", spec := "stackAlone", inPlace := ["sync/atomic.StoreInt64", "sync/atomic.StoreUint64", "sync/atomic.LoadUint64", "sync/atomic.LoadInt64", "sync/atomic.CompareAndSwapUint64"], unfollowed := true, recurses := true, leaving := true, apart := false }
def StackAloneSaid : Prop := stackAloneRow.holds Try.pinned (OpenSpec.ofChange stackAloneSpec)

/-- ITS FALSE NEIGHBOUR: 'it returns false'. Refute it at one input. -/
def stackAloneWrong : ChangeSpec := { name := "stackAlone", fn := fun _ => fun
  | [d1, d2] => { results := [.lit (.bool false)], args := [d1, d2] }
  | _ => none }
def StackAloneWrongFalsely : Prop := stackAloneRow.holds Try.pinned (OpenSpec.ofChange stackAloneWrong)

/-- 'carillonlaw06.StackRight': WHATEVER THE INPUT: true; the input reads as it did. -/
def stackRightSpec : ChangeSpec := { name := "stackRight", fn := fun _ => fun
  | [d1, d2, d3, d4] => { results := [.lit (.bool true)], args := [d1, d2, d3, d4] }
  | _ => none }
def stackRightRow : OpenClaim := { program := "ytlcgkpapnpdfpaa", sum := "0c11673373383b25017f60a2ef4cc8948f5ea272226e7a3c95c1fd463766d925", func := "carillon/carillonlaw06.StackRight", spec := "stackRight", inPlace := ["sync/atomic.StoreInt64", "sync/atomic.StoreUint64", "sync/atomic.LoadUint64", "sync/atomic.LoadInt64", "sync/atomic.CompareAndSwapUint64"], unfollowed := true, recurses := true, leaving := true, apart := false }
def StackRightSaid : Prop := stackRightRow.holds Try.pinned (OpenSpec.ofChange stackRightSpec)

/-- ITS FALSE NEIGHBOUR: 'it returns false'. Refute it at one input. -/
def stackRightWrong : ChangeSpec := { name := "stackRight", fn := fun _ => fun
  | [d1, d2, d3, d4] => { results := [.lit (.bool false)], args := [d1, d2, d3, d4] }
  | _ => none }
def StackRightWrongFalsely : Prop := stackRightRow.holds Try.pinned (OpenSpec.ofChange stackRightWrong)

/-- 'carillonlaw06.StackNone': WHATEVER THE INPUT: true; the input reads as it did. -/
def stackNoneSpec : ChangeSpec := { name := "stackNone", fn := fun _ => fun
  | [d1, d2] => { results := [.lit (.bool true)], args := [d1, d2] }
  | _ => none }
def stackNoneRow : OpenClaim := { program := "ytlcgkpapnpdfpaa", sum := "0c11673373383b25017f60a2ef4cc8948f5ea272226e7a3c95c1fd463766d925", func := "carillon/carillonlaw06.StackNone", spec := "stackNone", inPlace := ["sync/atomic.StoreInt64", "sync/atomic.StoreUint64", "sync/atomic.LoadUint64", "sync/atomic.LoadInt64", "sync/atomic.CompareAndSwapUint64"], unfollowed := true, recurses := true, leaving := true, apart := false }
def StackNoneSaid : Prop := stackNoneRow.holds Try.pinned (OpenSpec.ofChange stackNoneSpec)

/-- ITS FALSE NEIGHBOUR: 'it returns false'. Refute it at one input. -/
def stackNoneWrong : ChangeSpec := { name := "stackNone", fn := fun _ => fun
  | [d1, d2] => { results := [.lit (.bool false)], args := [d1, d2] }
  | _ => none }
def StackNoneWrongFalsely : Prop := stackNoneRow.holds Try.pinned (OpenSpec.ofChange stackNoneWrong)

/- THE SECOND FORM. 'bulk': how many values and letters a reading holds, each counted each time it is reached (what is shared counts as often as it is met; a slice's spare places count too). A statement '..UptoSaid' is the law's where the arguments, and the package variables that the reading takes, are together of bulk at most 1048576: NARROWER than '..Said'. Prove '..Said' where nothing that the law and all that it calls make is longer than what came in: it says more and counts as full. Else prove '..UptoSaid'. A law counts once. -/
mutual
def uptoBulk {H : Type} : DataW H → Nat
  | .lit (.string bytes) => bytes.length + 1
  | .lit _ => 1
  | .nil => 1
  | .ptr d => uptoBulk d + 1
  | .slice elems spare => uptoBulkAll elems + uptoBulkAll spare + 1
  | .agg parts => uptoBulkAll parts + 1
  | .iface _ d => uptoBulk d + 1
  | .map entries => uptoBulkEntries entries + 1
  | .held _ => 1
def uptoBulkAll {H : Type} : List (DataW H) → Nat
  | [] => 0
  | d :: r => uptoBulk d + uptoBulkAll r
def uptoBulkEntries {H : Type} : List (Lit × DataW H) → Nat
  | [] => 0
  | x :: r => uptoBulkEntry x + uptoBulkEntries r
def uptoBulkEntry {H : Type} : Lit × DataW H → Nat
  | (.string bytes, d) => bytes.length + uptoBulk d + 1
  | (_, d) => uptoBulk d + 1
 end
def uptoSmall : (H : Type) → List (DataW H) → Bool := fun _ ds => decide (uptoBulkAll ds ≤ 1048576)
def OpenSpec.upto (s : _root_.Go.ChangeSpec) : _root_.Go.OpenSpec := { _root_.Go.OpenSpec.ofChange s with cond := some uptoSmall }

/-- 'carillonlaw08.SeqlockPlays', WHERE WHAT IT READS IS OF BULK AT MOST 1048576: true; the input reads as it did. -/
def seqlockPlaysUptoRow : OpenClaim := { program := "ytlcgkpapnpdfpaa", sum := "0c11673373383b25017f60a2ef4cc8948f5ea272226e7a3c95c1fd463766d925", func := "carillon/carillonlaw08.SeqlockPlays", spec := "seqlockPlays", inPlace := ["sync/atomic.StoreInt64", "sync/atomic.LoadInt64", "sync/atomic.CompareAndSwapInt64", "sync/atomic.AddInt64"], unfollowed := true, recurses := true, leaving := true, apart := false, narrowed := true }
def SeqlockPlaysUptoSaid : Prop := seqlockPlaysUptoRow.holds Try.pinned (OpenSpec.upto seqlockPlaysSpec)

/-- 'carillonlaw08.SeqlockCalls', WHERE WHAT IT READS IS OF BULK AT MOST 1048576: true; the input reads as it did. -/
def seqlockCallsUptoRow : OpenClaim := { program := "ytlcgkpapnpdfpaa", sum := "0c11673373383b25017f60a2ef4cc8948f5ea272226e7a3c95c1fd463766d925", func := "carillon/carillonlaw08.SeqlockCalls", spec := "seqlockCalls", inPlace := ["sync/atomic.StoreInt64", "sync/atomic.LoadInt64", "sync/atomic.CompareAndSwapInt64", "sync/atomic.AddInt64"], unfollowed := true, recurses := true, leaving := true, apart := false, narrowed := true }
def SeqlockCallsUptoSaid : Prop := seqlockCallsUptoRow.holds Try.pinned (OpenSpec.upto seqlockCallsSpec)

/-- 'carillonlaw08.SeqlockShort', WHERE WHAT IT READS IS OF BULK AT MOST 1048576: true; the input reads as it did. -/
def seqlockShortUptoRow : OpenClaim := { program := "ytlcgkpapnpdfpaa", sum := "0c11673373383b25017f60a2ef4cc8948f5ea272226e7a3c95c1fd463766d925", func := "carillon/carillonlaw08.SeqlockShort", spec := "seqlockShort", inPlace := ["sync/atomic.StoreInt64", "sync/atomic.LoadInt64", "sync/atomic.CompareAndSwapInt64", "sync/atomic.AddInt64"], unfollowed := true, recurses := true, leaving := true, apart := false, narrowed := true }
def SeqlockShortUptoSaid : Prop := seqlockShortUptoRow.holds Try.pinned (OpenSpec.upto seqlockShortSpec)

/-- 'carillonlaw08.SeqlockNone', WHERE WHAT IT READS IS OF BULK AT MOST 1048576: true; the input reads as it did. -/
def seqlockNoneUptoRow : OpenClaim := { program := "ytlcgkpapnpdfpaa", sum := "0c11673373383b25017f60a2ef4cc8948f5ea272226e7a3c95c1fd463766d925", func := "carillon/carillonlaw08.SeqlockNone", spec := "seqlockNone", inPlace := ["sync/atomic.StoreInt64", "sync/atomic.LoadInt64", "sync/atomic.CompareAndSwapInt64", "sync/atomic.AddInt64"], unfollowed := true, recurses := true, leaving := true, apart := false, narrowed := true }
def SeqlockNoneUptoSaid : Prop := seqlockNoneUptoRow.holds Try.pinned (OpenSpec.upto seqlockNoneSpec)

/-- 'carillonlaw08.SeqlockKeeps', WHERE WHAT IT READS IS OF BULK AT MOST 1048576: true; the input reads as it did. -/
def seqlockKeepsUptoRow : OpenClaim := { program := "ytlcgkpapnpdfpaa", sum := "0c11673373383b25017f60a2ef4cc8948f5ea272226e7a3c95c1fd463766d925", func := "carillon/carillonlaw08.SeqlockKeeps", spec := "seqlockKeeps", inPlace := ["sync/atomic.StoreInt64", "sync/atomic.LoadInt64", "sync/atomic.CompareAndSwapInt64", "sync/atomic.AddInt64"], unfollowed := true, recurses := true, leaving := true, apart := false, narrowed := true }
def SeqlockKeepsUptoSaid : Prop := seqlockKeepsUptoRow.holds Try.pinned (OpenSpec.upto seqlockKeepsSpec)

/-- 'carillonlaw06.StackClassic', WHERE WHAT IT READS IS OF BULK AT MOST 1048576: true; the input reads as it did. -/
def stackClassicUptoRow : OpenClaim := { program := "ytlcgkpapnpdfpaa", sum := "0c11673373383b25017f60a2ef4cc8948f5ea272226e7a3c95c1fd463766d925", func := "carillon/carillonlaw06.StackClassic", spec := "stackClassic", inPlace := ["sync/atomic.StoreInt64", "sync/atomic.StoreUint64", "sync/atomic.LoadUint64", "sync/atomic.LoadInt64", "sync/atomic.CompareAndSwapUint64"], unfollowed := true, recurses := true, leaving := true, apart := false, narrowed := true }
def StackClassicUptoSaid : Prop := stackClassicUptoRow.holds Try.pinned (OpenSpec.upto stackClassicSpec)

/-- 'carillonlaw06.StackPlays', WHERE WHAT IT READS IS OF BULK AT MOST 1048576: true; the input reads as it did. -/
def stackPlaysUptoRow : OpenClaim := { program := "ytlcgkpapnpdfpaa", sum := "0c11673373383b25017f60a2ef4cc8948f5ea272226e7a3c95c1fd463766d925", func := "carillon/carillonlaw06.StackPlays", spec := "stackPlays", inPlace := ["sync/atomic.StoreInt64", "sync/atomic.StoreUint64", "sync/atomic.LoadUint64", "sync/atomic.LoadInt64", "sync/atomic.CompareAndSwapUint64"], unfollowed := true, recurses := true, leaving := true, apart := false, narrowed := true }
def StackPlaysUptoSaid : Prop := stackPlaysUptoRow.holds Try.pinned (OpenSpec.upto stackPlaysSpec)

/-- 'carillonlaw06.StackAlone', WHERE WHAT IT READS IS OF BULK AT MOST 1048576: true; the input reads as it did. -/
def stackAloneUptoRow : OpenClaim := { program := "ytlcgkpapnpdfpaa", sum := "0c11673373383b25017f60a2ef4cc8948f5ea272226e7a3c95c1fd463766d925", func := "carillon/carillonlaw06.StackAlone", spec := "stackAlone", inPlace := ["sync/atomic.StoreInt64", "sync/atomic.StoreUint64", "sync/atomic.LoadUint64", "sync/atomic.LoadInt64", "sync/atomic.CompareAndSwapUint64"], unfollowed := true, recurses := true, leaving := true, apart := false, narrowed := true }
def StackAloneUptoSaid : Prop := stackAloneUptoRow.holds Try.pinned (OpenSpec.upto stackAloneSpec)

/-- 'carillonlaw06.StackRight', WHERE WHAT IT READS IS OF BULK AT MOST 1048576: true; the input reads as it did. -/
def stackRightUptoRow : OpenClaim := { program := "ytlcgkpapnpdfpaa", sum := "0c11673373383b25017f60a2ef4cc8948f5ea272226e7a3c95c1fd463766d925", func := "carillon/carillonlaw06.StackRight", spec := "stackRight", inPlace := ["sync/atomic.StoreInt64", "sync/atomic.StoreUint64", "sync/atomic.LoadUint64", "sync/atomic.LoadInt64", "sync/atomic.CompareAndSwapUint64"], unfollowed := true, recurses := true, leaving := true, apart := false, narrowed := true }
def StackRightUptoSaid : Prop := stackRightUptoRow.holds Try.pinned (OpenSpec.upto stackRightSpec)

/-- 'carillonlaw06.StackNone', WHERE WHAT IT READS IS OF BULK AT MOST 1048576: true; the input reads as it did. -/
def stackNoneUptoRow : OpenClaim := { program := "ytlcgkpapnpdfpaa", sum := "0c11673373383b25017f60a2ef4cc8948f5ea272226e7a3c95c1fd463766d925", func := "carillon/carillonlaw06.StackNone", spec := "stackNone", inPlace := ["sync/atomic.StoreInt64", "sync/atomic.StoreUint64", "sync/atomic.LoadUint64", "sync/atomic.LoadInt64", "sync/atomic.CompareAndSwapUint64"], unfollowed := true, recurses := true, leaving := true, apart := false, narrowed := true }
def StackNoneUptoSaid : Prop := stackNoneUptoRow.holds Try.pinned (OpenSpec.upto stackNoneSpec)

end Rows
end Go.Proofs.Ytlcgkpapnpdfpaa
