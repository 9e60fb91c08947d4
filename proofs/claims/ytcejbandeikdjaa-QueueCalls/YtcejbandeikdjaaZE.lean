/-
  The law QueueCalls holds of the given program: a queue's calls by themselves answer, step and keep what the document's reference does, for arguments of at most 1048576 items in all (QueueCallsUptoSaid).
  Part 5 of 6.
-/
import Derived.Test.YtcejbandeikdjaaZD
import Derived.Conc.LeavingOf
import Derived.Deep.RegionLaw
import Derived.Deep.RegionLawGrows
import Derived.Deep.DeepAppendRoom
import Derived.ArgAppend
import Derived.Test.YtcejbandeikdjaaRows
import Derived.ProofKit
import Derived.Carry
import Derived.Deep.Slices
import Derived.ChangeSlices
set_option linter.unusedSimpArgs false
set_option linter.unusedVariables false
set_option maxRecDepth 100000
set_option maxHeartbeats 2000000
namespace Go.Proofs.Ytcejbandeikdjaa
open Go Go.Conc Go.RowKit Go.Proofs
noncomputable section
variable {F : Fz} {w : World}
theorem built62 : Try.prog.built 62 [] = some #[.pointer none, .pointer none] := by kernel_rfl
@[go_sem] theorem run_build62 (w : World) : (Instr.build 62 #[]).run Try.prog w = .ok (.agg #[.pointer none, .pointer none]) w := run_build w _ _ _ built62
@[go_sem] theorem ev_build62 (w : World) (es : Array Event) : (Instr.build 62 #[]).events Try.prog w es = es := ev_build w es _ _ _ _ Try.underlying62 built62
theorem built106z : Try.prog.built 106 [] = some #[.int .i64 0, .pointer none] := by kernel_rfl
@[go_sem] theorem run_build106z (w : World) : (Instr.build 106 #[]).run Try.prog w = .ok (.agg #[.int .i64 0, .pointer none]) w := run_build w _ _ _ built106z
@[go_sem] theorem ev_build106z (w : World) (es : Array Event) : (Instr.build 106 #[]).events Try.prog w es = es := ev_build w es _ _ _ _ Try.underlying106 built106z
def nwBody : Code := Try.f16.body.getD .skip
def nws0 : Code := Code.piece [] nwBody
def nwr0 : Code := Code.piece [true] nwBody
def nwo0 : Array Oper := Code.opsOf nwr0
def nws1 : Code := Code.piece [false] nwBody
def nwr1 : Code := Code.piece [false, true] nwBody
def nwo1 : Array Oper := Code.opsOf nwr1
def nws2 : Code := Code.piece [false, false] nwBody
def nwr2 : Code := Code.piece [false, false, true] nwBody
def nwo2 : Array Oper := Code.opsOf nwr2
def nws3 : Code := Code.piece [false, false, false] nwBody
def nws4 : Code := Code.piece [false, false, false, true] nwBody
def nwr3 : Code := Code.piece [false, false, false, true, true] nwBody
def nwo3 : Array Oper := Code.opsOf nwr3
def nwb0 : Code := Code.piece [false, false, false, true, false] nwBody
def nwl5 : Code := Code.piece [false, false, false, true, false, true] nwBody
def nws6 : Code := Code.piece [false, false, false, true, false, true, true] nwBody
def nwr4 : Code := Code.piece [false, false, false, true, false, true, true, true] nwBody
def nwo4 : Array Oper := Code.opsOf nwr4
def nws7 : Code := Code.piece [false, false, false, true, false, true, true, false] nwBody
def nwc20 : Code := Code.piece [false, false, false, true, false, true, true, false, true] nwBody
def nws8 : Code := Code.piece [false, false, false, true, false, true, true, false, false] nwBody
def nwb1 : Code := Code.piece [false, false, false, true, false, true, true, false, false, true] nwBody
def nws9 : Code := Code.piece [false, false, false, true, false, true, true, false, false, true, true] nwBody
def nwr5 : Code := Code.piece [false, false, false, true, false, true, true, false, false, true, true, true] nwBody
def nwo5 : Array Oper := Code.opsOf nwr5
def nws10 : Code := Code.piece [false, false, false, true, false, true, true, false, false, true, true, false] nwBody
def nwr6 : Code := Code.piece [false, false, false, true, false, true, true, false, false, true, true, false, true] nwBody
def nwo6 : Array Oper := Code.opsOf nwr6
def nws11 : Code := Code.piece [false, false, false, true, false, true, true, false, false, true, true, false, false] nwBody
def nwr7 : Code := Code.piece [false, false, false, true, false, true, true, false, false, true, true, false, false, true] nwBody
def nwo7 : Array Oper := Code.opsOf nwr7
def nwr8 : Code := Code.piece [false, false, false, true, false, true, true, false, false, true, true, false, false, false] nwBody
def nwo8 : Array Oper := Code.opsOf nwr8
def nwr9 : Code := Code.piece [false, false, false, true, false, true, true, false, false, false] nwBody
def nwo9 : Array Oper := Code.opsOf nwr9
def nws12 : Code := Code.piece [false, false, false, false] nwBody
def nwr10 : Code := Code.piece [false, false, false, false, true] nwBody
def nwo10 : Array Oper := Code.opsOf nwr10
def nws13 : Code := Code.piece [false, false, false, false, false] nwBody
def nwr11 : Code := Code.piece [false, false, false, false, false, true] nwBody
def nwo11 : Array Oper := Code.opsOf nwr11
theorem nws0_eq : nws0 = .seq nwr0 nws1 := by kernel_rfl
theorem nwr0_eq : nwr0 = .region 0 nwo0 false := by kernel_rfl
theorem nws1_eq : nws1 = .seq nwr1 nws2 := by kernel_rfl
theorem nwr1_eq : nwr1 = .region 1 nwo1 false := by kernel_rfl
theorem nws2_eq : nws2 = .seq nwr2 nws3 := by kernel_rfl
theorem nwr2_eq : nwr2 = .region 2 nwo2 false := by kernel_rfl
theorem nws3_eq : nws3 = .seq nws4 nws12 := by kernel_rfl
theorem nws4_eq : nws4 = .seq nwr3 nwb0 := by kernel_rfl
theorem nwr3_eq : nwr3 = .region 3 nwo3 false := by kernel_rfl
theorem nwb0_eq : nwb0 = .block 0 nwl5 := by kernel_rfl
theorem nwl5_eq : nwl5 = .loop nws6 := by kernel_rfl
theorem nws6_eq : nws6 = .seq nwr4 nws7 := by kernel_rfl
theorem nwr4_eq : nwr4 = .region 4 nwo4 false := by kernel_rfl
theorem nws7_eq : nws7 = .seq nwc20 nws8 := by kernel_rfl
theorem nwc20_eq : nwc20 = .cond (.tmp 20) .skip (.exit 0) := by kernel_rfl
theorem nws8_eq : nws8 = .seq nwb1 nwr9 := by kernel_rfl
theorem nwb1_eq : nwb1 = .block 1 nws9 := by kernel_rfl
theorem nws9_eq : nws9 = .seq nwr5 nws10 := by kernel_rfl
theorem nwr5_eq : nwr5 = .region 5 nwo5 false := by kernel_rfl
theorem nws10_eq : nws10 = .seq nwr6 nws11 := by kernel_rfl
theorem nwr6_eq : nwr6 = .region 6 nwo6 false := by kernel_rfl
theorem nws11_eq : nws11 = .seq nwr7 nwr8 := by kernel_rfl
theorem nwr7_eq : nwr7 = .region 7 nwo7 false := by kernel_rfl
theorem nwr8_eq : nwr8 = .region 8 nwo8 false := by kernel_rfl
theorem nwr9_eq : nwr9 = .region 9 nwo9 false := by kernel_rfl
theorem nws12_eq : nws12 = .seq nwr10 nws13 := by kernel_rfl
theorem nwr10_eq : nwr10 = .region 10 nwo10 false := by kernel_rfl
theorem nws13_eq : nws13 = .seq nwr11 .ret := by kernel_rfl
theorem nwr11_eq : nwr11 = .region 11 nwo11 false := by kernel_rfl
theorem enter_nw (args : Array Value) : Frame.enter Try.prog 16 args .normal = (Go.Conc.base 16).at { tmps := args ++ Array.replicate (39 - args.size) undef, defers := [] } [.code nws0] := enter_at args Try.func16 rfl
theorem callable16 : Callable 16 := callable Try.func16 rfl rfl
def nwT (s : Nat → Value) : Array Value := #[s 0, s 1, s 2, s 3, s 4, s 5, s 6, s 7, s 8, s 9, s 10, s 11, s 12, s 13, s 14, s 15, s 16, s 17, s 18, s 19, s 20, s 21, s 22, s 23, s 24, s 25, s 26, s 27, s 28, s 29, s 30, s 31, s 32, s 33, s 34, s 35, s 36, s 37, s 38]
theorem nwT_of {A : Array Value} (h : A.size = 39) : ∃ s, A = nwT s := by
 obtain ⟨s, hs, _⟩ := arr_lit A h
 exact ⟨s, hs⟩
theorem nw_0 {n : Nat} (hU : Under F n) (hn : n ≤ w.heap.size) {va : Option Addr} {vl vc : Nat} {cs : List Frame} {main : Bool} {Stop : Goroutine → World → Prop}
  (h : ∀ A, Slots 39 A [(0, .slice va vl vc), (3, .pointer (some ⟨w.heap.size, 0, none⟩)), (4, .pointer (some ⟨w.heap.size + 1, 0, none⟩)), (17, .slice va vl vc), (18, .int .i64 vl), (19, .int .i64 (0 : Nat))] → Own Try.prog main F Stop (G ((Go.Conc.base 16).at ⟨A, []⟩ [.code nws6, .inLoop nws6, .inBlock 0, .code nws12]) cs) (((w.alloc (.cells #[.pointer none, .pointer none] 62)).alloc (.cells #[.int .i64 0, .pointer none] 106)).setCell ⟨w.heap.size, 0, none⟩ (.pointer (some ⟨w.heap.size + 1, 0, none⟩)))) :
  Own Try.prog main F Stop (G (Frame.enter Try.prog 16 #[.slice va vl vc] .normal) cs) w := by
 rw [enter_nw]
 walk_nrm
 rw [nws0_eq]
 refine ogS ?_
 rw [nwr0_eq]
 refine ogR ?_
 simp only [nwo0, Code.opsOf, nwr0, Code.piece, nwBody, Try.f16, Option.getD_some, List.size_toArray, List.length_cons, List.length_nil, Nat.reduceAdd, Nat.zero_add, List.range, List.range.loop]
 (refine oW fun dd K hK => ?_; go_simp; refine qT hK ?_; clear hK K)
 refine ogE ?_
 rw [nws1_eq]
 refine ogS ?_
 rw [nwr1_eq]
 refine ogR ?_
 simp only [nwo1, Code.opsOf, nwr1, Code.piece, nwBody, Try.f16, Option.getD_some, List.size_toArray, List.length_cons, List.length_nil, Nat.reduceAdd, Nat.zero_add, List.range, List.range.loop]
 (refine oW fun dd K hK => ?_; go_simp; refine qT hK ?_; clear hK K)
 (refine oW fun dd K hK => ?_; go_simp; refine qA hK hU ?_; clear hK K)
 (refine oW fun dd K hK => ?_; go_simp; refine qT hK ?_; clear hK K)
 (refine oW fun dd K hK => ?_; go_simp; refine qA hK hU ?_; clear hK K)
 iterate 2 (refine oW fun dd K hK => ?_; go_simp; refine qT hK ?_; clear hK K)
 refine ogE ?_
 rw [nws2_eq]
 refine ogS ?_
 rw [nwr2_eq]
 refine ogR ?_
 simp only [nwo2, Code.opsOf, nwr2, Code.piece, nwBody, Try.f16, Option.getD_some, List.size_toArray, List.length_cons, List.length_nil, Nat.reduceAdd, Nat.zero_add, List.range, List.range.loop]
 iterate 4 (refine oW fun dd K hK => ?_; go_simp; refine qT hK ?_; clear hK K)
 have hb0 : BoxP ((w.alloc (.cells #[.pointer none, .pointer none] 62)).alloc (.cells #[.int .i64 0, .pointer none] 106)) (some ⟨w.heap.size + 1, 0, none⟩) := .inr ⟨w.heap.size + 1, #[.int .i64 0, .pointer none], (0, 0), rfl, by have := heap_alloc_new (w.alloc (.cells #[.pointer none, .pointer none] 62)) (.cells #[.int .i64 0, .pointer none] 106); simpa using this, rfl⟩
 have hc0 : ((w.alloc (.cells #[.pointer none, .pointer none] 62)).alloc (.cells #[.int .i64 0, .pointer none] 106)).heap[w.heap.size]? = some (.cells #[.pointer none, .pointer none] 62 (0, 0)) := (heap_alloc_lt _ _ (by simp)).trans (heap_alloc_new _ _)
 refine oc callable47 #[.pointer (some ⟨w.heap.size, 0, none⟩), .pointer (some ⟨w.heap.size + 1, 0, none⟩)] ?_
 refine own_store (v := none) (by simp [World.cell?, hc0]) rfl (by simp [World.frozen?, hc0]) (not_held hU (by simp; omega)) hb0 ?_
 rw [Frame.finish_at]
 walk_nrm
 generalize (((w.alloc (.cells #[.pointer none, .pointer none] 62)).alloc (.cells #[.int .i64 0, .pointer none] 106)).setCell ⟨w.heap.size, 0, none⟩ (.pointer (some ⟨w.heap.size + 1, 0, none⟩))) = W at h ⊢
 refine ogE ?_
 rw [nws3_eq]
 refine ogS ?_
 rw [nws4_eq]
 refine ogS ?_
 rw [nwr3_eq]
 refine ogR ?_
 simp only [nwo3, Code.opsOf, nwr3, Code.piece, nwBody, Try.f16, Option.getD_some, List.size_toArray, List.length_cons, List.length_nil, Nat.reduceAdd, Nat.zero_add, List.range, List.range.loop]
 iterate 3 (refine oW fun dd K hK => ?_; go_simp; refine qT hK ?_; clear hK K)
 refine ogE ?_
 rw [nwb0_eq]
 refine ogB ?_
 rw [nwl5_eq]
 refine ogP ?_
 refine h _ ?_
 exact ⟨rfl, rfl, rfl, rfl, rfl, rfl, rfl, trivial⟩
theorem nw_1 {n : Nat} (hU : Under F n) (hn : n ≤ w.heap.size) {vb vo vl vc qb lb k : Nat} {x v : Int} (hk : k < vl) (hk2 : k < 10000000) (hl : w.heap[lb]? = some (.cells #[.int .i64 x, .pointer none] 106 (0, 0))) (hnl : ¬ held F ⟨lb, 1, none⟩) (cv : w.cell? ⟨vb, vo + k, none⟩ = some (.int .i64 v)) (zv : w.frozen? ⟨vb, vo + k, none⟩ = false) {A : Array Value} (hA : Slots 39 A [(0, .slice (some ⟨vb, vo, none⟩) vl vc), (3, .pointer (some ⟨qb, 0, none⟩)), (4, .pointer (some ⟨lb, 0, none⟩)), (17, .slice (some ⟨vb, vo, none⟩) vl vc), (18, .int .i64 vl), (19, .int .i64 k)]) {cs : List Frame} {main : Bool} {Stop : Goroutine → World → Prop}
  (h : ∀ A, Slots 39 A [(0, .slice (some ⟨vb, vo, none⟩) vl vc), (3, .pointer (some ⟨qb, 0, none⟩)), (4, .pointer (some ⟨w.heap.size, 0, none⟩)), (17, .slice (some ⟨vb, vo, none⟩) vl vc), (18, .int .i64 vl), (19, .int .i64 (k + 1 : Nat))] → Own Try.prog main F Stop (G ((Go.Conc.base 16).at ⟨A, []⟩ [.code nws6, .inLoop nws6, .inBlock 0, .code nws12]) cs) ((w.alloc (.cells #[.int .i64 v, .pointer none] 106)).setCell ⟨lb, 1, none⟩ (.pointer (some ⟨w.heap.size, 0, none⟩)))) :
  Own Try.prog main F Stop (G ((Go.Conc.base 16).at ⟨A, []⟩ [.code nws6, .inLoop nws6, .inBlock 0, .code nws12]) cs) w := by
 obtain ⟨hsz, h0, h3, h4, h17, h18, h19, _⟩ := hA
 obtain ⟨s, rfl⟩ := nwT_of hsz
 change s 0 = _ at h0
 change s 3 = _ at h3
 change s 4 = _ at h4
 change s 17 = _ at h17
 change s 18 = _ at h18
 change s 19 = _ at h19
 clear hsz
 simp only [nwT, h0, h3, h4, h17, h18, h19]
 clear h0 h3 h4 h17 h18 h19
 have hk64 : IntKind.i64.wrap ((k : Int) + 1) = (k : Int) + 1 := IntWalk.i64_in _ (by omega)
 have hlt : decide ((k : Int) < (vl : Int)) = true := by simp; omega
 have hlt2 : decide (k < vl) = true := by simp; omega
 rw [nws6_eq]
 refine ogS ?_
 rw [nwr4_eq]
 refine ogR ?_
 simp only [nwo4, Code.opsOf, nwr4, Code.piece, nwBody, Try.f16, Option.getD_some, List.size_toArray, List.length_cons, List.length_nil, Nat.reduceAdd, Nat.zero_add, List.range, List.range.loop]
 (refine oW fun dd K hK => ?_; go_simp; refine qT hK ?_; clear hK K)
 refine ogE ?_
 rw [nws7_eq]
 refine ogS ?_
 rw [nwc20_eq]
 refine ogT ?_
 simp only [if_true]
 refine ogK ?_
 rw [nws8_eq]
 refine ogS ?_
 rw [nwb1_eq]
 refine ogB ?_
 rw [nws9_eq]
 refine ogS ?_
 rw [nwr5_eq]
 refine ogR ?_
 simp only [nwo5, Code.opsOf, nwr5, Code.piece, nwBody, Try.f16, Option.getD_some, List.size_toArray, List.length_cons, List.length_nil, Nat.reduceAdd, Nat.zero_add, List.range, List.range.loop]
 (refine oW fun dd K hK => ?_; go_simp; refine qX hK ?_; clear hK K)
 (refine oW fun dd K hK => ?_; go_simp; refine qL hK ?_; clear hK K)
 (refine oW fun dd K hK => ?_; go_simp; refine qT hK ?_; clear hK K)
 refine ogE ?_
 rw [nws10_eq]
 refine ogS ?_
 rw [nwr6_eq]
 refine ogR ?_
 simp only [nwo6, Code.opsOf, nwr6, Code.piece, nwBody, Try.f16, Option.getD_some, List.size_toArray, List.length_cons, List.length_nil, Nat.reduceAdd, Nat.zero_add, List.range, List.range.loop]
 iterate 2 (refine oW fun dd K hK => ?_; go_simp; refine qT hK ?_; clear hK K)
 (refine oW fun dd K hK => ?_; go_simp; refine qA hK hU ?_; clear hK K)
 (refine oW fun dd K hK => ?_; go_simp; refine qT hK ?_; clear hK K)
 refine ogE ?_
 rw [nws11_eq]
 refine ogS ?_
 rw [nwr7_eq]
 refine ogR ?_
 simp only [nwo7, Code.opsOf, nwr7, Code.piece, nwBody, Try.f16, Option.getD_some, List.size_toArray, List.length_cons, List.length_nil, Nat.reduceAdd, Nat.zero_add, List.range, List.range.loop]
 iterate 4 (refine oW fun dd K hK => ?_; go_simp; refine qT hK ?_; clear hK K)
 have hb0 : BoxP (w.alloc (.cells #[.int .i64 v, .pointer none] 106)) (some ⟨w.heap.size, 0, none⟩) := .inr ⟨w.heap.size, #[.int .i64 v, .pointer none], (0, 0), rfl, heap_alloc_new _ _, rfl⟩
 have hc0 : (w.alloc (.cells #[.int .i64 v, .pointer none] 106)).heap[lb]? = w.heap[lb]? := heap_alloc_lt _ _ (Array.getElem?_eq_some_iff.1 hl).1
 refine oc callable47 #[.pointer (some ⟨lb, 1, none⟩), .pointer (some ⟨w.heap.size, 0, none⟩)] ?_
 refine own_store (v := none) (by simp [World.cell?, hc0, hl]) rfl (by simp [World.frozen?, hc0, hl]) hnl hb0 ?_
 rw [Frame.finish_at]
 walk_nrm
 refine ogE ?_
 rw [nwr8_eq]
 refine ogR ?_
 simp only [nwo8, Code.opsOf, nwr8, Code.piece, nwBody, Try.f16, Option.getD_some, List.size_toArray, List.length_cons, List.length_nil, Nat.reduceAdd, Nat.zero_add, List.range, List.range.loop]
 iterate 2 (refine oW fun dd K hK => ?_; go_simp; refine qT hK ?_; clear hK K)
 refine ogE ?_
 refine ogI ?_
 rw [nwr9_eq]
 refine ogR ?_
 simp only [nwo9, Code.opsOf, nwr9, Code.piece, nwBody, Try.f16, Option.getD_some, List.size_toArray, List.length_cons, List.length_nil, Nat.reduceAdd, Nat.zero_add, List.range, List.range.loop]
 iterate 2 (refine oW fun dd K hK => ?_; go_simp; refine qT hK ?_; clear hK K)
 refine ogE ?_
 refine ogL ?_
 refine h _ ?_
 exact ⟨rfl, rfl, rfl, rfl, rfl, rfl, rfl, trivial⟩
theorem nw_2 {va : Option Addr} {vl vc qb lb : Nat} {x : Option Addr} (hc : w.cell? ⟨qb, 1, none⟩ = some (.pointer x)) (hz : w.frozen? ⟨qb, 1, none⟩ = false) (hnq : ¬ held F ⟨qb, 1, none⟩) (hb : BoxP w (some ⟨lb, 0, none⟩)) {A : Array Value} (hA : Slots 39 A [(0, .slice va vl vc), (3, .pointer (some ⟨qb, 0, none⟩)), (4, .pointer (some ⟨lb, 0, none⟩)), (17, .slice va vl vc), (18, .int .i64 vl), (19, .int .i64 vl)]) {c : Frame} {cs : List Frame} {main : Bool} {Stop : Goroutine → World → Prop}
  (h : Own Try.prog main F Stop (G (c.finish (.pointer (some ⟨qb, 0, none⟩))) cs) (w.setCell ⟨qb, 1, none⟩ (.pointer (some ⟨lb, 0, none⟩)))) :
  Own Try.prog main F Stop (G ((Go.Conc.base 16).at ⟨A, []⟩ [.code nws6, .inLoop nws6, .inBlock 0, .code nws12]) (c :: cs)) w := by
 obtain ⟨hsz, h0, h3, h4, h17, h18, h19, _⟩ := hA
 obtain ⟨s, rfl⟩ := nwT_of hsz
 change s 0 = _ at h0
 change s 3 = _ at h3
 change s 4 = _ at h4
 change s 17 = _ at h17
 change s 18 = _ at h18
 change s 19 = _ at h19
 clear hsz
 simp only [nwT, h0, h3, h4, h17, h18, h19]
 clear h0 h3 h4 h17 h18 h19
 have hlt : decide ((vl : Int) < (vl : Int)) = false := by simp
 rw [nws6_eq]
 refine ogS ?_
 rw [nwr4_eq]
 refine ogR ?_
 simp only [nwo4, Code.opsOf, nwr4, Code.piece, nwBody, Try.f16, Option.getD_some, List.size_toArray, List.length_cons, List.length_nil, Nat.reduceAdd, Nat.zero_add, List.range, List.range.loop]
 (refine oW fun dd K hK => ?_; go_simp; refine qT hK ?_; clear hK K)
 refine ogE ?_
 rw [nws7_eq]
 refine ogS ?_
 rw [nwc20_eq]
 refine ogF ?_
 simp only [Bool.false_eq_true, if_false]
 refine own_go rfl (fun d => stepG_exit rfl) ?_
 rw [nws12_eq]
 refine ogS ?_
 rw [nwr10_eq]
 refine ogR ?_
 simp only [nwo10, Code.opsOf, nwr10, Code.piece, nwBody, Try.f16, Option.getD_some, List.size_toArray, List.length_cons, List.length_nil, Nat.reduceAdd, Nat.zero_add, List.range, List.range.loop]
 iterate 4 (refine oW fun dd K hK => ?_; go_simp; refine qT hK ?_; clear hK K)
 refine oc callable47 #[.pointer (some ⟨qb, 1, none⟩), .pointer (some ⟨lb, 0, none⟩)] ?_
 refine own_store hc rfl hz hnq hb ?_
 rw [Frame.finish_at]
 walk_nrm
 refine ogE ?_
 rw [nws13_eq]
 refine ogS ?_
 rw [nwr11_eq]
 refine ogR ?_
 simp only [nwo11, Code.opsOf, nwr11, Code.piece, nwBody, Try.f16, Option.getD_some, List.size_toArray, List.length_cons, List.length_nil, Nat.reduceAdd, Nat.zero_add, List.range, List.range.loop]
 iterate 2 (refine oW fun dd K hK => ?_; go_simp; refine qT hK ?_; clear hK K)
 refine ogE ?_
 refine ogX ?_
 refine own_go rfl (fun d => stepG_leave (fn := Try.f16) (v := .pointer (some ⟨qb, 0, none⟩)) rfl rfl Try.func16 (by simp [results, Try.f16]) (by simp [results, Try.f16, go_sem])) ?_
 exact h
end
noncomputable section
variable {w : World}
structure NI (w0 : World) (vs : List Int) (qb k : Nat) (bl : Nat → Nat) (w : World) : Prop where
 size : w0.heap.size ≤ w.heap.size
 old : ∀ r, r < w0.heap.size → w.heap[r]? = w0.heap[r]?
 hq : w.heap[qb]? = some (.cells #[.pointer (some ⟨bl 0, 0, none⟩), .pointer none] 62 (0, 0))
 hb : ∀ j, j ≤ k → w.heap[bl j]? = some (.cells #[.int .i64 (newV vs j), .pointer (if j < k then some ⟨bl (j + 1), 0, none⟩ else none)] 106 (0, 0))
 inj : ∀ i j, i ≤ k → j ≤ k → bl i = bl j → i = j
 lo : w0.heap.size ≤ qb ∧ ∀ j, j ≤ k → w0.heap.size ≤ bl j
theorem NI.ne {w0 : World} {vs : List Int} {qb k : Nat} {bl : Nat → Nat} (h : NI w0 vs qb k bl w) {j : Nat} (hj : j ≤ k) : bl j ≠ qb := by
 intro e
 have h1 := h.hb j hj
 rw [e, h.hq] at h1
 simp only [Option.some.injEq, Obj.cells.injEq] at h1
 exact absurd h1.2.1 (by decide)
theorem NI.done {w0 : World} {vs : List Int} {qb : Nat} {bl : Nat → Nat} (h : NI w0 vs qb vs.length bl w) : QU qb ⟨newRQ vs, (List.range (vs.length + 1)).map bl⟩ (w.setCell ⟨qb, 1, none⟩ (.pointer (some ⟨bl vs.length, 0, none⟩))) := by
 have hbk : ∀ j, j ≤ vs.length → QS.bk ⟨newRQ vs, (List.range (vs.length + 1)).map bl⟩ j = bl j := fun j hj => by
  simp [QS.bk, List.getD_eq_getElem?_getD, List.getElem?_map, List.getElem?_range (show j < vs.length + 1 by omega)]
 have hlen : (newRQ vs).B.length = vs.length + 1 := by simp [newRQ]
 refine ⟨by simp [newRQ], by rw [hlen]; simp [newRQ], by rw [hlen]; simp [newRQ], ?_, ?_, ?_, ?_⟩
 ·intro k v n hk
  simp only at hk ⊢
  rw [hlen]
  simp only [newRQ, List.getElem?_map, Option.map_eq_some_iff, Prod.mk.injEq] at hk
  obtain ⟨a, h1, h2, h3⟩ := hk
  split at h3
  ·simp only [Option.some.injEq] at h3; omega
  ·cases h3
 ·intro k v n hk
  simp only [newRQ, List.getElem?_map, Option.map_eq_some_iff, Prod.mk.injEq] at hk
  obtain ⟨a, h1, rfl, rfl⟩ := hk
  have h4 := List.getElem?_eq_some_iff.1 h1
  obtain ⟨h5, h6⟩ := h4
  simp only [List.length_range, List.getElem_range] at h5 h6
  subst h6
  rw [hbk k (by omega), heap_setCell_ne _ _ _ (h.ne (by omega)), h.hb k (by omega)]
  unfold QS.nv
  split
  ·rename_i h7
   simp only [Option.map_some]
   rw [hbk (k + 1) (by omega)]
  ·rfl
 ·rw [heap_setCell_eq h.hq]
  unfold QS.pt
  show _ = some (Obj.cells #[.pointer (some ⟨QS.bk _ 0, 0, none⟩), .pointer (some ⟨QS.bk _ vs.length, 0, none⟩)] 62 (0, 0))
  rw [hbk 0 (by omega), hbk _ (Nat.le_refl _)]
  rfl
 ·intro j k hj hk e
  simp only at hj hk
  rw [hlen] at hj hk
  rw [hbk j (by omega), hbk k (by omega)] at e
  exact h.inj j k (by omega) (by omega) e
theorem own_new_loop {w0 : World} {vs : List Int} {va : Option Addr} {vb vo vc qb : Nat} (hlen : vs.length < 10000000) (hva : 0 < vs.length → va = some ⟨vb, vo, none⟩) (hvb : 0 < vs.length → vb < w0.heap.size) (hv : ∀ k v, vs[k]? = some v → w0.cell? ⟨vb, vo + k, none⟩ = some (.int .i64 v) ∧ w0.frozen? ⟨vb, vo + k, none⟩ = false) {c : Frame} {cs : List Frame} {main : Bool} {Stop : Goroutine → World → Prop}
  (K : ∀ w' bl, NI w0 vs qb vs.length bl w' → Own Try.prog main F0 Stop (G (c.finish (.pointer (some ⟨qb, 0, none⟩))) cs) (w'.setCell ⟨qb, 1, none⟩ (.pointer (some ⟨bl vs.length, 0, none⟩)))) :
  ∀ (q k : Nat), k + q = vs.length → ∀ (w : World) (bl : Nat → Nat) (A : Array Value), NI w0 vs qb k bl w → Slots 39 A [(0, .slice va vs.length vc), (3, .pointer (some ⟨qb, 0, none⟩)), (4, .pointer (some ⟨bl k, 0, none⟩)), (17, .slice va vs.length vc), (18, .int .i64 vs.length), (19, .int .i64 k)] →
   Own Try.prog main F0 Stop (G ((Go.Conc.base 16).at ⟨A, []⟩ [.code nws6, .inLoop nws6, .inBlock 0, .code nws12]) (c :: cs)) w := by
 have hF : ∀ a : Addr, ¬ held F0 a := fun a h => by obtain ⟨z, hz, _⟩ := h; cases hz
 intro q
 induction q with
 | zero =>
  intro k hk w bl A hN hA
  obtain rfl : k = vs.length := by omega
  have hbx : BoxP w (some ⟨bl vs.length, 0, none⟩) := .inr ⟨_, _, _, rfl, hN.hb _ (Nat.le_refl _), rfl⟩
  exact nw_2 (x := none) (by simp [World.cell?, hN.hq]) (by simp [World.frozen?, hN.hq]) (hF _) hbx hA (K w bl hN)
 | succ q ih =>
  intro k hk w bl A hN hA
  have hkn : k < vs.length := by omega
  obtain rfl := hva (by omega)
  have hvb := hvb (by omega)
  obtain ⟨v, hv1⟩ : ∃ v, vs[k]? = some v := ⟨_, List.getElem?_eq_getElem hkn⟩
  obtain ⟨t1, t2⟩ := hv k v hv1
  have hsz := hN.size
  have hob := hN.old vb hvb
  have hlast := hN.hb k (Nat.le_refl _)
  rw [if_neg (Nat.lt_irrefl k)] at hlast
  refine nw_1 under_F0 (Nat.zero_le _) hkn (by omega) hlast (hF _) (by rw [← t1]; unfold World.cell?; simp only [hob]) (by rw [← t2]; unfold World.frozen?; simp only [hob]) hA fun A2 hA2 => ?_
  have hll := (Array.getElem?_eq_some_iff.1 hlast).1
  have e1 : ∀ r, r < w.heap.size → r ≠ bl k → ((w.alloc (.cells #[.int .i64 v, .pointer none] 106)).setCell ⟨bl k, 1, none⟩ (.pointer (some ⟨w.heap.size, 0, none⟩))).heap[r]? = w.heap[r]? := fun r h1 h2 => (heap_setCell_ne _ _ _ h2).trans (heap_alloc_lt _ _ h1)
  have e2 : ((w.alloc (.cells #[.int .i64 v, .pointer none] 106)).setCell ⟨bl k, 1, none⟩ (.pointer (some ⟨w.heap.size, 0, none⟩))).heap[w.heap.size]? = some (.cells #[.int .i64 v, .pointer none] 106 (0, 0)) := (heap_setCell_ne _ _ _ (show w.heap.size ≠ bl k by omega)).trans (heap_alloc_new _ _)
  have e3 : ((w.alloc (.cells #[.int .i64 v, .pointer none] 106)).setCell ⟨bl k, 1, none⟩ (.pointer (some ⟨w.heap.size, 0, none⟩))).heap[bl k]? = some (.cells #[.int .i64 (newV vs k), .pointer (some ⟨w.heap.size, 0, none⟩)] 106 (0, 0)) := by
   rw [heap_setCell_eq ((heap_alloc_lt _ _ hll).trans hlast)]
   rfl
  have e4 : ((w.alloc (.cells #[.int .i64 v, .pointer none] 106)).setCell ⟨bl k, 1, none⟩ (.pointer (some ⟨w.heap.size, 0, none⟩))).heap.size = w.heap.size + 1 := by simp
  generalize (w.alloc (.cells #[.int .i64 v, .pointer none] 106)).setCell ⟨bl k, 1, none⟩ (.pointer (some ⟨w.heap.size, 0, none⟩)) = W at e1 e2 e3 e4 ⊢
  have hlo := hN.lo
  have hblt : ∀ j, j ≤ k → bl j < w.heap.size := fun j hj => (Array.getElem?_eq_some_iff.1 (hN.hb j hj)).1
  have hqlt := (Array.getElem?_eq_some_iff.1 hN.hq).1
  let bl' : Nat → Nat := fun j => if j = k + 1 then w.heap.size else bl j
  have b1 : bl' (k + 1) = w.heap.size := if_pos rfl
  have b2 : ∀ j, j ≤ k → bl' j = bl j := fun j hj => if_neg (by omega)
  refine ih (k + 1) (by omega) W bl' A2 ⟨by omega, fun r hr => (e1 r (by omega) (by have := hlo.2 k (Nat.le_refl _); omega)).trans (hN.old r hr), ?_, ?_, ?_, hlo.1, ?_⟩ (by rw [b1]; exact hA2)
  ·rw [b2 0 (Nat.zero_le _), e1 qb hqlt (fun e => hN.ne (Nat.le_refl k) e.symm)]
   exact hN.hq
  ·intro j hj
   by_cases h1 : j = k + 1
   ·subst h1
    rw [b1, e2, if_neg (Nat.lt_irrefl _)]
    have : newV vs (k + 1) = v := by simp [newV, List.getD_eq_getElem?_getD, hv1]
    rw [this]
   ·by_cases h2 : j = k
    ·subst h2
     rw [b2 j (Nat.le_refl _), e3, if_pos (by omega), b1]
    ·rw [b2 j (by omega), e1 _ (hblt j (by omega)) (fun e => h2 (hN.inj j k (by omega) (Nat.le_refl _) e)), hN.hb j (by omega), if_pos (by omega), if_pos (by omega), b2 (j + 1) (by omega)]
  ·intro i j hi hj e
   by_cases h1 : i = k + 1
   ·by_cases h2 : j = k + 1
    ·omega
    ·rw [h1, b1, b2 j (by omega)] at e
     have := hblt j (by omega); omega
   ·by_cases h2 : j = k + 1
    ·rw [h2, b1, b2 i (by omega)] at e
     have := hblt i (by omega); omega
    ·rw [b2 i (by omega), b2 j (by omega)] at e
     exact hN.inj i j (by omega) (by omega) e
  ·intro j hj
   by_cases h1 : j = k + 1
   ·rw [h1, b1]; omega
   ·rw [b2 j (by omega)]
    exact hlo.2 j (by omega)
theorem own_new {vs : List Int} {va : Option Addr} {vb vo vc : Nat} (hlen : vs.length < 10000000) (hva : 0 < vs.length → va = some ⟨vb, vo, none⟩) (hvb : 0 < vs.length → vb < w.heap.size) (hv : ∀ k v, vs[k]? = some v → w.cell? ⟨vb, vo + k, none⟩ = some (.int .i64 v) ∧ w.frozen? ⟨vb, vo + k, none⟩ = false) {c : Frame} {cs : List Frame} {main : Bool} {Stop : Goroutine → World → Prop}
  (K : ∀ w' qb bl, QU qb ⟨newRQ vs, bl⟩ w' → w.heap.size ≤ w'.heap.size → (∀ r, r < w.heap.size → w'.heap[r]? = w.heap[r]?) → (∀ r, QR qb ⟨newRQ vs, bl⟩ r → w.heap.size ≤ r) → Own Try.prog main F0 Stop (G (c.finish (.pointer (some ⟨qb, 0, none⟩))) cs) w') :
  Own Try.prog main F0 Stop (G (Frame.enter Try.prog 16 #[.slice va vs.length vc] .normal) (c :: cs)) w := by
 refine nw_0 under_F0 (Nat.zero_le _) fun A hA => ?_
 have h1 : ((w.alloc (.cells #[.pointer none, .pointer none] 62)).alloc (.cells #[.int .i64 0, .pointer none] 106)).heap[w.heap.size]? = some (.cells #[.pointer none, .pointer none] 62 (0, 0)) := (heap_alloc_lt _ _ (by simp)).trans (heap_alloc_new _ _)
 have h2 := new2 w (.cells #[.pointer none, .pointer none] 62) #[.int .i64 0, .pointer none] 106
 refine own_new_loop (w0 := w) (qb := w.heap.size) hlen hva hvb hv (fun w' bl hN => ?_) vs.length 0 (by omega) _ (fun _ => w.heap.size + 1) A ⟨by simp; omega, fun r hr => (heap_setCell_ne _ _ _ (show r ≠ w.heap.size by omega)).trans (old2 _ _ _ hr), ?_, ?_, ?_, Nat.le_refl _, fun j _ => by omega⟩ hA
 ·have hQ := hN.done
  refine K _ _ _ hQ (by simp; exact hN.size) (fun r hr => (heap_setCell_ne _ _ _ (show r ≠ w.heap.size by omega)).trans (hN.old r hr)) ?_
  rintro r (rfl | ⟨k, hk, rfl⟩)
  ·exact Nat.le_refl _
  ·have hk2 : k < vs.length + 1 := by simpa [newRQ] using hk
   have : QS.bk ⟨newRQ vs, (List.range (vs.length + 1)).map bl⟩ k = bl k := by
    simp [QS.bk, List.getD_eq_getElem?_getD, List.getElem?_map, List.getElem?_range hk2]
   rw [this]
   exact hN.lo.2 k (by omega)
 ·rw [heap_setCell_eq h1]
  rfl
 ·intro j hj
  obtain rfl : j = 0 := by omega
  rw [if_neg (Nat.lt_irrefl _)]
  refine (heap_setCell_ne _ _ _ (show w.heap.size + 1 ≠ w.heap.size by omega)).trans (h2.trans ?_)
  simp [newV]
 ·intro i j hi hj _
  omega
end
noncomputable section
variable {F : Fz} {w : World}
def vaBody : Code := Try.f23.body.getD .skip
def vas0 : Code := Code.piece [] vaBody
def var0 : Code := Code.piece [true] vaBody
def vao0 : Array Oper := Code.opsOf var0
def vas1 : Code := Code.piece [false] vaBody
def vas2 : Code := Code.piece [false, true] vaBody
def var1 : Code := Code.piece [false, true, true] vaBody
def vao1 : Array Oper := Code.opsOf var1
def vac6 : Code := Code.piece [false, true, false] vaBody
def vas3 : Code := Code.piece [false, true, false, true] vaBody
def var2 : Code := Code.piece [false, true, false, true, true] vaBody
def vao2 : Array Oper := Code.opsOf var2
def vas4 : Code := Code.piece [false, false] vaBody
def var3 : Code := Code.piece [false, false, true] vaBody
def vao3 : Array Oper := Code.opsOf var3
def vas5 : Code := Code.piece [false, false, false] vaBody
def vas6 : Code := Code.piece [false, false, false, true] vaBody
def var4 : Code := Code.piece [false, false, false, true, true] vaBody
def vao4 : Array Oper := Code.opsOf var4
def vab0 : Code := Code.piece [false, false, false, true, false] vaBody
def val7 : Code := Code.piece [false, false, false, true, false, true] vaBody
def vas8 : Code := Code.piece [false, false, false, true, false, true, true] vaBody
def vas9 : Code := Code.piece [false, false, false, true, false, true, true, true] vaBody
def var5 : Code := Code.piece [false, false, false, true, false, true, true, true, true] vaBody
def vao5 : Array Oper := Code.opsOf var5
def vac15 : Code := Code.piece [false, false, false, true, false, true, true, true, false] vaBody
def vas10 : Code := Code.piece [false, false, false, true, false, true, true, false] vaBody
def vab1 : Code := Code.piece [false, false, false, true, false, true, true, false, true] vaBody
def var7 : Code := Code.piece [false, false, false, true, false, true, true, false, true, true] vaBody
def vao7 : Array Oper := Code.opsOf var7
def var6 : Code := Code.piece [false, false, false, true, false, true, true, false, false] vaBody
def vao6 : Array Oper := Code.opsOf var6
def vas11 : Code := Code.piece [false, false, false, false] vaBody
def var8 : Code := Code.piece [false, false, false, false, true] vaBody
def vao8 : Array Oper := Code.opsOf var8
theorem vas0_eq : vas0 = .seq var0 vas1 := by kernel_rfl
theorem var0_eq : var0 = .region 0 vao0 false := by kernel_rfl
theorem vas1_eq : vas1 = .seq vas2 vas4 := by kernel_rfl
theorem vas2_eq : vas2 = .seq var1 vac6 := by kernel_rfl
theorem var1_eq : var1 = .region 1 vao1 false := by kernel_rfl
theorem vac6_eq : vac6 = .cond (.tmp 6) vas3 .skip := by kernel_rfl
theorem vas3_eq : vas3 = .seq var2 .ret := by kernel_rfl
theorem var2_eq : var2 = .region 2 vao2 false := by kernel_rfl
theorem vas4_eq : vas4 = .seq var3 vas5 := by kernel_rfl
theorem var3_eq : var3 = .region 3 vao3 false := by kernel_rfl
theorem vas5_eq : vas5 = .seq vas6 vas11 := by kernel_rfl
theorem vas6_eq : vas6 = .seq var4 vab0 := by kernel_rfl
theorem var4_eq : var4 = .region 4 vao4 false := by kernel_rfl
theorem vab0_eq : vab0 = .block 0 val7 := by kernel_rfl
theorem val7_eq : val7 = .loop vas8 := by kernel_rfl
theorem vas8_eq : vas8 = .seq vas9 vas10 := by kernel_rfl
theorem vas9_eq : vas9 = .seq var5 vac15 := by kernel_rfl
theorem var5_eq : var5 = .region 5 vao5 false := by kernel_rfl
theorem vac15_eq : vac15 = .cond (.tmp 15) .skip (.exit 0) := by kernel_rfl
theorem vas10_eq : vas10 = .seq vab1 var6 := by kernel_rfl
theorem vab1_eq : vab1 = .block 1 var7 := by kernel_rfl
theorem var7_eq : var7 = .region 7 vao7 false := by kernel_rfl
theorem var6_eq : var6 = .region 6 vao6 false := by kernel_rfl
theorem vas11_eq : vas11 = .seq var8 .ret := by kernel_rfl
theorem var8_eq : var8 = .region 8 vao8 false := by kernel_rfl
theorem enter_va (args : Array Value) : Frame.enter Try.prog 23 args .normal = (Go.Conc.base 23).at { tmps := args ++ Array.replicate (28 - args.size) undef, defers := [] } [.code vas0] := enter_at args Try.func23 rfl
theorem callable23 : Callable 23 := callable Try.func23 rfl rfl
def vaT (s : Nat → Value) : Array Value := #[s 0, s 1, s 2, s 3, s 4, s 5, s 6, s 7, s 8, s 9, s 10, s 11, s 12, s 13, s 14, s 15, s 16, s 17, s 18, s 19, s 20, s 21, s 22, s 23, s 24, s 25, s 26, s 27]
theorem vaT_of {A : Array Value} (h : A.size = 28) : ∃ s, A = vaT s := by
 obtain ⟨s, hs, _⟩ := arr_lit A h
 exact ⟨s, hs⟩
theorem va_0 {qb t : Nat} {hd : Addr} {nx : Option Addr} (hbh : BoxP w (some hd)) (hch : w.cell? ⟨qb, 0, none⟩ = some (.pointer (some hd))) (hbt : BoxP w (some ⟨t, 0, none⟩)) (hct : w.cell? ⟨qb, 0, none⟩ = some (.pointer (some ⟨t, 0, none⟩))) (hbn : BoxP w nx) (hcn : w.cell? ⟨t, 1, none⟩ = some (.pointer nx)) {cs : List Frame} {main : Bool} {Stop : Goroutine → World → Prop}
  (h : ∀ A, Slots 28 A [(3, .slice none 0 0), (4, .pointer nx)] → Own Try.prog main F Stop (G ((Go.Conc.base 23).at ⟨A, []⟩ [.code vas8, .inLoop vas8, .inBlock 0, .code vas11]) cs) w) :
  Own Try.prog main F Stop (G (Frame.enter Try.prog 23 #[.pointer (some ⟨qb, 0, none⟩)] .normal) cs) w := by
 rw [enter_va]
 walk_nrm
 rw [vas0_eq]
 refine ogS ?_
 rw [var0_eq]
 refine ogR ?_
 simp only [vao0, Code.opsOf, var0, Code.piece, vaBody, Try.f23, Option.getD_some, List.size_toArray, List.length_cons, List.length_nil, Nat.reduceAdd, Nat.zero_add, List.range, List.range.loop]
 (refine oW fun dd K hK => ?_; go_simp; refine qT hK ?_; clear hK K)
 refine ogE ?_
 rw [vas1_eq]
 refine ogS ?_
 rw [vas2_eq]
 refine ogS ?_
 rw [var1_eq]
 refine ogR ?_
 simp only [vao1, Code.opsOf, var1, Code.piece, vaBody, Try.f23, Option.getD_some, List.size_toArray, List.length_cons, List.length_nil, Nat.reduceAdd, Nat.zero_add, List.range, List.range.loop]
 (refine oW fun dd K hK => ?_; go_simp; refine qT hK ?_; clear hK K)
 refine oc callable51 #[.pointer (some ⟨qb, 0, none⟩)] ?_
 refine own_no hbh hch ?_
 rw [Frame.finish_at]
 walk_nrm
 refine ogE ?_
 rw [vac6_eq]
 refine ogF ?_
 simp only [Bool.false_eq_true, if_false]
 refine ogK ?_
 rw [vas4_eq]
 refine ogS ?_
 rw [var3_eq]
 refine ogR ?_
 simp only [vao3, Code.opsOf, var3, Code.piece, vaBody, Try.f23, Option.getD_some, List.size_toArray, List.length_cons, List.length_nil, Nat.reduceAdd, Nat.zero_add, List.range, List.range.loop]
 (refine oW fun dd K hK => ?_; go_simp; refine qT hK ?_; clear hK K)
 refine ogE ?_
 rw [vas5_eq]
 refine ogS ?_
 rw [vas6_eq]
 refine ogS ?_
 rw [var4_eq]
 refine ogR ?_
 simp only [vao4, Code.opsOf, var4, Code.piece, vaBody, Try.f23, Option.getD_some, List.size_toArray, List.length_cons, List.length_nil, Nat.reduceAdd, Nat.zero_add, List.range, List.range.loop]
 iterate 3 (refine oW fun dd K hK => ?_; go_simp; refine qT hK ?_; clear hK K)
 refine oc callable52 #[.pointer (some ⟨qb, 0, none⟩)] ?_
 refine own_load hbt hct rfl ?_
 rw [Frame.finish_at]
 walk_nrm
 iterate 2 (refine oW fun dd K hK => ?_; go_simp; refine qT hK ?_; clear hK K)
 refine oc callable52 #[.pointer (some ⟨t, 1, none⟩)] ?_
 refine own_load hbn hcn rfl ?_
 rw [Frame.finish_at]
 walk_nrm
 (refine oW fun dd K hK => ?_; go_simp; refine qT hK ?_; clear hK K)
 refine ogE ?_
 rw [vab0_eq]
 refine ogB ?_
 rw [val7_eq]
 refine ogP ?_
 refine h _ ?_
 exact ⟨rfl, rfl, rfl, trivial⟩
theorem info2 : ∃ i, Try.prog.info? 2 = some i ∧ i.zero = some (.int .i64 0) ∧ i.size = 1 ∧ i.bytes = 8 := by
 have h : (Try.prog.info? 2).map (fun i => (i.size, i.bytes)) = some (1, 8) := by kernel_rfl
 have h0 : (Try.prog.info? 2).bind (·.zero) = some (.int .i64 0) := by kernel_rfl
 obtain ⟨i, hi, h1⟩ := Option.map_eq_some_iff.1 h
 rw [hi] at h0
 simp only [Prod.mk.injEq] at h1
 exact ⟨i, hi, h0, h1.1, h1.2⟩
theorem va_1 {b k base : Nat} {v : Int} {l : Value} {xs : List Value} (hk : k < 10000000) (hbase : base ≤ w.heap.size) (hrow : w.ownsRow base 2 1 l k xs) {nx : Option Addr} (hbn : BoxP w nx) (hbq : w.heap[b]? = some (.cells #[.int .i64 v, .pointer nx] 106 (0, 0))) {A : Array Value} (hA : Slots 28 A [(3, l), (4, .pointer (some ⟨b, 0, none⟩))]) {cs : List Frame} {main : Bool} {Stop : Goroutine → World → Prop}
  (h : ∀ (w' : World) (l' : Value) (A : Array Value), w'.ownsRow base 2 1 l' (k + 1) (xs ++ [.int .i64 v]) → w.heap.size ≤ w'.heap.size → (∀ r, r < w.heap.size → some r ≠ Value.ownBlock l → w'.heap[r]? = w.heap[r]?) → Slots 28 A [(3, l'), (4, .pointer nx)] → Own Try.prog main F0 Stop (G ((Go.Conc.base 23).at ⟨A, []⟩ [.code vas8, .inLoop vas8, .inBlock 0, .code vas11]) cs) w') :
  Own Try.prog main F0 Stop (G ((Go.Conc.base 23).at ⟨A, []⟩ [.code vas8, .inLoop vas8, .inBlock 0, .code vas11]) cs) w := by
 have hU := under_F0
 have hn : 0 ≤ w.heap.size := Nat.zero_le _
 have cb0 : w.cell? ⟨b, 0, none⟩ = some (.int .i64 v) := by simp [World.cell?, hbq]
 have zb0 : w.frozen? ⟨b, 0, none⟩ = false := by simp [World.frozen?, hbq]
 obtain ⟨hsz, h3, h4, _⟩ := hA
 obtain ⟨s, rfl⟩ := vaT_of hsz
 change s 3 = _ at h3
 change s 4 = _ at h4
 clear hsz
 simp only [vaT, h3, h4]
 clear h3 h4
 rw [vas8_eq]
 refine ogS ?_
 rw [vas9_eq]
 refine ogS ?_
 rw [var5_eq]
 refine ogR ?_
 simp only [vao5, Code.opsOf, var5, Code.piece, vaBody, Try.f23, Option.getD_some, List.size_toArray, List.length_cons, List.length_nil, Nat.reduceAdd, Nat.zero_add, List.range, List.range.loop]
 iterate 2 (refine oW fun dd K hK => ?_; go_simp; refine qT hK ?_; clear hK K)
 refine ogE ?_
 rw [vac15_eq]
 refine ogT ?_
 simp only [if_true]
 refine ogK ?_
 rw [vas10_eq]
 refine ogS ?_
 rw [vab1_eq]
 refine ogB ?_
 rw [var7_eq]
 refine ogR ?_
 simp only [vao7, Code.opsOf, var7, Code.piece, vaBody, Try.f23, Option.getD_some, List.size_toArray, List.length_cons, List.length_nil, Nat.reduceAdd, Nat.zero_add, List.range, List.range.loop]
 iterate 4 (refine oW fun dd K hK => ?_; go_simp; refine qT hK ?_; clear hK K)
 (refine oW fun dd K hK => ?_; go_simp; refine qL hK ?_; clear hK K)
 (refine oW fun dd K hK => ?_; go_simp; refine qA hK hU ?_; clear hK K)
 have hrow2 := hrow.alloc (.cells #[.int .i64 v] 2)
 have hcell := cell_one_new w (.int .i64 v) 2
 have hsz : (w.alloc (.cells #[.int .i64 v] 2)).heap.size = w.heap.size + 1 := by simp
 have hold : ∀ r, r < w.heap.size → (w.alloc (.cells #[.int .i64 v] 2)).heap[r]? = w.heap[r]? := fun r hr => heap_alloc_lt _ _ hr
 change Own _ _ _ _ _ (w.alloc (.cells #[.int .i64 v] 2))
 generalize w.alloc (.cells #[.int .i64 v] 2) = W at hrow2 hcell hsz hold ⊢
 obtain ⟨i0, hi0, hz0, hz1, hz2⟩ := info2
 refine own_opm (by decide) ?_
 refine opm_lift (S' := fun _ => false) (px := false) (ready0.shut false) (by simp) rfl rfl rfl (wf_F0 _) (fun d => ?_)
 rw [mask_F0]
 obtain ⟨l', u, hr, hown, hgrow, _⟩ := run_append_own (P := Try.prog) (W.at d) base 22 22 2 i0 _ 1 8 Try.underlying22 hi0 hz0 hz1 hz2 rfl (by decide) l k xs hrow2 ⟨w.heap.size, 0, none⟩ 1 1 [.int .i64 v] rfl hcell (fun q hq => by simp at hq; subst hq; rfl) (by unfold maxLen; omega) (by omega) (by show base ≤ W.heap.size; omega)
 refine ⟨l', u, run_append_op (.tmp 20) (.tmp 25) 22 rfl rfl rfl hr, fun w' hu hg hwf' => ?_⟩
 rw [mask_F0] at hu
 subst hu
 have hsz2 : W.heap.size ≤ u.heap.size := hgrow.size
 have hold2 : ∀ r, r < w.heap.size → some r ≠ Value.ownBlock l → u.heap[r]? = w.heap[r]? := fun r h1 h2 => (hgrow.block r (by show r < W.heap.size; omega) h2).trans (hold r h1)
 have hsz3 : w.heap.size ≤ u.heap.size := by omega
 have hty : ∀ {r : Nat} {cc : Array Value} {z : Nat × Nat}, w.heap[r]? = some (.cells cc 106 z) → u.heap[r]? = some (.cells cc 106 z) := fun hr => (hold2 _ (Array.getElem?_eq_some_iff.1 hr).1 (own_type hrow hr (by decide))).trans hr
 have hbn2 : BoxP u nx := by (rcases hbn with h1 | ⟨b1, c1, z1, h1, h2, h3⟩; exact .inl h1; exact .inr ⟨b1, c1, z1, h1, hty h2, h3⟩)
 have hcn2 : u.cell? ⟨b, 1, none⟩ = some (.pointer nx) := by simp [World.cell?, hty hbq]
 clear hrow2 hcell hsz hold hr hgrow hsz2 hg hwf' hz0 hz1 hz2 hi0
 walk_nrm
 (refine oW fun dd K hK => ?_; go_simp; refine qT hK ?_; clear hK K)
 refine ogE ?_
 refine ogI ?_
 rw [var6_eq]
 refine ogR ?_
 simp only [vao6, Code.opsOf, var6, Code.piece, vaBody, Try.f23, Option.getD_some, List.size_toArray, List.length_cons, List.length_nil, Nat.reduceAdd, Nat.zero_add, List.range, List.range.loop]
 iterate 3 (refine oW fun dd K hK => ?_; go_simp; refine qT hK ?_; clear hK K)
 refine oc callable52 #[.pointer (some ⟨b, 1, none⟩)] ?_
 refine own_load hbn2 hcn2 rfl ?_
 rw [Frame.finish_at]
 walk_nrm
 (refine oW fun dd K hK => ?_; go_simp; refine qT hK ?_; clear hK K)
 refine ogE ?_
 refine ogL ?_
 refine h _ l' _ hown hsz3 hold2 ?_
 exact ⟨rfl, rfl, rfl, trivial⟩
theorem va_2 {l : Value} {A : Array Value} (hA : Slots 28 A [(3, l), (4, .pointer none)]) {c : Frame} {cs : List Frame} {main : Bool} {Stop : Goroutine → World → Prop}
  (h : Own Try.prog main F Stop (G (c.finish l) cs) w) :
  Own Try.prog main F Stop (G ((Go.Conc.base 23).at ⟨A, []⟩ [.code vas8, .inLoop vas8, .inBlock 0, .code vas11]) (c :: cs)) w := by
 obtain ⟨hsz, h3, h4, _⟩ := hA
 obtain ⟨s, rfl⟩ := vaT_of hsz
 change s 3 = _ at h3
 change s 4 = _ at h4
 clear hsz
 simp only [vaT, h3, h4]
 clear h3 h4
 rw [vas8_eq]
 refine ogS ?_
 rw [vas9_eq]
 refine ogS ?_
 rw [var5_eq]
 refine ogR ?_
 simp only [vao5, Code.opsOf, var5, Code.piece, vaBody, Try.f23, Option.getD_some, List.size_toArray, List.length_cons, List.length_nil, Nat.reduceAdd, Nat.zero_add, List.range, List.range.loop]
 iterate 2 (refine oW fun dd K hK => ?_; go_simp; refine qT hK ?_; clear hK K)
 refine ogE ?_
 rw [vac15_eq]
 refine ogF ?_
 simp only [Bool.false_eq_true, if_false]
 refine own_go rfl (fun d => stepG_exit rfl) ?_
 rw [vas11_eq]
 refine ogS ?_
 rw [var8_eq]
 refine ogR ?_
 simp only [vao8, Code.opsOf, var8, Code.piece, vaBody, Try.f23, Option.getD_some, List.size_toArray, List.length_cons, List.length_nil, Nat.reduceAdd, Nat.zero_add, List.range, List.range.loop]
 iterate 2 (refine oW fun dd K hK => ?_; go_simp; refine qT hK ?_; clear hK K)
 refine ogE ?_
 refine ogX ?_
 refine own_go rfl (fun d => stepG_leave (fn := Try.f23) (v := l) rfl rfl Try.func23 (by simp [results, Try.f23]) (by simp [results, Try.f23, go_sem])) ?_
 exact h
end
noncomputable section
variable {F : Fz} {w : World} {qb : Nat} {s : QS}
theorem QU.boxPn (h : QU qb s w) {k : Nat} (hk : k < s.q.B.length) : BoxP w ((s.q.nx k).map fun n => ⟨s.bk n, 0, none⟩) := by
 cases e : s.q.nx k with
 | none => exact .inl rfl
 | some n => exact h.boxP (h.nxlt e)
theorem own_behind_loop (h : QU qb s w) {c : Frame} {cs : List Frame} {main : Bool} {Stop : Goroutine → World → Prop} {n : Nat} (hn : n < 10000000) (K : Own Try.prog main F Stop (G (c.finish (.int .i64 n)) cs) w) :
  ∀ (l : List Nat) (x : Option Nat) (k : Nat) (A : Array Value), Path s.q x l → k + l.length = n → Slots 23 A [(3, .int .i64 k), (4, s.nv x)] → Own Try.prog main F Stop (G ((Go.Conc.base 22).at ⟨A, []⟩ [.code bhs8, .inLoop bhs8, .inBlock 0, .code bhs11]) (c :: cs)) w := by
 intro l
 induction l with
 | nil =>
  intro x k A hP hk hA
  cases hP
  obtain rfl : k = n := by simpa using hk
  exact bh_2 hA K
 | cons j l ih =>
  intro x k A hP hk hA
  cases hP with
  | cons hj hP =>
   simp only [List.length_cons] at hk
   exact bh_1 (by omega) (h.boxPn hj) (h.nc hj) hA fun A2 hA2 => ih _ (k + 1) A2 hP (by omega) hA2
theorem own_behind (h : QU qb s w) {l : List Nat} (hP : Path s.q (s.q.nx s.q.tl) l) (hl : l.length < 10000000) {c : Frame} {cs : List Frame} {main : Bool} {Stop : Goroutine → World → Prop} (K : Own Try.prog main F Stop (G (c.finish (.int .i64 l.length)) cs) w) :
  Own Try.prog main F Stop (G (Frame.enter Try.prog 22 #[.pointer (some ⟨qb, 0, none⟩)] .normal) (c :: cs)) w :=
 bh_0 (h.boxP h.hd) h.hc (h.boxP h.tl) h.tc (h.boxPn h.tl) (h.nc h.tl) fun A hA => own_behind_loop h hl K l _ 0 A hP (by omega) hA
theorem own_values_loop {w0 : World} (h0 : QU qb s w0) {c : Frame} {cs : List Frame} {main : Bool} {Stop : Goroutine → World → Prop} {ls : List Nat} (hn : ls.length < 10000000)
  (K : ∀ w' lv, w0.heap.size ≤ w'.heap.size → (∀ r, r < w0.heap.size → w'.heap[r]? = w0.heap[r]?) → w'.ownsRow w0.heap.size 2 1 lv ls.length (ls.map fun k => .int .i64 (s.q.vl k)) → Own Try.prog main F0 Stop (G (c.finish lv) cs) w') :
  ∀ (l : List Nat) (x : Option Nat) (p : List Nat) (w : World) (lv : Value) (A : Array Value), Path s.q x l → p ++ l = ls → w0.heap.size ≤ w.heap.size → (∀ r, r < w0.heap.size → w.heap[r]? = w0.heap[r]?) → w.ownsRow w0.heap.size 2 1 lv p.length (p.map fun k => .int .i64 (s.q.vl k)) → Slots 28 A [(3, lv), (4, s.nv x)] →
   Own Try.prog main F0 Stop (G ((Go.Conc.base 23).at ⟨A, []⟩ [.code vas8, .inLoop vas8, .inBlock 0, .code vas11]) (c :: cs)) w := by
 intro l
 induction l with
 | nil =>
  intro x p w lv A hP hp hsz hold hrow hA
  cases hP
  obtain rfl : p = ls := by simpa using hp
  exact va_2 hA (K w lv hsz hold hrow)
 | cons j l ih =>
  intro x p w lv A hP hp hsz hold hrow hA
  cases hP with
  | cons hj hP =>
   have h : QU qb s w := h0.same fun r hr => hold r (h0.low hr)
   have hlen : p.length < 10000000 := by rw [← hp] at hn; simp at hn; omega
   refine va_1 hlen hsz hrow (h.boxPn hj) (h.box hj) hA fun w' l' A2 g1 g2 g3 hA2 => ih _ (p ++ [j]) w' l' A2 hP (by simp [hp]) (by omega) (fun r hr => (g3 r (by omega) fun e => by have := (hrow.lt r e.symm).1; omega).trans (hold r hr)) ?_ hA2
   simpa using g1
theorem own_values (h : QU qb s w) {l : List Nat} (hP : Path s.q (s.q.nx s.q.hd) l) (hl : l.length < 10000000) {c : Frame} {cs : List Frame} {main : Bool} {Stop : Goroutine → World → Prop}
  (K : ∀ w' lv, w.heap.size ≤ w'.heap.size → (∀ r, r < w.heap.size → w'.heap[r]? = w.heap[r]?) → w'.ownsRow w.heap.size 2 1 lv l.length (l.map fun k => .int .i64 (s.q.vl k)) → Own Try.prog main F0 Stop (G (c.finish lv) cs) w') :
  Own Try.prog main F0 Stop (G (Frame.enter Try.prog 23 #[.pointer (some ⟨qb, 0, none⟩)] .normal) (c :: cs)) w :=
 va_0 (h.boxP h.hd) h.hc (h.boxP h.hd) h.hc (h.boxPn h.hd) (h.nc h.hd) fun A hA => own_values_loop h hl K l _ [] w _ A hP rfl (Nat.le_refl _) (fun _ _ => rfl) (World.ownsRow_nil _ _ _ _) hA
end
noncomputable section
variable {F : Fz} {w : World}
def staBody : Code := Try.f39.body.getD .skip
def stas0 : Code := Code.piece [] staBody
def star0 : Code := Code.piece [true] staBody
def stao0 : Array Oper := Code.opsOf star0
def stas1 : Code := Code.piece [false] staBody
def star1 : Code := Code.piece [false, true] staBody
def stao1 : Array Oper := Code.opsOf star1
theorem stas0_eq : stas0 = .seq star0 stas1 := by kernel_rfl
theorem star0_eq : star0 = .region 0 stao0 false := by kernel_rfl
theorem stas1_eq : stas1 = .seq star1 .ret := by kernel_rfl
theorem star1_eq : star1 = .region 1 stao1 false := by kernel_rfl
theorem enter_sta (args : Array Value) : Frame.enter Try.prog 39 args .normal = (Go.Conc.base 39).at { tmps := args ++ Array.replicate (9 - args.size) undef, defers := [] } [.code stas0] := enter_at args Try.func39 rfl
theorem callable39 : Callable 39 := callable Try.func39 rfl rfl
def staT (s : Nat → Value) : Array Value := #[s 0, s 1, s 2, s 3, s 4, s 5, s 6, s 7, s 8]
theorem staT_of {A : Array Value} (h : A.size = 9) : ∃ s, A = staT s := by
 obtain ⟨s, hs, _⟩ := arr_lit A h
 exact ⟨s, hs⟩
theorem st_0 {qb : Nat} {cs : List Frame} {main : Bool} {Stop : Goroutine → World → Prop}
  (h : ∀ A, Slots 9 A [(0, .pointer (some ⟨qb, 0, none⟩))] → Own Try.prog main F Stop (G (Frame.enter Try.prog 22 #[.pointer (some ⟨qb, 0, none⟩)] .normal) (((Go.Conc.base 39).at ⟨A, []⟩ [.inRegion stao1 [1, 2, 3, 4, 5, 6], .code .ret]) :: cs)) w) :
  Own Try.prog main F Stop (G (Frame.enter Try.prog 39 #[.pointer (some ⟨qb, 0, none⟩)] .normal) cs) w := by
 rw [enter_sta]
 walk_nrm
 rw [stas0_eq]
 refine ogS ?_
 rw [star0_eq]
 refine ogR ?_
 simp only [stao0, Code.opsOf, star0, Code.piece, staBody, Try.f39, Option.getD_some, List.size_toArray, List.length_cons, List.length_nil, Nat.reduceAdd, Nat.zero_add, List.range, List.range.loop]
 (refine oW fun dd K hK => ?_; go_simp; refine qT hK ?_; clear hK K)
 refine ogE ?_
 rw [stas1_eq]
 refine ogS ?_
 rw [star1_eq]
 refine ogR ?_
 simp only [stao1, Code.opsOf, star1, Code.piece, staBody, Try.f39, Option.getD_some, List.size_toArray, List.length_cons, List.length_nil, Nat.reduceAdd, Nat.zero_add, List.range, List.range.loop]
 (refine oW fun dd K hK => ?_; go_simp; refine qT hK ?_; clear hK K)
 refine oc callable22 #[.pointer (some ⟨qb, 0, none⟩)] ?_
 refine h _ ?_
 exact ⟨rfl, rfl, trivial⟩
theorem st_1 {n : Nat} (hU : Under F n) (hn : n ≤ w.heap.size) {qb : Nat} {bn : Nat} {A : Array Value} (hA : Slots 9 A [(0, .pointer (some ⟨qb, 0, none⟩))]) {cs : List Frame} {main : Bool} {Stop : Goroutine → World → Prop}
  (h : ∀ A, Slots 9 A [(5, .slice (some ⟨w.heap.size, 0, none⟩) 1 1)] → Own Try.prog main F Stop (G (Frame.enter Try.prog 23 #[.pointer (some ⟨qb, 0, none⟩)] .normal) (((Go.Conc.base 39).at ⟨A, []⟩ [.inRegion stao1 [4, 5, 6], .code .ret]) :: cs)) (w.alloc (.cells #[.int .i64 bn] 2))) :
  Own Try.prog main F Stop (G (((Go.Conc.base 39).at ⟨A, []⟩ [.inRegion stao1 [1, 2, 3, 4, 5, 6], .code .ret]).finish (.int .i64 bn)) cs) w := by
 obtain ⟨hsz, h0, _⟩ := hA
 obtain ⟨s, rfl⟩ := staT_of hsz
 change s 0 = _ at h0
 clear hsz
 simp only [staT, h0]
 clear h0
 rw [Frame.finish_at]
 simp only [stao1, Code.opsOf, star1, Code.piece, staBody, Try.f39, Option.getD_some, List.size_toArray, List.length_cons, List.length_nil, Nat.reduceAdd, Nat.zero_add, List.range, List.range.loop]
 walk_nrm
 (refine oW fun dd K hK => ?_; go_simp; refine qA hK hU ?_; clear hK K)
 (refine oW fun dd K hK => ?_; go_simp; refine qT hK ?_; clear hK K)
 refine oc callable23 #[.pointer (some ⟨qb, 0, none⟩)] ?_
 refine h _ ?_
 exact ⟨rfl, rfl, trivial⟩
end
noncomputable section
theorem run_append_room_nil {P : Program} {w : World} (t ty e : TypeId) (i : TypeInfo) (ht : P.underlying t = some (.slice e)) (hi : P.info? e = some i)
  (g sLen sCap : Nat) (cur : Array Value) (hg : w.heap[g]? = some (.cells cur e (0, 0))) (hroom : sLen ≤ sCap) (hfit : sLen * i.size ≤ cur.size) :
  ∃ w', (Builtin.append_ #[t, t] ty #[.slice (some ⟨g, 0, none⟩) sLen sCap, .slice none 0 0]).run P w = .ok (.slice (some ⟨g, 0, none⟩) sLen sCap) w' ∧ w' = w.setRow g (cur.toList.take (sLen * i.size) ++ [] ++ cur.toList.drop (sLen * i.size + 0)).toArray := by
 have hf := run_firstCells_none (P := P) w i.size 0 0 0
 have hst := run_storeCells_at P g (sLen * i.size) e [] 0 cur w hg (by simpa using hfit) (fun u hu => by cases hu)
 simp only [Nat.add_zero] at hst
 refine ⟨_, ?_, rfl⟩
 simp [Builtin.append_, run_underlying ht, sizeOf, typeInfo, hi, Builtin.lenOf, hroom, hf, Addr.add_lit, hst]
end
noncomputable section
variable {w : World}
theorem append_one_row {base ab m : Nat} {x : Value} {lv : Value} {xs : List Value} (hb : base ≤ w.heap.size) (h1 : w.ownsRow base 2 1 (.slice (some ⟨ab, 0, none⟩) 1 1) 1 [x]) (h2 : w.ownsRow base 2 1 lv m xs) (hx : ∀ u ∈ xs, u.oneCell' = true) (hm : m < 10000000) :
  ∃ v' w', (Builtin.append_ #[22, 22] 22 #[.slice (some ⟨ab, 0, none⟩) 1 1, lv]).run Try.prog w = .ok v' w' ∧ w'.ownsRow base 2 1 v' (1 + m) ([x] ++ xs) ∧ w.heap.size ≤ w'.heap.size ∧ ∀ r, r < w.heap.size → r ≠ ab → w'.heap[r]? = w.heap[r]? := by
 obtain ⟨i0, hi0, hz0, hz1, hz2⟩ := info2
 rcases h2.2 with ⟨rfl, rfl⟩ | ⟨g, cap, cur, rfl, _, h3, h4, h5, h6, h7⟩
 ·obtain rfl : xs = [] := List.length_eq_zero_iff.1 (by have := h2.1; omega)
  rcases h1.2 with ⟨h, _⟩ | ⟨g, cap, cur, h, h0, h3, h4, h5, h6, h7⟩
  ·cases h
  ·cases h
   obtain ⟨w', hr, rfl⟩ := run_append_room_nil (P := Try.prog) 22 22 2 i0 Try.underlying22 hi0 ab 1 1 cur h3 (Nat.le_refl _) (by rw [hz1]; omega)
   have e : (cur.toList.take (1 * i0.size) ++ [] ++ cur.toList.drop (1 * i0.size + 0)).toArray = cur := by
    rw [List.append_nil, Nat.add_zero, List.take_append_drop]
   rw [e] at hr
   have hh : (w.setRow ab cur).heap = w.heap := by
    apply Array.ext_getElem?
    intro r
    simp only [World.setRow, Array.getElem?_modify]
    by_cases e1 : ab = r
    ·subst e1
     rw [if_pos rfl, h3]
     rfl
    ·rw [if_neg e1]
   refine ⟨_, _, hr, ?_, by rw [hh]; exact Nat.le_refl _, fun r _ _ => by rw [hh]⟩
   have : (w.setRow ab cur).ownsRow base 2 1 (.slice (some ⟨ab, 0, none⟩) 1 1) 1 [x] := ownsRow_same2 h1 fun b _ _ => by rw [hh]
   simpa using this
 ·obtain ⟨v', w', hr, h8, h9, _⟩ := run_append_own (P := Try.prog) w base 22 22 2 i0 _ 1 8 Try.underlying22 hi0 hz0 hz1 hz2 rfl (by decide) _ 1 [x] h1 ⟨g, 0, none⟩ m cap xs (by rw [h2.1]) (h2.cells rfl) hx (by unfold maxLen; omega) (by omega) hb
  exact ⟨v', w', hr, h8, h9.size, fun r hr1 hr2 => h9.block r hr1 (by simpa [Value.ownBlock] using hr2)⟩
theorem st_2 {base ab m : Nat} {x lv : Value} {xs : List Value} (hb : base ≤ w.heap.size) (h1 : w.ownsRow base 2 1 (.slice (some ⟨ab, 0, none⟩) 1 1) 1 [x]) (h2 : w.ownsRow base 2 1 lv m xs) (hx : ∀ u ∈ xs, u.oneCell' = true) (hm : m < 10000000) {A : Array Value} (hA : Slots 9 A [(5, .slice (some ⟨ab, 0, none⟩) 1 1)]) {c : Frame} {cs : List Frame} {main : Bool} {Stop : Goroutine → World → Prop}
  (h : ∀ w' l', w'.ownsRow base 2 1 l' (1 + m) ([x] ++ xs) → w.heap.size ≤ w'.heap.size → (∀ r, r < w.heap.size → r ≠ ab → w'.heap[r]? = w.heap[r]?) → Own Try.prog main F0 Stop (G (c.finish l') cs) w') :
  Own Try.prog main F0 Stop (G (((Go.Conc.base 39).at ⟨A, []⟩ [.inRegion stao1 [4, 5, 6], .code .ret]).finish lv) (c :: cs)) w := by
 obtain ⟨hsz, h5, _⟩ := hA
 obtain ⟨s, rfl⟩ := staT_of hsz
 change s 5 = _ at h5
 clear hsz
 simp only [staT, h5]
 clear h5
 rw [Frame.finish_at]
 simp only [stao1, Code.opsOf, star1, Code.piece, staBody, Try.f39, Option.getD_some, List.size_toArray, List.length_cons, List.length_nil, Nat.reduceAdd, Nat.zero_add, List.range, List.range.loop]
 walk_nrm
 refine own_opm (by decide) ?_
 refine opm_lift (S' := fun _ => false) (px := false) (ready0.shut false) (by simp) rfl rfl rfl (wf_F0 _) (fun d => ?_)
 rw [mask_F0]
 obtain ⟨l', u, hr, hown, hsz2, hold2⟩ := append_one_row (w := w.at d) hb (ownsRow_same2 h1 fun _ _ _ => rfl) (ownsRow_same2 h2 fun _ _ _ => rfl) hx hm
 refine ⟨l', u, run_append_op (.tmp 5) (.tmp 7) 22 rfl rfl rfl hr, fun w' hu hg hwf' => ?_⟩
 rw [mask_F0] at hu
 subst hu
 walk_nrm
 (refine oW fun dd K hK => ?_; go_simp; refine qT hK ?_; clear hK K)
 refine ogE ?_
 refine ogX ?_
 refine own_go rfl (fun d => stepG_leave (fn := Try.f39) (v := l') rfl rfl Try.func39 (by simp [results, Try.f39]) (by simp [results, Try.f39, go_sem])) ?_
 exact h u l' hown hsz2 hold2
end
noncomputable section
variable {w : World} {qb : Nat} {s : QS}
theorem own_state (h : QU qb s w) {lb lv : List Nat} (hPb : Path s.q (s.q.nx s.q.tl) lb) (hPv : Path s.q (s.q.nx s.q.hd) lv) (hlb : lb.length < 10000000) (hlv : lv.length < 10000000) {c : Frame} {cs : List Frame} {main : Bool} {Stop : Goroutine → World → Prop}
  (K : ∀ w' l', w'.ownsRow w.heap.size 2 1 l' (1 + lv.length) (.int .i64 lb.length :: lv.map fun k => .int .i64 (s.q.vl k)) → w.heap.size ≤ w'.heap.size → (∀ r, r < w.heap.size → w'.heap[r]? = w.heap[r]?) → Own Try.prog main F0 Stop (G (c.finish l') cs) w') :
  Own Try.prog main F0 Stop (G (Frame.enter Try.prog 39 #[.pointer (some ⟨qb, 0, none⟩)] .normal) (c :: cs)) w := by
 refine st_0 fun A hA => own_behind h hPb hlb ?_
 refine st_1 under_F0 (Nat.zero_le _) hA fun A2 hA2 => ?_
 have e1 : ∀ r, r < w.heap.size → (w.alloc (.cells #[.int .i64 lb.length] 2)).heap[r]? = w.heap[r]? := fun r hr => heap_alloc_lt _ _ hr
 have e2 := heap_alloc_new w (.cells #[.int .i64 lb.length] 2)
 have e3 : (w.alloc (.cells #[.int .i64 lb.length] 2)).heap.size = w.heap.size + 1 := by simp
 generalize w.alloc (.cells #[.int .i64 lb.length] 2) = W at e1 e2 e3 ⊢
 have hW : QU qb s W := h.same fun r hr => e1 r (h.low hr)
 refine own_values hW hPv hlv fun w' lv' g1 g2 g3 => ?_
 have hr1 : w'.ownsRow w.heap.size 2 1 (.slice (some ⟨w.heap.size, 0, none⟩) 1 1) 1 [.int .i64 lb.length] :=
  ⟨rfl, .inr ⟨w.heap.size, 1, _, rfl, Nat.le_refl _, (g2 _ (by omega)).trans e2, Nat.le_refl _, by decide, rfl, rfl⟩⟩
 exact st_2 (by omega) hr1 (ownsRow_mono_base (by omega) g3) (fun u hu => by
  obtain ⟨k, _, rfl⟩ := List.mem_map.1 hu; rfl) hlv hA2 fun w2 l' k1 k2 k3 => K w2 l' k1 (by omega) fun r hr => ((k3 r (by omega) (by omega)).trans (g2 r (by omega))).trans (e1 r hr)
end
noncomputable section
variable {F : Fz} {w : World}
def plBody : Code := Try.f14.body.getD .skip
def pls0 : Code := Code.piece [] plBody
def plr0 : Code := Code.piece [true] plBody
def plo0 : Array Oper := Code.opsOf plr0
def pls1 : Code := Code.piece [false] plBody
def plr1 : Code := Code.piece [false, true] plBody
def plo1 : Array Oper := Code.opsOf plr1
def pls2 : Code := Code.piece [false, false] plBody
def plr2 : Code := Code.piece [false, false, true] plBody
def plo2 : Array Oper := Code.opsOf plr2
def pls3 : Code := Code.piece [false, false, false] plBody
def plr3 : Code := Code.piece [false, false, false, true] plBody
def plo3 : Array Oper := Code.opsOf plr3
def pls4 : Code := Code.piece [false, false, false, false] plBody
def plr4 : Code := Code.piece [false, false, false, false, true] plBody
def plo4 : Array Oper := Code.opsOf plr4
theorem pls0_eq : pls0 = .seq plr0 pls1 := by kernel_rfl
theorem plr0_eq : plr0 = .region 0 plo0 false := by kernel_rfl
theorem pls1_eq : pls1 = .seq plr1 pls2 := by kernel_rfl
theorem plr1_eq : plr1 = .region 1 plo1 false := by kernel_rfl
theorem pls2_eq : pls2 = .seq plr2 pls3 := by kernel_rfl
theorem plr2_eq : plr2 = .region 2 plo2 false := by kernel_rfl
theorem pls3_eq : pls3 = .seq plr3 pls4 := by kernel_rfl
theorem plr3_eq : plr3 = .region 3 plo3 false := by kernel_rfl
theorem pls4_eq : pls4 = .seq plr4 .ret := by kernel_rfl
theorem plr4_eq : plr4 = .region 4 plo4 false := by kernel_rfl
theorem enter_pl (args : Array Value) : Frame.enter Try.prog 14 args .normal = (Go.Conc.base 14).at { tmps := args ++ Array.replicate (23 - args.size) undef, defers := [] } [.code pls0] := enter_at args Try.func14 rfl
theorem callable14 : Callable 14 := callable Try.func14 rfl rfl
def plT (s : Nat → Value) : Array Value := #[s 0, s 1, s 2, s 3, s 4, s 5, s 6, s 7, s 8, s 9, s 10, s 11, s 12, s 13, s 14, s 15, s 16, s 17, s 18, s 19, s 20, s 21, s 22]
theorem plT_of {A : Array Value} (h : A.size = 23) : ∃ s, A = plT s := by
 obtain ⟨s, hs, _⟩ := arr_lit A h
 exact ⟨s, hs⟩
theorem pl_0 {n : Nat} (hU : Under F n) (hn : n ≤ w.heap.size) {va ta sa : Option Addr} {vl vc tl tc sl sc : Nat} {mo : Int} {cs : List Frame} {main : Bool} {Stop : Goroutine → World → Prop}
  (h : ∀ A, Slots 23 A [(0, .slice va vl vc), (1, .slice ta tl tc), (2, .slice sa sl sc), (3, .int .i64 mo), (8, .pointer (some ⟨w.heap.size, 0, none⟩))] → Own Try.prog main F Stop (G (Frame.enter Try.prog 16 #[.slice va vl vc] .normal) (((Go.Conc.base 14).at ⟨A, []⟩ [.inRegion plo1 [1, 2], .code pls2]) :: cs)) (w.alloc (.cells #[.slice none 0 0, .slice none 0 0, .slice none 0 0, .bool false] 29))) :
  Own Try.prog main F Stop (G (Frame.enter Try.prog 14 #[.slice va vl vc, .slice ta tl tc, .slice sa sl sc, .int .i64 mo] .normal) cs) w := by
 rw [enter_pl]
 walk_nrm
 rw [pls0_eq]
 refine ogS ?_
 rw [plr0_eq]
 refine ogR ?_
 simp only [plo0, Code.opsOf, plr0, Code.piece, plBody, Try.f14, Option.getD_some, List.size_toArray, List.length_cons, List.length_nil, Nat.reduceAdd, Nat.zero_add, List.range, List.range.loop]
 (refine oW fun dd K hK => ?_; go_simp; refine qA hK hU ?_; clear hK K)
 refine ogE ?_
 rw [pls1_eq]
 refine ogS ?_
 rw [plr1_eq]
 refine ogR ?_
 simp only [plo1, Code.opsOf, plr1, Code.piece, plBody, Try.f14, Option.getD_some, List.size_toArray, List.length_cons, List.length_nil, Nat.reduceAdd, Nat.zero_add, List.range, List.range.loop]
 (refine oW fun dd K hK => ?_; go_simp; refine qT hK ?_; clear hK K)
 refine oc callable16 #[.slice va vl vc] ?_
 refine h _ ?_
 exact ⟨rfl, rfl, rfl, rfl, rfl, rfl, trivial⟩
theorem pl_1 {qb rb : Nat} {va ta sa : Option Addr} {vl vc tl tc sl sc : Nat} {mo : Int} {A : Array Value} (hA : Slots 23 A [(0, .slice va vl vc), (1, .slice ta tl tc), (2, .slice sa sl sc), (3, .int .i64 mo), (8, .pointer (some ⟨rb, 0, none⟩))]) {cs : List Frame} {main : Bool} {Stop : Goroutine → World → Prop}
  (h : ∀ A, Slots 23 A [(8, .pointer (some ⟨rb, 0, none⟩)), (9, .pointer (some ⟨qb, 0, none⟩))] → Own Try.prog main F Stop (G (Frame.enter Try.prog 37 #[.slice ta tl tc, .func (.func 38) #[.pointer (some ⟨qb, 0, none⟩)] #[], .slice sa sl sc, .int .i64 mo] .normal) (((Go.Conc.base 14).at ⟨A, []⟩ [.inRegion plo2 [5, 6, 7], .code pls3]) :: cs)) w) :
  Own Try.prog main F Stop (G (((Go.Conc.base 14).at ⟨A, []⟩ [.inRegion plo1 [1, 2], .code pls2]).finish (.pointer (some ⟨qb, 0, none⟩))) cs) w := by
 obtain ⟨hsz, h0, h1, h2, h3, h8, _⟩ := hA
 obtain ⟨s, rfl⟩ := plT_of hsz
 change s 0 = _ at h0
 change s 1 = _ at h1
 change s 2 = _ at h2
 change s 3 = _ at h3
 change s 8 = _ at h8
 clear hsz
 simp only [plT, h0, h1, h2, h3, h8]
 clear h0 h1 h2 h3 h8
 rw [Frame.finish_at]
 simp only [plo1, Code.opsOf, plr1, Code.piece, plBody, Try.f14, Option.getD_some, List.size_toArray, List.length_cons, List.length_nil, Nat.reduceAdd, Nat.zero_add, List.range, List.range.loop]
 walk_nrm
 (refine oW fun dd K hK => ?_; go_simp; refine qT hK ?_; clear hK K)
 refine ogE ?_
 rw [pls2_eq]
 refine ogS ?_
 rw [plr2_eq]
 refine ogR ?_
 simp only [plo2, Code.opsOf, plr2, Code.piece, plBody, Try.f14, Option.getD_some, List.size_toArray, List.length_cons, List.length_nil, Nat.reduceAdd, Nat.zero_add, List.range, List.range.loop]
 iterate 5 (refine oW fun dd K hK => ?_; go_simp; refine qT hK ?_; clear hK K)
 refine oc callable37 #[.slice ta tl tc, .func (.func 38) #[.pointer (some ⟨qb, 0, none⟩)] #[], .slice sa sl sc, .int .i64 mo] ?_
 refine h _ ?_
 exact ⟨rfl, rfl, rfl, trivial⟩
end
noncomputable section
variable {F : Fz} {w : World}
theorem tr_new (X : World) (x y z u x' y' z' u' : Value) : ((((X.alloc (.cells #[x, y, z, u] 29)).setCell ⟨X.heap.size, 0, none⟩ x').setCell ⟨X.heap.size, 1, none⟩ y').setCell ⟨X.heap.size, 2, none⟩ z').setCell ⟨X.heap.size, 3, none⟩ u' = X.alloc (.cells #[x', y', z', u'] 29) := by go_simp
theorem pl_2 {n : Nat} (hU : Under F n) (hn : n ≤ w.heap.size) {qb rb : Nat} {aa oa : Option Addr} {al ac ol oc : Nat} {st : Bool} {A : Array Value} (hA : Slots 23 A [(8, .pointer (some ⟨rb, 0, none⟩)), (9, .pointer (some ⟨qb, 0, none⟩))]) {cs : List Frame} {main : Bool} {Stop : Goroutine → World → Prop}
  (h : ∀ A, Slots 23 A [(8, .pointer (some ⟨rb, 0, none⟩)), (10, .pointer (some ⟨w.heap.size, 0, none⟩))] → Own Try.prog main F Stop (G (Frame.enter Try.prog 39 #[.pointer (some ⟨qb, 0, none⟩)] .normal) (((Go.Conc.base 14).at ⟨A, []⟩ [.inRegion plo3 [1, 2, 3], .code pls4]) :: cs)) (w.alloc (.cells #[.slice aa al ac, .slice oa ol oc, .slice none 0 0, .bool st] 29))) :
  Own Try.prog main F Stop (G (((Go.Conc.base 14).at ⟨A, []⟩ [.inRegion plo2 [5, 6, 7], .code pls3]).finish (.agg #[.slice aa al ac, .slice oa ol oc, .slice none 0 0, .bool st])) cs) w := by
 obtain ⟨hsz, h8, h9, _⟩ := hA
 obtain ⟨s, rfl⟩ := plT_of hsz
 change s 8 = _ at h8
 change s 9 = _ at h9
 clear hsz
 simp only [plT, h8, h9]
 clear h8 h9
 rw [Frame.finish_at]
 simp only [plo2, Code.opsOf, plr2, Code.piece, plBody, Try.f14, Option.getD_some, List.size_toArray, List.length_cons, List.length_nil, Nat.reduceAdd, Nat.zero_add, List.range, List.range.loop]
 walk_nrm
 (refine oW fun dd K hK => ?_; go_simp; refine qA hK hU ?_; clear hK K)
 (refine oW fun dd K hK => ?_; go_simp; refine hK _ _ ⟨⟨⟨0, grew4 (fun k => not_held hU (show n ≤ w.heap.size by omega)) _ _ _ _⟩, fun e he => by (have hm := mem_listed he; clear he hK; simp [go_sem, storedEv] at hm; rcases hm with rfl | rfl | rfl | rfl <;> exact evT_write _ _ ((fun k => not_held hU (show n ≤ w.heap.size by omega)) _))⟩, ?_⟩; clear hK K; simp only [setCell_at']; refine Own.at ?_ dd)
 have e1 := tr_new w (.slice none 0 0) (.slice none 0 0) (.slice none 0 0) (.bool false) (.slice aa al ac) (.slice oa ol oc) (.slice none 0 0) (.bool st)
 rw [e1]
 clear e1
 refine ogE ?_
 rw [pls3_eq]
 refine ogS ?_
 rw [plr3_eq]
 refine ogR ?_
 simp only [plo3, Code.opsOf, plr3, Code.piece, plBody, Try.f14, Option.getD_some, List.size_toArray, List.length_cons, List.length_nil, Nat.reduceAdd, Nat.zero_add, List.range, List.range.loop]
 (refine oW fun dd K hK => ?_; go_simp; refine qT hK ?_; clear hK K)
 refine Go.Proofs.Ytcejbandeikdjaa.oc callable39 #[.pointer (some ⟨qb, 0, none⟩)] ?_
 refine h _ ?_
 exact ⟨rfl, rfl, rfl, trivial⟩
end
noncomputable section
variable {F : Fz} {w : World}
theorem pl_3 {rb tb : Nat} {aa oa : Option Addr} {al ac ol oc xl xc : Nat} {xa : Option Addr} {st : Bool} {y0 y1 y2 y3 : Value} (hne : rb ≠ tb) (hR : TrAt w rb y0 y1 y2 y3) (hT : TrAt w tb (.slice aa al ac) (.slice oa ol oc) (.slice none 0 0) (.bool st)) (hnr : ∀ k, ¬ held F ⟨rb, k, none⟩) (hnt : ∀ k, ¬ held F ⟨tb, k, none⟩) {A : Array Value} (hA : Slots 23 A [(8, .pointer (some ⟨rb, 0, none⟩)), (10, .pointer (some ⟨tb, 0, none⟩))]) {c : Frame} {cs : List Frame} {main : Bool} {Stop : Goroutine → World → Prop}
  (h : Own Try.prog main F Stop (G (c.finish (.agg #[.slice aa al ac, .slice oa ol oc, .slice xa xl xc, .bool st])) cs) (trW (w.setCell ⟨tb, 2, none⟩ (.slice xa xl xc)) rb (.slice aa al ac) (.slice oa ol oc) (.slice xa xl xc) (.bool st))) :
  Own Try.prog main F Stop (G (((Go.Conc.base 14).at ⟨A, []⟩ [.inRegion plo3 [1, 2, 3], .code pls4]).finish (.slice xa xl xc)) (c :: cs)) w := by
 obtain ⟨hsz, h8, h10, _⟩ := hA
 obtain ⟨s, rfl⟩ := plT_of hsz
 change s 8 = _ at h8
 change s 10 = _ at h10
 clear hsz
 simp only [plT, h8, h10]
 clear h8 h10
 rw [Frame.finish_at]
 simp only [plo3, Code.opsOf, plr3, Code.piece, plBody, Try.f14, Option.getD_some, List.size_toArray, List.length_cons, List.length_nil, Nat.reduceAdd, Nat.zero_add, List.range, List.range.loop]
 walk_nrm
 (refine oW fun dd K hK => ?_; go_simp; refine qT hK ?_; clear hK K)
 (refine oW fun dd K hK => ?_; have hc2 := (hT.at dd).c2; have hz0 := (hT.at dd).z; go_simp; refine hK _ _ ⟨⟨⟨0, grew_setCell rfl (hnt 2) _⟩, fun e he => by (have hm := mem_listed he; clear he hK; simp [go_sem, storedEv, hc2, hz0] at hm; subst hm; exact evT_write _ _ (hnt 2))⟩, ?_⟩; clear hK K hc2 hz0; rw [setCell_at']; refine Own.at ?_ dd)
 have hT2 : TrAt (w.setCell ⟨tb, 2, none⟩ (.slice xa xl xc)) tb (.slice aa al ac) (.slice oa ol oc) (.slice xa xl xc) (.bool st) := ⟨by rw [heap_setCell_eq hT.o]; rfl⟩
 have hR2 : TrAt (w.setCell ⟨tb, 2, none⟩ (.slice xa xl xc)) rb y0 y1 y2 y3 := ⟨(heap_setCell_ne _ _ _ hne).trans hR.o⟩
 generalize w.setCell ⟨tb, 2, none⟩ (.slice xa xl xc) = W at hT2 hR2 h ⊢
 refine ogE ?_
 rw [pls4_eq]
 refine ogS ?_
 rw [plr4_eq]
 refine ogR ?_
 simp only [plo4, Code.opsOf, plr4, Code.piece, plBody, Try.f14, Option.getD_some, List.size_toArray, List.length_cons, List.length_nil, Nat.reduceAdd, Nat.zero_add, List.range, List.range.loop]
 (refine oW fun dd K hK => ?_; have hc0 := (hT2.at dd).c0; have hc1 := (hT2.at dd).c1; have hc2 := (hT2.at dd).c2; have hc3 := (hT2.at dd).c3; have hz0 := (hT2.at dd).z; go_simp; refine hK _ _ ⟨⟨⟨0, Grew.refl _ _⟩, fun e he => by (have hm := mem_listed he; clear he hK; simp [go_sem, hc0, hc1, hc2, hc3, hz0] at hm; rcases hm with rfl | rfl | rfl | rfl <;> exact evT_read _ _)⟩, Own.at ?_ dd⟩; clear hK K hc0 hc1 hc2 hc3 hz0)
 (refine oW fun dd K hK => ?_; have hc0 := (hR2.at dd).c0; have hc1 := (hR2.at dd).c1; have hc2 := (hR2.at dd).c2; have hc3 := (hR2.at dd).c3; have hz0 := (hR2.at dd).z; go_simp; refine hK _ _ ⟨⟨⟨0, grew4 hnr _ _ _ _⟩, fun e he => by (have hm := mem_listed he; clear he hK; simp [go_sem, storedEv, hc0, hc1, hc2, hc3, hz0] at hm; rcases hm with rfl | rfl | rfl | rfl <;> exact evT_write _ _ (hnr _))⟩, ?_⟩; clear hK K hc0 hc1 hc2 hc3 hz0; simp only [setCell_at']; refine Own.at ?_ dd)
 refine ogE ?_
 refine ogX ?_
 have hT3 := hR2.put (.slice aa al ac) (.slice oa ol oc) (.slice xa xl xc) (.bool st)
 change Own _ _ _ _ _ (trW W rb (.slice aa al ac) (.slice oa ol oc) (.slice xa xl xc) (.bool st))
 generalize (trW W rb (.slice aa al ac) (.slice oa ol oc) (.slice xa xl xc) (.bool st)) = V at hT3 h ⊢
 have hc0 := hT3.c0
 have hc1 := hT3.c1
 have hc2 := hT3.c2
 have hc3 := hT3.c3
 have hz0 := hT3.z
 refine own_leave (fn := Try.f14) (v := .agg #[.slice aa al ac, .slice oa ol oc, .slice xa xl xc, .bool st]) rfl rfl Try.func14 (fun d => by simp [results, Try.f14, go_sem, hc0, hc1, hc2, hc3, hz0]) (fun d e he => by simp [results, Try.f14, go_sem, hc0, hc1, hc2, hc3, hz0] at he; rcases he with rfl | rfl | rfl | rfl <;> exact evT_read _ _) ?_
 exact h
end
noncomputable section
variable {An : Anchor} {w w' : World}
theorem OpsIn.later {N N' : Nat → Prop} {n tb o tl : Nat} {ta : Option Addr} {oa : Nat → Option Addr} {ol oc : Nat → Nat} {ops : Nat → List Op4} {S : List Int} {sa : Option Addr} (h : OpsIn w N n tb o tl ta oa ol oc ops S sa) (hs : w.heap.size ≤ w'.heap.size) (hold : ∀ r, r < w.heap.size → w'.heap[r]? = w.heap[r]?) (hN : ∀ r, N' r → w.heap.size ≤ r) : OpsIn w' N' n tb o tl ta oa ol oc ops S sa := by
 have hc : ∀ {a : Addr} {v : Value}, w.cell? a = some v → w'.cell? a = some v ∧ w'.frozen? a = w.frozen? a := fun {a v} h => by
  obtain ⟨c, e, z, ho⟩ := cell_block h
  have e1 := hold _ (Array.getElem?_eq_some_iff.1 ho).1
  exact ⟨by rw [← h]; unfold World.cell?; simp only [e1], by unfold World.frozen?; simp only [e1]⟩
 refine ⟨h.hn, h.hta, fun hp => by have := h.htb hp; omega, fun j hj => ?_, h.hlen, fun j hj k x hx => ?_, h.hsl, fun hp => ?_⟩
 ·obtain ⟨h1, h2, h3⟩ := h.hth j hj
  exact ⟨(hc h1).1, (hc h1).2.trans h2, h3⟩
 ·obtain ⟨opb, oo, h1, h2, f0, f1, f2, f3, g0, g1, g2, g3⟩ := h.hop j hj k x hx
  obtain ⟨c, e, z, ho⟩ := cell_block f0
  have hlt := (Array.getElem?_eq_some_iff.1 ho).1
  exact ⟨opb, oo, h1, fun hn => by have := hN _ hn; simp only at hlt; omega, (hc f0).1, (hc f1).1, (hc f2).1, (hc f3).1, (hc f0).2.trans g0, (hc f1).2.trans g1, (hc f2).2.trans g2, (hc f3).2.trans g3⟩
 ·obtain ⟨sb, so, c, e, z, h1, h2, h3, h4⟩ := h.hS hp
  have hlt := (Array.getElem?_eq_some_iff.1 h3).1
  exact ⟨sb, so, c, e, z, h1, fun hn => by have := hN _ hn; omega, (hold _ hlt).trans h3, h4⟩
theorem abs_x00 {qb : Nat} {s0 : QS} : absX (x00 (L := QLay qb) s0) = ⟨s0.q, fun _ => ⟨0, none, []⟩⟩ := rfl
structure PlayU (w : World) (n : Nat) (s : PS) (lb : Nat) (vals : List Int) (order : List Nat) (aa : Nat) (ov sv : Value) (w' : World) : Prop where
 size : w.heap.size ≤ w'.heap.size
 old : ∀ (r : Nat) (c : Array Value) (e : TypeId) (z : Nat × Nat), w.heap[r]? = some (.cells c e z) → w'.heap[r]? = some (.cells c e z)
 arr : ∃ c, w'.heap[aa]? = some (.cells c 84 (0, 0)) ∧ c.size = n ∧ ∀ i, i < n → ∃ v, c[i]? = some v ∧ (s.th i).ans.length ≤ 65536 ∧ w'.ownsRow 0 46 3 v (s.th i).ans.length (ansC (s.th i).ans)
 ord : w'.ownsRow w.heap.size 3 1 ov order.length (order.map fun i : Nat => Value.int .i64 i)
 st : w'.ownsRow w.heap.size 2 1 sv (1 + vals.length) (.int .i64 lb :: vals.map fun v => .int .i64 v)
theorem own_off {base n size : Nat} {e : TypeId} {v : Value} {xs : List Value} (h : w.ownsRow base e size v n xs) (hs : ∀ b c, w.heap[b]? = some (.cells c e (0, 0)) → base ≤ b → w'.heap[b]? = w.heap[b]?) : w'.ownsRow base e size v n xs := by
 refine ⟨h.1, ?_⟩
 rcases h.2 with h2 | ⟨b, cap, cur, rfl, h3, h4, h5⟩
 ·exact .inl h2
 ·exact .inr ⟨b, cap, cur, rfl, h3, (hs b cur h4 h3).trans h4, h5⟩
set_option maxHeartbeats 1000000 in
theorem bes_play {vs : List Int} {va : Option Addr} {vb vo vc : Nat} (hlen : vs.length < 10000000) (hva : 0 < vs.length → va = some ⟨vb, vo, none⟩) (hvb : 0 < vs.length → vb < w.heap.size) (hv : ∀ k v, vs[k]? = some v → w.cell? ⟨vb, vo + k, none⟩ = some (.int .i64 v) ∧ w.frozen? ⟨vb, vo + k, none⟩ = false)
  {n tb o tl tc sc M : Nat} {mo : Int} {ta sa : Option Addr} {oa : Nat → Option Addr} {ol oc : Nat → Nat} {ops : Nat → List Op4} {S : List Int} (hI : OpsIn w (fun _ => False) n tb o tl ta oa ol oc ops S sa) (hM : min (max mo 0) 1048576 = (M : Int)) {c : Frame} {cs : List Frame} {Stop : Goroutine → World → Prop}
  (hP : ∀ s order, pDone n M (s, order) → (∃ k, ∀ f, k ≤ f → pOver ops n M S f (q00 vs) = (s, order)) → ∃ lb lv, Path s.q (s.q.nx s.q.tl) lb ∧ Path s.q (s.q.nx s.q.hd) lv ∧ lb.length < 10000000 ∧ lv.length < 10000000 ∧
   ∀ aa oa' oc' xa xc w', PlayU w n s lb.length (lv.map s.q.vl) order aa (.slice oa' order.length oc') (.slice xa (1 + lv.length) xc) w' →
    Bes An Try.prog Stop (G (c.finish (.agg #[.slice (some ⟨aa, 0, none⟩) n n, .slice oa' order.length oc', .slice xa (1 + lv.length) xc, .bool (decide (0 < cnt s.live n))])) cs) w') :
  Bes An Try.prog Stop (G (Frame.enter Try.prog 14 #[.slice va vs.length vc, .slice ta tl tc, .slice sa S.length sc, .int .i64 mo] .normal) (c :: cs)) w := by
 have hF : ∀ a : Addr, ¬ held F0 a := fun a h => by obtain ⟨z, hz, _⟩ := h; cases hz
 have hrow0 : ∀ r, r < w.heap.size → (w.alloc (.cells #[.slice none 0 0, .slice none 0 0, .slice none 0 0, .bool false] 29)).heap[r]? = w.heap[r]? := fun r hr => heap_alloc_lt _ _ hr
 have hs0 : (w.alloc (.cells #[.slice none 0 0, .slice none 0 0, .slice none 0 0, .bool false] 29)).heap.size = w.heap.size + 1 := by simp
 have htr : TrAt (w.alloc (.cells #[.slice none 0 0, .slice none 0 0, .slice none 0 0, .bool false] 29)) w.heap.size (.slice none 0 0) (.slice none 0 0) (.slice none 0 0) (.bool false) := ⟨heap_alloc_new _ _⟩
 refine bes_own (F := F0) (Stop := fun a u => ∃ A qb bl, a = G (Frame.enter Try.prog 37 #[.slice ta tl tc, .func (.func 38) #[.pointer (some ⟨qb, 0, none⟩)] #[], .slice sa S.length sc, .int .i64 mo] .normal) (((Go.Conc.base 14).at ⟨A, []⟩ [.inRegion plo2 [5, 6, 7], .code pls3]) :: c :: cs) ∧
   Slots 23 A [(8, .pointer (some ⟨w.heap.size, 0, none⟩)), (9, .pointer (some ⟨qb, 0, none⟩))] ∧ QU qb ⟨newRQ vs, bl⟩ u ∧ w.heap.size + 1 ≤ u.heap.size ∧ (∀ r, r < w.heap.size + 1 → u.heap[r]? = (w.alloc (.cells #[.slice none 0 0, .slice none 0 0, .slice none 0 0, .bool false] 29)).heap[r]?) ∧ ∀ r, QR qb ⟨newRQ vs, bl⟩ r → w.heap.size + 1 ≤ r)
  (pl_0 under_F0 (Nat.zero_le _) fun A hA => own_new hlen hva (fun h => by have := hvb h; omega) (fun k v hk => by
   obtain ⟨h1, h2⟩ := hv k v hk
   have := cellB_alloc h1 (.cells #[.slice none 0 0, .slice none 0 0, .slice none 0 0, .bool false] 29)
   exact ⟨this.1, this.2.trans h2⟩) fun w1 qb bl k1 k2 k3 k4 => pl_1 hA fun A2 hA2 => .stop fun d => ⟨A2, qb, bl, rfl, hA2, k1.same fun _ _ => rfl, by rw [hs0] at k2; exact k2, fun r hr => k3 r (by omega), fun r hr => by have := k4 r hr; omega⟩) fun a W hS => ?_
 obtain ⟨A, qb, bl, rfl, hA, hQ, hWs, hWo, hWn⟩ := hS
 have hold1 : ∀ r, r < w.heap.size → W.heap[r]? = w.heap[r]? := fun r hr => (hWo r (by omega)).trans (hrow0 r hr)
 have hrb1 : W.heap[w.heap.size]? = some (.cells #[.slice none 0 0, .slice none 0 0, .slice none 0 0, .bool false] 29 (0, 0)) := (hWo _ (by omega)).trans htr.o
 have hI1 : OpsIn W ((QLay qb).SR ⟨newRQ vs, bl⟩) n tb o tl ta oa ol oc ops S sa := hI.later (by omega) hold1 fun r hr => by have := hWn r hr; omega
 refine bes_ops (L := QLay qb) (qlay_ok qb) (s0 := ⟨newRQ vs, bl⟩) hQ hI1 hM ?_
 intro g p p' t u oa' oc' hg hpn hpo hOk hrel hpn' hpo' hpa hU hord hnR hsz hkeep
 obtain ⟨hd, hover⟩ := over_abs (p := p) (g := g) hOk (fun j hj => ⟨rfl, rfl⟩) hrel
 rw [hpo] at hover
 obtain ⟨lb, lv, hPb, hPv, hlb, hlv, hK⟩ := hP _ _ hd hover
 have hQU : QU qb t.1.s u := hU.su
 have hrb2 : u.heap[w.heap.size]? = some (.cells #[.slice none 0 0, .slice none 0 0, .slice none 0 0, .bool false] 29 (0, 0)) := hkeep _ _ _ _ hrb1 fun h => by have := hWn _ h; omega
 have hcnt : cnt ((opsUsers (QLay qb) p g).liv t.1) n = cnt (absX t.1).live n := cnt_abs t.1 n
 rw [hcnt]
 obtain ⟨ca, hca, hcs, hci⟩ := hU.arr
 have hlt := (Array.getElem?_eq_some_iff.1 hca).1
 have hlr := (Array.getElem?_eq_some_iff.1 hrb2).1
 have htb := heap_alloc_new u (.cells #[.slice (some ⟨p.aa, 0, none⟩) n n, .slice oa' t.2.length oc', .slice none 0 0, .bool (decide (0 < cnt (absX t.1).live n))] 29)
 have htl : ∀ r, r < u.heap.size → (u.alloc (.cells #[.slice (some ⟨p.aa, 0, none⟩) n n, .slice oa' t.2.length oc', .slice none 0 0, .bool (decide (0 < cnt (absX t.1).live n))] 29)).heap[r]? = u.heap[r]? := fun r hr => heap_alloc_lt _ _ hr
 have hts : (u.alloc (.cells #[.slice (some ⟨p.aa, 0, none⟩) n n, .slice oa' t.2.length oc', .slice none 0 0, .bool (decide (0 < cnt (absX t.1).live n))] 29)).heap.size = u.heap.size + 1 := by simp
 refine bes_own (F := F0) (Stop := fun a u2 => ∃ xa xc, a = G (c.finish (.agg #[.slice (some ⟨p.aa, 0, none⟩) n n, .slice oa' t.2.length oc', .slice xa (1 + lv.length) xc, .bool (decide (0 < cnt (absX t.1).live n))])) cs ∧
   PlayU w n (absX t.1) lb.length (lv.map (absX t.1).q.vl) t.2 p.aa (.slice oa' t.2.length oc') (.slice xa (1 + lv.length) xc) u2)
  (pl_2 under_F0 (Nat.zero_le _) hA fun A2 hA2 => ?_) fun a u2 ⟨xa, xc, ha, hu2⟩ => ?_
 ·generalize u.alloc (.cells #[.slice (some ⟨p.aa, 0, none⟩) n n, .slice oa' t.2.length oc', .slice none 0 0, .bool (decide (0 < cnt (absX t.1).live n))] 29) = U at htb htl hts ⊢
  refine own_state (hQU.same fun r hr => htl r (hQU.low hr)) hPb hPv hlb hlv fun w2 l' k1 k2 k3 => ?_
  obtain ⟨xa, xc, rfl⟩ : ∃ xa xc, l' = .slice xa (1 + lv.length) xc := by
   rcases k1.2 with ⟨rfl, h⟩ | ⟨b, cap, cur, rfl, _⟩
   ·omega
   ·exact ⟨_, _, rfl⟩
  have hR : TrAt w2 w.heap.size (.slice none 0 0) (.slice none 0 0) (.slice none 0 0) (.bool false) := ⟨(k3 _ (by omega)).trans ((htl _ hlr).trans hrb2)⟩
  have hT : TrAt w2 u.heap.size (.slice (some ⟨p.aa, 0, none⟩) n n) (.slice oa' t.2.length oc') (.slice none 0 0) (.bool (decide (0 < cnt (absX t.1).live n))) := ⟨(k3 _ (by omega)).trans htb⟩
  refine pl_3 (show w.heap.size ≠ u.heap.size by omega) hR hT (fun k => hF _) (fun k => hF _) hA2 (.stop fun d => ⟨xa, xc, rfl, ?_⟩)
  have hlw : ∀ r, r < u.heap.size → w2.heap[r]? = u.heap[r]? := fun r hr => (k3 _ (by omega)).trans (htl _ hr)
  have hne : ∀ r, r ≠ w.heap.size → r ≠ u.heap.size → (trW (w2.setCell ⟨u.heap.size, 2, none⟩ (.slice xa (1 + lv.length) xc)) w.heap.size (.slice (some ⟨p.aa, 0, none⟩) n n) (.slice oa' t.2.length oc') (.slice xa (1 + lv.length) xc) (.bool (decide (0 < cnt (absX t.1).live n)))).heap[r]? = w2.heap[r]? := fun r hr hr2 => by
   unfold trW
   rw [heap_setCell_ne _ _ _ hr, heap_setCell_ne _ _ _ hr, heap_setCell_ne _ _ _ hr, heap_setCell_ne _ _ _ hr, heap_setCell_ne _ _ _ hr2]
  have hsz2 : (trW (w2.setCell ⟨u.heap.size, 2, none⟩ (.slice xa (1 + lv.length) xc)) w.heap.size (.slice (some ⟨p.aa, 0, none⟩) n n) (.slice oa' t.2.length oc') (.slice xa (1 + lv.length) xc) (.bool (decide (0 < cnt (absX t.1).live n)))).heap.size = w2.heap.size := by
   unfold trW; simp
  show PlayU _ _ _ _ _ _ _ _ _ ((trW (w2.setCell ⟨u.heap.size, 2, none⟩ (.slice xa (1 + lv.length) xc)) w.heap.size (.slice (some ⟨p.aa, 0, none⟩) n n) (.slice oa' t.2.length oc') (.slice xa (1 + lv.length) xc) (.bool (decide (0 < cnt (absX t.1).live n)))).at d)
  have hne2 : ∀ r, r ≠ w.heap.size → r ≠ u.heap.size → ((trW (w2.setCell ⟨u.heap.size, 2, none⟩ (.slice xa (1 + lv.length) xc)) w.heap.size (.slice (some ⟨p.aa, 0, none⟩) n n) (.slice oa' t.2.length oc') (.slice xa (1 + lv.length) xc) (.bool (decide (0 < cnt (absX t.1).live n)))).at d).heap[r]? = w2.heap[r]? := hne
  have hsz3 : ((trW (w2.setCell ⟨u.heap.size, 2, none⟩ (.slice xa (1 + lv.length) xc)) w.heap.size (.slice (some ⟨p.aa, 0, none⟩) n n) (.slice oa' t.2.length oc') (.slice xa (1 + lv.length) xc) (.bool (decide (0 < cnt (absX t.1).live n)))).at d).heap.size = w2.heap.size := hsz2
  generalize (trW (w2.setCell ⟨u.heap.size, 2, none⟩ (.slice xa (1 + lv.length) xc)) w.heap.size (.slice (some ⟨p.aa, 0, none⟩) n n) (.slice oa' t.2.length oc') (.slice xa (1 + lv.length) xc) (.bool (decide (0 < cnt (absX t.1).live n)))).at d = V at hne2 hsz3 ⊢
  have hty : ∀ (b : Nat) (c : Array Value) (e : TypeId) (z : Nat × Nat), u.heap[b]? = some (.cells c e z) → e ≠ 29 → V.heap[b]? = u.heap[b]? := fun b cc e z hb he => by
   have hbl := (Array.getElem?_eq_some_iff.1 hb).1
   rw [hne2 b (fun h => by rw [h, hrb2] at hb; cases hb; exact he rfl) (by omega), hlw b hbl]
  refine ⟨by omega, fun r cc e z hr => ?_, ⟨ca, ?_, ?_, fun i hi => ?_⟩, ?_, ?_⟩
  ·have hlt := (Array.getElem?_eq_some_iff.1 hr).1
   rw [hne2 r (by omega) (by omega), hlw r (by omega)]
   exact hkeep _ _ _ _ ((hold1 r hlt).trans hr) fun h => by have := hWn _ h; omega
  ·rw [hty _ _ _ _ (hpa ▸ hca) (by decide)]
   exact hpa ▸ hca
  ·rw [hcs, hpn']
  ·have hi' : i < p'.n := by rw [hpn']; exact hi
   have ht := hU.thr i hi'
   refine ⟨_, hci i hi', ?_, ?_⟩
   ·show (t.1.th i).ans.length ≤ _
    have h1 := ht.al
    have h2 := ht.kl
    rw [hpo', hI.hlen i hi] at h2
    omega
   ·have hr : u.ownsRow 0 46 3 (t.1.th i).row (t.1.th i).ans.length (ansC (t.1.th i).ans) := ht.row
    exact own_off hr fun b cc hb _ => hty b cc _ _ hb (by decide)
  ·exact ownsRow_mono_base (by omega) (own_off hord fun b cc hb _ => hty b cc _ _ hb (by decide))
  ·have e1 : (lv.map (absX t.1).q.vl).length = lv.length := List.length_map _
   rw [e1]
   have e2 : ((lv.map (absX t.1).q.vl).map fun v => Value.int .i64 v) = lv.map fun k => .int .i64 (t.1.s.q.vl k) := by
    rw [List.map_map]; rfl
   rw [e2]
   exact ownsRow_mono_base (by omega) (own_off k1 fun b cc hb hbb => hne2 b (by omega) (by omega))
 ·subst ha
  exact hK _ _ _ _ _ _ hu2
end
noncomputable section
variable {F : Fz} {w : World}
theorem cell_at {a : Addr} {v : Option Value} (h : w.cell? a = v) (d : Nat) : (w.at d).cell? a = v := h
theorem froz_at {a : Addr} {v : Bool} (h : w.frozen? a = v) (d : Nat) : (w.at d).frozen? a = v := h
theorem tr_newA (X : World) (x y z u x' y' z' u' : Value) : ((((X.alloc (.cells #[x, y, z, u] 29)).setCell ⟨X.heap.size, 0, none⟩ x').setCell ⟨X.heap.size, 1, none⟩ y').setCell ⟨X.heap.size, 2, none⟩ z').setCell ⟨X.heap.size, 3, none⟩ u' = X.alloc (.cells #[x', y', z', u'] 29) := by go_simp
theorem At.alloc {a : Addr} {v : Value} (h : At w a v) (o : Obj) : At (w.alloc o) a v := ⟨(cellB_alloc h.c o).1, (cellB_alloc h.c o).2.trans h.z⟩
theorem At.at {a : Addr} {v : Value} (h : At w a v) (d : Nat) : At (w.at d) a v := ⟨h.c, h.z⟩
def awBody : Code := Try.f12.body.getD .skip
def aws0 : Code := Code.piece [] awBody
def awr0 : Code := Code.piece [true] awBody
def awo0 : Array Oper := Code.opsOf awr0
def aws1 : Code := Code.piece [false] awBody
def awr1 : Code := Code.piece [false, true] awBody
def awo1 : Array Oper := Code.opsOf awr1
def aws2 : Code := Code.piece [false, false] awBody
def aws3 : Code := Code.piece [false, false, true] awBody
def awr2 : Code := Code.piece [false, false, true, true] awBody
def awo2 : Array Oper := Code.opsOf awr2
def awc32 : Code := Code.piece [false, false, true, false] awBody
def aws4 : Code := Code.piece [false, false, true, false, true] awBody
def awr3 : Code := Code.piece [false, false, true, false, true, true] awBody
def awo3 : Array Oper := Code.opsOf awr3
def aws5 : Code := Code.piece [false, false, false] awBody
def awr4 : Code := Code.piece [false, false, false, true] awBody
def awo4 : Array Oper := Code.opsOf awr4
theorem aws0_eq : aws0 = .seq awr0 aws1 := by kernel_rfl
theorem awr0_eq : awr0 = .region 0 awo0 false := by kernel_rfl
theorem aws1_eq : aws1 = .seq awr1 aws2 := by kernel_rfl
theorem awr1_eq : awr1 = .region 1 awo1 false := by kernel_rfl
theorem aws2_eq : aws2 = .seq aws3 aws5 := by kernel_rfl
theorem aws3_eq : aws3 = .seq awr2 awc32 := by kernel_rfl
theorem awr2_eq : awr2 = .region 2 awo2 false := by kernel_rfl
theorem awc32_eq : awc32 = .cond (.tmp 32) aws4 .skip := by kernel_rfl
theorem aws4_eq : aws4 = .seq awr3 .ret := by kernel_rfl
theorem awr3_eq : awr3 = .region 3 awo3 false := by kernel_rfl
theorem aws5_eq : aws5 = .seq awr4 .ret := by kernel_rfl
theorem awr4_eq : awr4 = .region 4 awo4 false := by kernel_rfl
theorem enter_aw (args : Array Value) : Frame.enter Try.prog 12 args .normal = (Go.Conc.base 12).at { tmps := args ++ Array.replicate (73 - args.size) undef, defers := [] } [.code aws0] := enter_at args Try.func12 rfl
theorem callable12 : Callable 12 := callable Try.func12 rfl rfl
def awT (s : Nat → Value) : Array Value := #[s 0, s 1, s 2, s 3, s 4, s 5, s 6, s 7, s 8, s 9, s 10, s 11, s 12, s 13, s 14, s 15, s 16, s 17, s 18, s 19, s 20, s 21, s 22, s 23, s 24, s 25, s 26, s 27, s 28, s 29, s 30, s 31, s 32, s 33, s 34, s 35, s 36, s 37, s 38, s 39, s 40, s 41, s 42, s 43, s 44, s 45, s 46, s 47, s 48, s 49, s 50, s 51, s 52, s 53, s 54, s 55, s 56, s 57, s 58, s 59, s 60, s 61, s 62, s 63, s 64, s 65, s 66, s 67, s 68, s 69, s 70, s 71, s 72]
theorem awT_of {A : Array Value} (h : A.size = 73) : ∃ s, A = awT s := by
 obtain ⟨s, hs, _⟩ := arr_lit A h
 exact ⟨s, hs⟩
def awW (w : World) : World := (((((w.alloc (.cells #[.int .i64 5] 2)).alloc (.cells #[.int .i64 2, .int .i64 0, .int .i64 0, .int .i64 0, .int .i64 2, .int .i64 0, .int .i64 0, .int .i64 0] 44)).alloc (.cells #[.int .i64 1, .int .i64 7, .int .i64 0, .int .i64 0] 44)).alloc (.cells #[.slice (some ⟨w.heap.size + 1, 0, none⟩) 2 2, .slice (some ⟨w.heap.size + 2, 0, none⟩) 1 1] 32)).alloc (.cells #[.int .i64 1, .int .i64 1, .int .i64 1, .int .i64 0, .int .i64 0, .int .i64 0, .int .i64 0, .int .i64 0, .int .i64 0, .int .i64 0, .int .i64 0, .int .i64 1] 3))
theorem aw_0 {n : Nat} (hU : Under F n) (hn : n ≤ w.heap.size) {cs : List Frame} {main : Bool} {Stop : Goroutine → World → Prop}
  (h : ∀ A, A.size = 73 → Own Try.prog main F Stop (G (Frame.enter Try.prog 14 #[.slice (some ⟨w.heap.size, 0, none⟩) 1 1, .slice (some ⟨w.heap.size + 3, 0, none⟩) 2 2, .slice (some ⟨w.heap.size + 4, 0, none⟩) 12 12, .int .i64 100] .normal) (((Go.Conc.base 12).at ⟨A, []⟩ [.inRegion awo1 [8, 9, 10], .code aws2]) :: cs)) (awW w)) :
  Own Try.prog main F Stop (G (Frame.enter Try.prog 12 #[] .normal) cs) w := by
 rw [enter_aw]
 walk_nrm
 rw [aws0_eq]
 refine ogS ?_
 rw [awr0_eq]
 refine ogR ?_
 simp only [awo0, Code.opsOf, awr0, Code.piece, awBody, Try.f12, Option.getD_some, List.size_toArray, List.length_cons, List.length_nil, Nat.reduceAdd, Nat.zero_add, List.range, List.range.loop]
 (refine oW fun dd K hK => ?_; go_simp; refine qT hK ?_; clear hK K)
 refine ogE ?_
 rw [aws1_eq]
 refine ogS ?_
 rw [awr1_eq]
 refine ogR ?_
 simp only [awo1, Code.opsOf, awr1, Code.piece, awBody, Try.f12, Option.getD_some, List.size_toArray, List.length_cons, List.length_nil, Nat.reduceAdd, Nat.zero_add, List.range, List.range.loop]
 (refine oW fun dd K hK => ?_; go_simp; refine qA hK hU ?_; clear hK K)
 iterate 2 (refine oW fun dd K hK => ?_; go_simp; refine qT hK ?_; clear hK K)
 (refine oW fun dd K hK => ?_; go_simp; refine qA hK hU ?_; clear hK K)
 (refine oW fun dd K hK => ?_; go_simp; refine qT hK ?_; clear hK K)
 iterate 3 (refine oW fun dd K hK => ?_; go_simp; refine qA hK hU ?_; clear hK K)
 refine oc callable14 #[.slice (some ⟨w.heap.size, 0, none⟩) 1 1, .slice (some ⟨w.heap.size + 3, 0, none⟩) 2 2, .slice (some ⟨w.heap.size + 4, 0, none⟩) 12 12, .int .i64 100] ?_
 refine h _ ?_
 rfl
theorem aw_1 {n : Nat} (hU : Under F n) (hn : n ≤ w.heap.size) {aa rb xb rc oc xc : Nat} {oa : Option Addr} (h0 : At w ⟨aa, 0, none⟩ (.slice (some ⟨rb, 0, none⟩) 2 rc)) (h1 : At w ⟨rb, 1, none⟩ (.int .i64 5)) (h4 : At w ⟨rb, 4, none⟩ (.int .i64 7)) (h3 : At w ⟨rb, 3, none⟩ (.bool true)) (hx : At w ⟨xb, 0, none⟩ (.int .i64 0)) {A : Array Value} (hA : A.size = 73) {c : Frame} {cs : List Frame} {main : Bool} {Stop : Goroutine → World → Prop}
  (h : Own Try.prog main F Stop (G (c.finish (.bool true)) cs) (w.alloc (.cells #[.slice (some ⟨aa, 0, none⟩) 2 2, .slice oa 16 oc, .slice (some ⟨xb, 0, none⟩) 1 xc, .bool false] 29))) :
  Own Try.prog main F Stop (G (((Go.Conc.base 12).at ⟨A, []⟩ [.inRegion awo1 [8, 9, 10], .code aws2]).finish (.agg #[.slice (some ⟨aa, 0, none⟩) 2 2, .slice oa 16 oc, .slice (some ⟨xb, 0, none⟩) 1 xc, .bool false])) (c :: cs)) w := by
 obtain ⟨s, rfl⟩ := awT_of hA
 clear hA
 simp only [awT]
 rw [Frame.finish_at]
 simp only [awo1, Code.opsOf, awr1, Code.piece, awBody, Try.f12, Option.getD_some, List.size_toArray, List.length_cons, List.length_nil, Nat.reduceAdd, Nat.zero_add, List.range, List.range.loop]
 walk_nrm
 (refine oW fun dd K hK => ?_; go_simp; refine qA hK hU ?_; clear hK K)
 (refine oW fun dd K hK => ?_; go_simp; refine hK _ _ ⟨⟨⟨0, grew4 (fun k => not_held hU (show n ≤ w.heap.size by omega)) _ _ _ _⟩, fun e he => by (have hm := mem_listed he; clear he hK; simp [go_sem, storedEv] at hm; rcases hm with rfl | rfl | rfl | rfl <;> exact evT_write _ _ ((fun k => not_held hU (show n ≤ w.heap.size by omega)) _))⟩, ?_⟩; clear hK K; simp only [setCell_at']; refine Own.at ?_ dd)
 have e1 := tr_newA w (.slice none 0 0) (.slice none 0 0) (.slice none 0 0) (.bool false) (.slice (some ⟨aa, 0, none⟩) 2 2) (.slice oa 16 oc) (.slice (some ⟨xb, 0, none⟩) 1 xc) (.bool false)
 rw [e1]
 clear e1
 have hT : TrAt (w.alloc (.cells #[.slice (some ⟨aa, 0, none⟩) 2 2, .slice oa 16 oc, .slice (some ⟨xb, 0, none⟩) 1 xc, .bool false] 29)) w.heap.size (.slice (some ⟨aa, 0, none⟩) 2 2) (.slice oa 16 oc) (.slice (some ⟨xb, 0, none⟩) 1 xc) (.bool false) := ⟨heap_alloc_new _ _⟩
 replace h0 := h0.alloc (.cells #[.slice (some ⟨aa, 0, none⟩) 2 2, .slice oa 16 oc, .slice (some ⟨xb, 0, none⟩) 1 xc, .bool false] 29)
 replace h1 := h1.alloc (.cells #[.slice (some ⟨aa, 0, none⟩) 2 2, .slice oa 16 oc, .slice (some ⟨xb, 0, none⟩) 1 xc, .bool false] 29)
 replace h4 := h4.alloc (.cells #[.slice (some ⟨aa, 0, none⟩) 2 2, .slice oa 16 oc, .slice (some ⟨xb, 0, none⟩) 1 xc, .bool false] 29)
 replace h3 := h3.alloc (.cells #[.slice (some ⟨aa, 0, none⟩) 2 2, .slice oa 16 oc, .slice (some ⟨xb, 0, none⟩) 1 xc, .bool false] 29)
 replace hx := hx.alloc (.cells #[.slice (some ⟨aa, 0, none⟩) 2 2, .slice oa 16 oc, .slice (some ⟨xb, 0, none⟩) 1 xc, .bool false] 29)
 generalize hW : w.alloc (.cells #[.slice (some ⟨aa, 0, none⟩) 2 2, .slice oa 16 oc, .slice (some ⟨xb, 0, none⟩) 1 xc, .bool false] 29) = W at hT h0 h1 h4 h3 hx h ⊢
 generalize w.heap.size = T at hT h ⊢
 refine ogE ?_
 rw [aws2_eq]
 refine ogS ?_
 rw [aws3_eq]
 refine ogS ?_
 rw [awr2_eq]
 refine ogR ?_
 simp only [awo2, Code.opsOf, awr2, Code.piece, awBody, Try.f12, Option.getD_some, List.size_toArray, List.length_cons, List.length_nil, Nat.reduceAdd, Nat.zero_add, List.range, List.range.loop]
 (refine oW fun dd K hK => ?_; go_simp; refine qT hK ?_; clear hK K)
 (refine oW fun dd K hK => ?_; have c0 := (hT.at dd).c0; have z0 := (hT.at dd).z; go_simp; refine hK _ _ ⟨⟨⟨0, Grew.refl _ _⟩, fun e he => by (have hm := mem_listed he; clear he hK; simp [go_sem, c0, z0] at hm; subst hm; exact evT_read _ _)⟩, Own.at ?_ dd⟩; clear hK K c0 z0)
 iterate 4 (refine oW fun dd K hK => ?_; go_simp; refine qT hK ?_; clear hK K)
 (refine oW fun dd K hK => ?_; have c0 := (hT.at dd).c0; have z0 := (hT.at dd).z; go_simp; refine hK _ _ ⟨⟨⟨0, Grew.refl _ _⟩, fun e he => by (have hm := mem_listed he; clear he hK; simp [go_sem, c0, z0] at hm; subst hm; exact evT_read _ _)⟩, Own.at ?_ dd⟩; clear hK K c0 z0)
 (refine oW fun dd K hK => ?_; go_simp; refine qX hK ?_; clear hK K)
 (refine oW fun dd K hK => ?_; have c0 := ((h0).at dd).c; have z0 := ((h0).at dd).z; go_simp; refine hK _ _ ⟨⟨⟨0, Grew.refl _ _⟩, fun e he => by (have hm := mem_listed he; clear he hK; simp [go_sem, c0, z0] at hm; subst hm; exact evT_read _ _)⟩, Own.at ?_ dd⟩; clear hK K c0 z0)
 iterate 5 (refine oW fun dd K hK => ?_; go_simp; refine qT hK ?_; clear hK K)
 (refine oW fun dd K hK => ?_; have c0 := (hT.at dd).c2; have z0 := (hT.at dd).z; go_simp; refine hK _ _ ⟨⟨⟨0, Grew.refl _ _⟩, fun e he => by (have hm := mem_listed he; clear he hK; simp [go_sem, c0, z0] at hm; subst hm; exact evT_read _ _)⟩, Own.at ?_ dd⟩; clear hK K c0 z0)
 iterate 5 (refine oW fun dd K hK => ?_; go_simp; refine qT hK ?_; clear hK K)
 (refine oW fun dd K hK => ?_; have c0 := (hT.at dd).c3; have z0 := (hT.at dd).z; go_simp; refine hK _ _ ⟨⟨⟨0, Grew.refl _ _⟩, fun e he => by (have hm := mem_listed he; clear he hK; simp [go_sem, c0, z0] at hm; subst hm; exact evT_read _ _)⟩, Own.at ?_ dd⟩; clear hK K c0 z0)
 (refine oW fun dd K hK => ?_; go_simp; refine qT hK ?_; clear hK K)
 refine ogE ?_
 rw [awc32_eq]
 refine ogF ?_
 simp only [Bool.false_eq_true, if_false]
 refine ogK ?_
 rw [aws5_eq]
 refine ogS ?_
 rw [awr4_eq]
 refine ogR ?_
 simp only [awo4, Code.opsOf, awr4, Code.piece, awBody, Try.f12, Option.getD_some, List.size_toArray, List.length_cons, List.length_nil, Nat.reduceAdd, Nat.zero_add, List.range, List.range.loop]
 (refine oW fun dd K hK => ?_; go_simp; refine qT hK ?_; clear hK K)
 (refine oW fun dd K hK => ?_; have c0 := (hT.at dd).c0; have z0 := (hT.at dd).z; go_simp; refine hK _ _ ⟨⟨⟨0, Grew.refl _ _⟩, fun e he => by (have hm := mem_listed he; clear he hK; simp [go_sem, c0, z0] at hm; subst hm; exact evT_read _ _)⟩, Own.at ?_ dd⟩; clear hK K c0 z0)
 (refine oW fun dd K hK => ?_; go_simp; refine qX hK ?_; clear hK K)
 (refine oW fun dd K hK => ?_; have c0 := ((h0).at dd).c; have z0 := ((h0).at dd).z; go_simp; refine hK _ _ ⟨⟨⟨0, Grew.refl _ _⟩, fun e he => by (have hm := mem_listed he; clear he hK; simp [go_sem, c0, z0] at hm; subst hm; exact evT_read _ _)⟩, Own.at ?_ dd⟩; clear hK K c0 z0)
 (refine oW fun dd K hK => ?_; go_simp; refine qX hK ?_; clear hK K)
 (refine oW fun dd K hK => ?_; go_simp; refine qT hK ?_; clear hK K)
 (refine oW fun dd K hK => ?_; have c0 := ((h1).at dd).c; have z0 := ((h1).at dd).z; go_simp; refine hK _ _ ⟨⟨⟨0, Grew.refl _ _⟩, fun e he => by (have hm := mem_listed he; clear he hK; simp [go_sem, c0, z0] at hm; subst hm; exact evT_read _ _)⟩, Own.at ?_ dd⟩; clear hK K c0 z0)
 iterate 3 (refine oW fun dd K hK => ?_; go_simp; refine qT hK ?_; clear hK K)
 (refine oW fun dd K hK => ?_; have c0 := (hT.at dd).c0; have z0 := (hT.at dd).z; go_simp; refine hK _ _ ⟨⟨⟨0, Grew.refl _ _⟩, fun e he => by (have hm := mem_listed he; clear he hK; simp [go_sem, c0, z0] at hm; subst hm; exact evT_read _ _)⟩, Own.at ?_ dd⟩; clear hK K c0 z0)
 (refine oW fun dd K hK => ?_; go_simp; refine qX hK ?_; clear hK K)
 (refine oW fun dd K hK => ?_; have c0 := ((h0).at dd).c; have z0 := ((h0).at dd).z; go_simp; refine hK _ _ ⟨⟨⟨0, Grew.refl _ _⟩, fun e he => by (have hm := mem_listed he; clear he hK; simp [go_sem, c0, z0] at hm; subst hm; exact evT_read _ _)⟩, Own.at ?_ dd⟩; clear hK K c0 z0)
 (refine oW fun dd K hK => ?_; go_simp; refine qX hK ?_; clear hK K)
 (refine oW fun dd K hK => ?_; go_simp; refine qT hK ?_; clear hK K)
 (refine oW fun dd K hK => ?_; have c0 := ((h4).at dd).c; have z0 := ((h4).at dd).z; go_simp; refine hK _ _ ⟨⟨⟨0, Grew.refl _ _⟩, fun e he => by (have hm := mem_listed he; clear he hK; simp [go_sem, c0, z0] at hm; subst hm; exact evT_read _ _)⟩, Own.at ?_ dd⟩; clear hK K c0 z0)
 iterate 4 (refine oW fun dd K hK => ?_; go_simp; refine qT hK ?_; clear hK K)
 (refine oW fun dd K hK => ?_; have c0 := (hT.at dd).c0; have z0 := (hT.at dd).z; go_simp; refine hK _ _ ⟨⟨⟨0, Grew.refl _ _⟩, fun e he => by (have hm := mem_listed he; clear he hK; simp [go_sem, c0, z0] at hm; subst hm; exact evT_read _ _)⟩, Own.at ?_ dd⟩; clear hK K c0 z0)
 (refine oW fun dd K hK => ?_; go_simp; refine qX hK ?_; clear hK K)
 (refine oW fun dd K hK => ?_; have c0 := ((h0).at dd).c; have z0 := ((h0).at dd).z; go_simp; refine hK _ _ ⟨⟨⟨0, Grew.refl _ _⟩, fun e he => by (have hm := mem_listed he; clear he hK; simp [go_sem, c0, z0] at hm; subst hm; exact evT_read _ _)⟩, Own.at ?_ dd⟩; clear hK K c0 z0)
 (refine oW fun dd K hK => ?_; go_simp; refine qX hK ?_; clear hK K)
 (refine oW fun dd K hK => ?_; go_simp; refine qT hK ?_; clear hK K)
 (refine oW fun dd K hK => ?_; have c0 := ((h3).at dd).c; have z0 := ((h3).at dd).z; go_simp; refine hK _ _ ⟨⟨⟨0, Grew.refl _ _⟩, fun e he => by (have hm := mem_listed he; clear he hK; simp [go_sem, c0, z0] at hm; subst hm; exact evT_read _ _)⟩, Own.at ?_ dd⟩; clear hK K c0 z0)
 iterate 3 (refine oW fun dd K hK => ?_; go_simp; refine qT hK ?_; clear hK K)
 (refine oW fun dd K hK => ?_; have c0 := (hT.at dd).c2; have z0 := (hT.at dd).z; go_simp; refine hK _ _ ⟨⟨⟨0, Grew.refl _ _⟩, fun e he => by (have hm := mem_listed he; clear he hK; simp [go_sem, c0, z0] at hm; subst hm; exact evT_read _ _)⟩, Own.at ?_ dd⟩; clear hK K c0 z0)
 (refine oW fun dd K hK => ?_; go_simp; refine qX hK ?_; clear hK K)
 (refine oW fun dd K hK => ?_; have c0 := ((hx).at dd).c; have z0 := ((hx).at dd).z; go_simp; refine hK _ _ ⟨⟨⟨0, Grew.refl _ _⟩, fun e he => by (have hm := mem_listed he; clear he hK; simp [go_sem, c0, z0] at hm; subst hm; exact evT_read _ _)⟩, Own.at ?_ dd⟩; clear hK K c0 z0)
 iterate 4 (refine oW fun dd K hK => ?_; go_simp; refine qT hK ?_; clear hK K)
 (refine oW fun dd K hK => ?_; have c0 := (hT.at dd).c1; have z0 := (hT.at dd).z; go_simp; refine hK _ _ ⟨⟨⟨0, Grew.refl _ _⟩, fun e he => by (have hm := mem_listed he; clear he hK; simp [go_sem, c0, z0] at hm; subst hm; exact evT_read _ _)⟩, Own.at ?_ dd⟩; clear hK K c0 z0)
 iterate 4 (refine oW fun dd K hK => ?_; go_simp; refine qT hK ?_; clear hK K)
 refine ogE ?_
 refine ogX ?_
 refine own_leave (fn := Try.f12) (v := .bool true) rfl rfl Try.func12 (fun d => by simp [results, Try.f12, go_sem]) (fun d e he => by simp [results, Try.f12, go_sem] at he) ?_
 exact h
end
noncomputable section
theorem bes_good {An : Anchor} {P : Program} {Post : Value → World → Prop} {fr : Frame} {W : World} (hA : An.Holds W)
  (hB : Bes An P (fun g w => g.status = .running ∧ ∀ d, ∃ v, stepG P true g (w.at d) = .ended (.done v) (w.at d) #[] ∧ (An.Holds (w.at d) → Post v (w.at d))) (G fr []) W) :
  ∃ M last o w' t', runNT P (M + 1) (solo (G fr []) W) #[] = (.ended o w', t') ∧ runN P M (solo (G fr []) W) = .next last ∧ step P last = .ended o w' ∧ Go.Conc.Good P Post last o w' t' := by
 rw [solo_eq_crowd]
 obtain ⟨N, gs', g', w', sl', T', q', B', hr, h0', ⟨hrun, hS⟩, hL', hP', hA'⟩ := hB #[G fr []] none #[] (fun _ => 0) 0 rfl (leavers_one _ _) past_nil hA
 obtain ⟨K, last, o, w2, t', e1, e2, e3, e4⟩ := beside_ends (P := P) (Post := Post) (D := fun _ _ es => ∀ e ∈ es, EvL NoShun B' e) (sl := sl') (n := 0) (fun _ _ _ h => h) h0' hL' hP' (Goes.stop fun w₂ r₂ => by
  obtain ⟨d, rfl⟩ := r₂
  obtain ⟨v, h1, h2⟩ := hS d
  exact ⟨hrun, v, #[], h1, by simp, h2 (hA'.at d)⟩)
 refine ⟨N + K, last, o, w2, t', ?_, ?_, e3, e4⟩
 ·rw [Nat.add_assoc, runNT_add, hr]; exact e1
 ·rw [runN_add, ← runNT_fst P _ _ #[], hr]; exact e2
theorem below_of {W w' : World} (h : (⟨W.heap.size, W⟩ : Anchor).Holds w') (hc : ∀ (r : Nat) (c : Array Value) (e : TypeId) (z : Nat × Nat), W.heap[r]? = some (.cells c e z) → w'.heap[r]? = some (.cells c e z)) : Below W.heap.size W w' := by
 refine ⟨h.os, h.tape, h.output, h.low, fun r hr => ?_⟩
 obtain ⟨o, ho⟩ : ∃ o, W.heap[r]? = some o := ⟨_, Array.getElem?_eq_getElem hr⟩
 by_cases e : ∃ c e z, o = .cells c e z
 ·obtain ⟨c, e, z, rfl⟩ := e
  rw [hc r c e z ho, ho]
 ·rw [h.obj r o hr ho fun c e1 z e2 => e ⟨c, e1, z, e2⟩, ho]
theorem law_ends {f k : Nat} {fn : Func} {A : Array Value} (h2 : ¬ 2 = f) (hf : Try.prog.funcs[f]? = some fn) (hr : fn.results = #[.tmp k]) {v : Value} (hA : A.getD k undef = v) (w : World) :
  stepG Try.prog true (G { (base f).at ⟨A, []⟩ [.code .ret] with mode := .returning } []) w = .ended (.done v) w #[] := by
 subst hA
 simp [G, stepG, unwind, doReturn, results, Frame.at, base, hf, hr, seen, GStep.after, h2]
end
noncomputable section
variable {An : Anchor} {w w' : World}
def awOps : Nat → List Op4 := fun i => if i = 0 then [⟨2, 0, 0, 0⟩, ⟨2, 0, 0, 0⟩] else if i = 1 then [⟨1, 7, 0, 0⟩] else []
def awS : List Int := [1, 1, 1, 0, 0, 0, 0, 0, 0, 0, 0, 1]
def awE : PS × List Nat := pOver awOps 2 100 awS 10 (q00 [5])
theorem awE_done : pDone 2 100 awE := by decide +kernel
theorem awE_order : awE.2.length = 16 := by decide +kernel
theorem awE_ans : (awE.1.th 0).ans = [(true, 5), (true, 7)] := by decide +kernel
theorem awE_live : cnt awE.1.live 2 = 0 := by decide +kernel
theorem awE_tl : awE.1.q.nx awE.1.q.tl = none := by decide +kernel
theorem awE_hd : awE.1.q.nx awE.1.q.hd = none := by decide +kernel
theorem awE_is {t : PS × List Nat} (h : ∃ k, ∀ f, k ≤ f → pOver awOps 2 100 awS f (q00 [5]) = t) : t = awE := by
 obtain ⟨k, hk⟩ := h
 rw [← hk (max k 10) (by omega)]
 exact pRounds_stays 10 _ awE_done (max k 10) (by omega)
theorem aw_old {r : Nat} (h : r < w.heap.size) : (awW w).heap[r]? = w.heap[r]? := by
 simp only [awW]
 rw [heap_alloc_lt _ _ (by simp; try omega), heap_alloc_lt _ _ (by simp; try omega), heap_alloc_lt _ _ (by simp; try omega), heap_alloc_lt _ _ (by simp; try omega), heap_alloc_lt _ _ h]
theorem aw_size : (awW w).heap.size = w.heap.size + 5 := by simp [awW]
theorem aw_b0 : (awW w).heap[w.heap.size]? = some (.cells #[.int .i64 5] 2 (0, 0)) := by
 simp only [awW]
 rw [heap_alloc_lt _ _ (by simp; try omega), heap_alloc_lt _ _ (by simp; try omega), heap_alloc_lt _ _ (by simp; try omega), heap_alloc_lt _ _ (by simp; try omega)]
 exact heap_alloc_new _ _
theorem aw_b1 : (awW w).heap[w.heap.size + 1]? = some (.cells #[.int .i64 2, .int .i64 0, .int .i64 0, .int .i64 0, .int .i64 2, .int .i64 0, .int .i64 0, .int .i64 0] 44 (0, 0)) := by
 simp only [awW]
 rw [heap_alloc_lt _ _ (by simp; try omega), heap_alloc_lt _ _ (by simp; try omega), heap_alloc_lt _ _ (by simp; try omega)]
 exact new_at (by simp) _
theorem aw_b2 : (awW w).heap[w.heap.size + 2]? = some (.cells #[.int .i64 1, .int .i64 7, .int .i64 0, .int .i64 0] 44 (0, 0)) := by
 simp only [awW]
 rw [heap_alloc_lt _ _ (by simp; try omega), heap_alloc_lt _ _ (by simp; try omega)]
 exact new_at (by simp) _
theorem aw_b3 : (awW w).heap[w.heap.size + 3]? = some (.cells #[.slice (some ⟨w.heap.size + 1, 0, none⟩) 2 2, .slice (some ⟨w.heap.size + 2, 0, none⟩) 1 1] 32 (0, 0)) := by
 simp only [awW]
 rw [heap_alloc_lt _ _ (by simp; try omega)]
 exact new_at (by simp) _
theorem aw_b4 : (awW w).heap[w.heap.size + 4]? = some (.cells #[.int .i64 1, .int .i64 1, .int .i64 1, .int .i64 0, .int .i64 0, .int .i64 0, .int .i64 0, .int .i64 0, .int .i64 0, .int .i64 0, .int .i64 0, .int .i64 1] 3 (0, 0)) := by
 simp only [awW]
 exact new_at (by simp) _
theorem aw_in (d : Nat) : OpsIn ((awW w).at d) (fun _ => False) 2 (w.heap.size + 3) 0 2 (some ⟨w.heap.size + 3, 0, none⟩) (fun i => some ⟨w.heap.size + 1 + i, 0, none⟩) (fun i => if i = 0 then 2 else 1) (fun i => if i = 0 then 2 else 1) awOps awS (some ⟨w.heap.size + 4, 0, none⟩) := by
 have h1 : ((awW w).at d).heap[w.heap.size + 1]? = _ := aw_b1
 have h2 : ((awW w).at d).heap[w.heap.size + 2]? = _ := aw_b2
 have h3 : ((awW w).at d).heap[w.heap.size + 3]? = _ := aw_b3
 have h4 : ((awW w).at d).heap[w.heap.size + 4]? = _ := aw_b4
 refine ⟨rfl, fun _ => rfl, fun _ => by show _ < (awW w).heap.size; rw [aw_size]; omega, fun j hj => ?_, fun j hj => ?_, fun j hj k x hx => ?_, by decide, fun _ => ⟨_, _, _, _, _, rfl, id, h4, fun k u hu => ?_⟩⟩
 ·have : j = 0 ∨ j = 1 := by omega
  rcases this with rfl | rfl
  ·exact ⟨(cell_of h3 rfl).c, (cell_of (k := 0) h3 rfl).z, Nat.le_refl _⟩
  ·exact ⟨(cell_of h3 rfl).c, (cell_of (k := 1) h3 rfl).z, Nat.le_refl _⟩
 ·have : j = 0 ∨ j = 1 := by omega
  rcases this with rfl | rfl <;> rfl
 ·have : j = 0 ∨ j = 1 := by omega
  rcases this with rfl | rfl
  ·have hk : k = 0 ∨ k = 1 := by
    have := (List.getElem?_eq_some_iff.1 hx).1
    simp [awOps] at this
    omega
   rcases hk with rfl | rfl
   ·obtain rfl : (⟨2, 0, 0, 0⟩ : Op4) = x := by simpa [awOps] using hx
    exact ⟨_, _, rfl, id, (cell_of h1 rfl).c, (cell_of h1 rfl).c, (cell_of h1 rfl).c, (cell_of h1 rfl).c, (cell_of (k := 0) h1 rfl).z, (cell_of (k := 1) h1 rfl).z, (cell_of (k := 2) h1 rfl).z, (cell_of (k := 3) h1 rfl).z⟩
   ·obtain rfl : (⟨2, 0, 0, 0⟩ : Op4) = x := by simpa [awOps] using hx
    exact ⟨_, _, rfl, id, (cell_of h1 rfl).c, (cell_of h1 rfl).c, (cell_of h1 rfl).c, (cell_of h1 rfl).c, (cell_of (k := 4) h1 rfl).z, (cell_of (k := 5) h1 rfl).z, (cell_of (k := 6) h1 rfl).z, (cell_of (k := 7) h1 rfl).z⟩
  ·have hk : k = 0 := by
    have := (List.getElem?_eq_some_iff.1 hx).1
    simp [awOps] at this
    omega
   subst hk
   obtain rfl : (⟨1, 7, 0, 0⟩ : Op4) = x := by simpa [awOps] using hx
   exact ⟨_, _, rfl, id, (cell_of h2 rfl).c, (cell_of h2 rfl).c, (cell_of h2 rfl).c, (cell_of h2 rfl).c, (cell_of (k := 0) h2 rfl).z, (cell_of (k := 1) h2 rfl).z, (cell_of (k := 2) h2 rfl).z, (cell_of (k := 3) h2 rfl).z⟩
 ·refine ⟨?_, by simp⟩
  rw [Nat.zero_add]
  have e : (#[.int .i64 1, .int .i64 1, .int .i64 1, .int .i64 0, .int .i64 0, .int .i64 0, .int .i64 0, .int .i64 0, .int .i64 0, .int .i64 0, .int .i64 0, .int .i64 1] : Array Value) = (awS.map fun i : Int => Value.int .i64 i).toArray := rfl
  rw [e]
  simpa using hu
theorem bes_awake {c : Frame} {cs : List Frame} {Stop : Goroutine → World → Prop} (K : ∀ w', w.heap.size ≤ w'.heap.size → (∀ (r : Nat) (c : Array Value) (e : TypeId) (z : Nat × Nat), w.heap[r]? = some (.cells c e z) → w'.heap[r]? = some (.cells c e z)) → Bes An Try.prog Stop (G (c.finish (.bool true)) cs) w') :
  Bes An Try.prog Stop (G (Frame.enter Try.prog 12 #[] .normal) (c :: cs)) w := by
 refine bes_own (F := F0) (Stop := fun a u => ∃ A d, A.size = 73 ∧ u = (awW w).at d ∧ a = G (Frame.enter Try.prog 14 #[.slice (some ⟨w.heap.size, 0, none⟩) 1 1, .slice (some ⟨w.heap.size + 3, 0, none⟩) 2 2, .slice (some ⟨w.heap.size + 4, 0, none⟩) 12 12, .int .i64 100] .normal) (((Go.Conc.base 12).at ⟨A, []⟩ [.inRegion awo1 [8, 9, 10], .code aws2]) :: c :: cs))
  (aw_0 under_F0 (Nat.zero_le _) fun A hA => .stop fun d => ⟨A, d, hA, rfl, rfl⟩) fun a u ⟨A, d, hA, hu, ha⟩ => ?_
 subst ha
 have hin := aw_in (w := w) d
 have hb0 : ((awW w).at d).heap[w.heap.size]? = _ := aw_b0 (w := w)
 have hol : ∀ r, r < w.heap.size → u.heap[r]? = w.heap[r]? := fun r hr => by rw [hu]; exact aw_old hr
 have hsz : u.heap.size = w.heap.size + 5 := by rw [hu]; exact aw_size
 rw [← hu] at hin hb0
 clear hu
 refine bes_play (vs := [5]) (vb := w.heap.size) (vo := 0) (by decide) (fun _ => rfl) (fun _ => by omega) (fun k v hk => ?_) (n := 2) (M := 100) (S := awS) hin rfl ?_
 ·have : k = 0 := by have := (List.getElem?_eq_some_iff.1 hk).1; simpa using this
  subst this
  obtain rfl : 5 = v := by simpa using hk
  exact ⟨(cell_of hb0 rfl).c, (cell_of (k := 0) hb0 rfl).z⟩
 ·intro s order hd hov
  have he := awE_is hov
  have e1 : s = awE.1 := congrArg Prod.fst he
  have e2 : order = awE.2 := congrArg Prod.snd he
  subst e1
  subst e2
  rw [awE_tl, awE_hd]
  refine ⟨[], [], .nil, .nil, by decide, by decide, fun aa oa' oc' xa xc w' hP => ?_⟩
  rw [awE_live, awE_order] at *
  obtain ⟨ca, ha1, ha2, ha3⟩ := hP.arr
  obtain ⟨v, hv1, _, hv3⟩ := ha3 0 (by decide)
  rw [awE_ans] at hv3
  obtain ⟨rb, rc, rfl, h1⟩ := row_get (k := 1) hv3 rfl
  obtain ⟨_, _, e4, h4⟩ := row_get (k := 4) hv3 rfl
  cases e4
  obtain ⟨_, _, e3, h3⟩ := row_get (k := 3) hv3 rfl
  cases e3
  obtain ⟨xb, xc', e5, hx⟩ := row_get (k := 0) hP.st rfl
  cases e5
  refine bes_own (F := F0) (Stop := fun a u2 => a = G (c.finish (.bool true)) cs ∧ w'.heap.size ≤ u2.heap.size ∧ ∀ r, r < w'.heap.size → u2.heap[r]? = w'.heap[r]?)
   (aw_1 under_F0 (Nat.zero_le _) (cell_of ha1 hv1) h1 h4 h3 hx hA (.stop fun d => ⟨rfl, ?_, fun r hr => heap_alloc_lt _ _ hr⟩)) fun a u2 ⟨ha, hs2, ho2⟩ => ?_
  ·show _ ≤ (w'.alloc _).heap.size
   simp
  ·subst ha
   have hsz3 := hP.size
   refine K u2 (by omega) fun r cc e z hr => ?_
   have hlt := (Array.getElem?_eq_some_iff.1 hr).1
   have h6 := hP.old r cc e z ((hol r hlt).trans hr)
   rw [ho2 r (Array.getElem?_eq_some_iff.1 h6).1]
   exact h6
section
variable {An : Anchor} {W : World}
def LawPost (W : World) (v : Value) (w' : World) : Prop := v = .bool true ∧ ∀ (r : Nat) (c : Array Value) (e : TypeId) (z : Nat × Nat), W.heap[r]? = some (.cells c e z) → w'.heap[r]? = some (.cells c e z)
def LawStop (An : Anchor) (Post : Value → World → Prop) (g : Goroutine) (w : World) : Prop := g.status = .running ∧ ∀ d, ∃ v, stepG Try.prog true g (w.at d) = .ended (.done v) (w.at d) #[] ∧ (An.Holds (w.at d) → Post v (w.at d))
theorem law_stop {f k : Nat} {fn : Func} {A : Array Value} (hf : Try.prog.funcs[f]? = some fn) (hr : fn.results = #[.tmp k]) (h2 : ¬ 2 = f) (hA : A.getD k undef = .bool true) {w : World} (h : ∀ (r : Nat) (c : Array Value) (e : TypeId) (z : Nat × Nat), W.heap[r]? = some (.cells c e z) → w.heap[r]? = some (.cells c e z)) :
  LawStop An (LawPost W) (G { (base f).at ⟨A, []⟩ [.code .ret] with mode := .returning } []) w :=
 ⟨rfl, fun d => ⟨_, law_ends h2 hf hr hA _, fun _ => ⟨rfl, h⟩⟩⟩
end
end
noncomputable section
variable {F : Fz} {w : World}
theorem callable18 : Callable 18 := callable Try.func18 rfl rfl
theorem built39 : Try.prog.built 39 [] = some #[.int .i64 0] := by kernel_rfl
@[go_sem] theorem run_build39 (w : World) : (Instr.build 39 #[]).run Try.prog w = .ok (.agg #[.int .i64 0]) w := run_build w _ _ _ built39
@[go_sem] theorem ev_build39 (w : World) (es : Array Event) : (Instr.build 39 #[]).events Try.prog w es = es := ev_build w es _ _ _ _ Try.underlying39 built39
def qcBody : Code := Try.f4.body.getD .skip
def qcs0 : Code := Code.piece [] qcBody
def qcr0 : Code := Code.piece [true] qcBody
def qco0 : Array Oper := Code.opsOf qcr0
def qcs1 : Code := Code.piece [false] qcBody
def qcs2 : Code := Code.piece [false, true] qcBody
def qcr1 : Code := Code.piece [false, true, true] qcBody
def qco1 : Array Oper := Code.opsOf qcr1
def qcc19 : Code := Code.piece [false, true, false] qcBody
def qcs3 : Code := Code.piece [false, true, false, true] qcBody
def qcr2 : Code := Code.piece [false, true, false, true, true] qcBody
def qco2 : Array Oper := Code.opsOf qcr2
def qcs4 : Code := Code.piece [false, false] qcBody
def qcr3 : Code := Code.piece [false, false, true] qcBody
def qco3 : Array Oper := Code.opsOf qcr3
def qcs5 : Code := Code.piece [false, false, false] qcBody
def qcr4 : Code := Code.piece [false, false, false, true] qcBody
def qco4 : Array Oper := Code.opsOf qcr4
def qcs6 : Code := Code.piece [false, false, false, false] qcBody
def qcr5 : Code := Code.piece [false, false, false, false, true] qcBody
def qco5 : Array Oper := Code.opsOf qcr5
def qcs7 : Code := Code.piece [false, false, false, false, false] qcBody
def qcr6 : Code := Code.piece [false, false, false, false, false, true] qcBody
def qco6 : Array Oper := Code.opsOf qcr6
def qcs8 : Code := Code.piece [false, false, false, false, false, false] qcBody
def qcs9 : Code := Code.piece [false, false, false, false, false, false, true] qcBody
def qcr7 : Code := Code.piece [false, false, false, false, false, false, true, true] qcBody
def qco7 : Array Oper := Code.opsOf qcr7
def qcc36 : Code := Code.piece [false, false, false, false, false, false, true, false] qcBody
def qcs10 : Code := Code.piece [false, false, false, false, false, false, true, false, true] qcBody
def qcr8 : Code := Code.piece [false, false, false, false, false, false, true, false, true, true] qcBody
def qco8 : Array Oper := Code.opsOf qcr8
def qcs11 : Code := Code.piece [false, false, false, false, false, false, false] qcBody
def qcs12 : Code := Code.piece [false, false, false, false, false, false, false, true] qcBody
def qcr9 : Code := Code.piece [false, false, false, false, false, false, false, true, true] qcBody
def qco9 : Array Oper := Code.opsOf qcr9
def qcb0 : Code := Code.piece [false, false, false, false, false, false, false, true, false] qcBody
def qcl13 : Code := Code.piece [false, false, false, false, false, false, false, true, false, true] qcBody
def qcs14 : Code := Code.piece [false, false, false, false, false, false, false, true, false, true, true] qcBody
def qcs15 : Code := Code.piece [false, false, false, false, false, false, false, true, false, true, true, true] qcBody
def qcr10 : Code := Code.piece [false, false, false, false, false, false, false, true, false, true, true, true, true] qcBody
def qco10 : Array Oper := Code.opsOf qcr10
def qcc40 : Code := Code.piece [false, false, false, false, false, false, false, true, false, true, true, true, false] qcBody
def qcs16 : Code := Code.piece [false, false, false, false, false, false, false, true, false, true, true, false] qcBody
def qcb1 : Code := Code.piece [false, false, false, false, false, false, false, true, false, true, true, false, true] qcBody
def qcr12 : Code := Code.piece [false, false, false, false, false, false, false, true, false, true, true, false, true, true] qcBody
def qco12 : Array Oper := Code.opsOf qcr12
def qcr11 : Code := Code.piece [false, false, false, false, false, false, false, true, false, true, true, false, false] qcBody
def qco11 : Array Oper := Code.opsOf qcr11
def qcs17 : Code := Code.piece [false, false, false, false, false, false, false, false] qcBody
def qcs18 : Code := Code.piece [false, false, false, false, false, false, false, false, true] qcBody
def qcr13 : Code := Code.piece [false, false, false, false, false, false, false, false, true, true] qcBody
def qco13 : Array Oper := Code.opsOf qcr13
def qcb2 : Code := Code.piece [false, false, false, false, false, false, false, false, true, false] qcBody
def qcl19 : Code := Code.piece [false, false, false, false, false, false, false, false, true, false, true] qcBody
def qcs20 : Code := Code.piece [false, false, false, false, false, false, false, false, true, false, true, true] qcBody
def qcs21 : Code := Code.piece [false, false, false, false, false, false, false, false, true, false, true, true, true] qcBody
def qcr14 : Code := Code.piece [false, false, false, false, false, false, false, false, true, false, true, true, true, true] qcBody
def qco14 : Array Oper := Code.opsOf qcr14
def qcc49 : Code := Code.piece [false, false, false, false, false, false, false, false, true, false, true, true, true, false] qcBody
def qcs22 : Code := Code.piece [false, false, false, false, false, false, false, false, true, false, true, true, false] qcBody
def qcb3 : Code := Code.piece [false, false, false, false, false, false, false, false, true, false, true, true, false, true] qcBody
def qcs23 : Code := Code.piece [false, false, false, false, false, false, false, false, true, false, true, true, false, true, true] qcBody
def qcr16 : Code := Code.piece [false, false, false, false, false, false, false, false, true, false, true, true, false, true, true, true] qcBody
def qco16 : Array Oper := Code.opsOf qcr16
def qcs24 : Code := Code.piece [false, false, false, false, false, false, false, false, true, false, true, true, false, true, true, false] qcBody
def qcr17 : Code := Code.piece [false, false, false, false, false, false, false, false, true, false, true, true, false, true, true, false, true] qcBody
def qco17 : Array Oper := Code.opsOf qcr17
def qcs25 : Code := Code.piece [false, false, false, false, false, false, false, false, true, false, true, true, false, true, true, false, false] qcBody
def qcb4 : Code := Code.piece [false, false, false, false, false, false, false, false, true, false, true, true, false, true, true, false, false, true] qcBody
def qcl26 : Code := Code.piece [false, false, false, false, false, false, false, false, true, false, true, true, false, true, true, false, false, true, true] qcBody
def qcs27 : Code := Code.piece [false, false, false, false, false, false, false, false, true, false, true, true, false, true, true, false, false, true, true, true] qcBody
def qcs28 : Code := Code.piece [false, false, false, false, false, false, false, false, true, false, true, true, false, true, true, false, false, true, true, true, true] qcBody
def qcr18 : Code := Code.piece [false, false, false, false, false, false, false, false, true, false, true, true, false, true, true, false, false, true, true, true, true, true] qcBody
def qco18 : Array Oper := Code.opsOf qcr18
def qcc66 : Code := Code.piece [false, false, false, false, false, false, false, false, true, false, true, true, false, true, true, false, false, true, true, true, true, false] qcBody
def qcb5 : Code := Code.piece [false, false, false, false, false, false, false, false, true, false, true, true, false, true, true, false, false, true, true, true, false] qcBody
def qcs29 : Code := Code.piece [false, false, false, false, false, false, false, false, true, false, true, true, false, true, true, false, false, true, true, true, false, true] qcBody
def qcr19 : Code := Code.piece [false, false, false, false, false, false, false, false, true, false, true, true, false, true, true, false, false, true, true, true, false, true, true] qcBody
def qco19 : Array Oper := Code.opsOf qcr19
def qcr20 : Code := Code.piece [false, false, false, false, false, false, false, false, true, false, true, true, false, true, true, false, false, true, true, true, false, true, false] qcBody
def qco20 : Array Oper := Code.opsOf qcr20
def qcs30 : Code := Code.piece [false, false, false, false, false, false, false, false, true, false, true, true, false, true, true, false, false, false] qcBody
def qcr21 : Code := Code.piece [false, false, false, false, false, false, false, false, true, false, true, true, false, true, true, false, false, false, true] qcBody
def qco21 : Array Oper := Code.opsOf qcr21
def qcs31 : Code := Code.piece [false, false, false, false, false, false, false, false, true, false, true, true, false, true, true, false, false, false, false] qcBody
def qcr22 : Code := Code.piece [false, false, false, false, false, false, false, false, true, false, true, true, false, true, true, false, false, false, false, true] qcBody
def qco22 : Array Oper := Code.opsOf qcr22
def qcc109 : Code := Code.piece [false, false, false, false, false, false, false, false, true, false, true, true, false, true, true, false, false, false, false, false] qcBody
def qcs32 : Code := Code.piece [false, false, false, false, false, false, false, false, true, false, true, true, false, true, true, false, false, false, false, false, true] qcBody
def qcr23 : Code := Code.piece [false, false, false, false, false, false, false, false, true, false, true, true, false, true, true, false, false, false, false, false, true, true] qcBody
def qco23 : Array Oper := Code.opsOf qcr23
def qcr15 : Code := Code.piece [false, false, false, false, false, false, false, false, true, false, true, true, false, false] qcBody
def qco15 : Array Oper := Code.opsOf qcr15
def qcs33 : Code := Code.piece [false, false, false, false, false, false, false, false, false] qcBody
def qcr24 : Code := Code.piece [false, false, false, false, false, false, false, false, false, true] qcBody
def qco24 : Array Oper := Code.opsOf qcr24
def qcs34 : Code := Code.piece [false, false, false, false, false, false, false, false, false, false] qcBody
def qcr25 : Code := Code.piece [false, false, false, false, false, false, false, false, false, false, true] qcBody
def qco25 : Array Oper := Code.opsOf qcr25
def qcs35 : Code := Code.piece [false, false, false, false, false, false, false, false, false, false, false] qcBody
def qcr26 : Code := Code.piece [false, false, false, false, false, false, false, false, false, false, false, true] qcBody
def qco26 : Array Oper := Code.opsOf qcr26
def qcs36 : Code := Code.piece [false, false, false, false, false, false, false, false, false, false, false, false] qcBody
def qcs37 : Code := Code.piece [false, false, false, false, false, false, false, false, false, false, false, false, true] qcBody
def qcr27 : Code := Code.piece [false, false, false, false, false, false, false, false, false, false, false, false, true, true] qcBody
def qco27 : Array Oper := Code.opsOf qcr27
def qcc119 : Code := Code.piece [false, false, false, false, false, false, false, false, false, false, false, false, true, false] qcBody
def qcs38 : Code := Code.piece [false, false, false, false, false, false, false, false, false, false, false, false, true, false, true] qcBody
def qcr28 : Code := Code.piece [false, false, false, false, false, false, false, false, false, false, false, false, true, false, true, true] qcBody
def qco28 : Array Oper := Code.opsOf qcr28
def qcs39 : Code := Code.piece [false, false, false, false, false, false, false, false, false, false, false, false, false] qcBody
def qcs40 : Code := Code.piece [false, false, false, false, false, false, false, false, false, false, false, false, false, true] qcBody
def qcr29 : Code := Code.piece [false, false, false, false, false, false, false, false, false, false, false, false, false, true, true] qcBody
def qco29 : Array Oper := Code.opsOf qcr29
def qcb6 : Code := Code.piece [false, false, false, false, false, false, false, false, false, false, false, false, false, true, false] qcBody
def qcl41 : Code := Code.piece [false, false, false, false, false, false, false, false, false, false, false, false, false, true, false, true] qcBody
def qcs42 : Code := Code.piece [false, false, false, false, false, false, false, false, false, false, false, false, false, true, false, true, true] qcBody
def qcs43 : Code := Code.piece [false, false, false, false, false, false, false, false, false, false, false, false, false, true, false, true, true, true] qcBody
def qcr30 : Code := Code.piece [false, false, false, false, false, false, false, false, false, false, false, false, false, true, false, true, true, true, true] qcBody
def qco30 : Array Oper := Code.opsOf qcr30
def qcc123 : Code := Code.piece [false, false, false, false, false, false, false, false, false, false, false, false, false, true, false, true, true, true, false] qcBody
def qcs44 : Code := Code.piece [false, false, false, false, false, false, false, false, false, false, false, false, false, true, false, true, true, false] qcBody
def qcb7 : Code := Code.piece [false, false, false, false, false, false, false, false, false, false, false, false, false, true, false, true, true, false, true] qcBody
def qcr32 : Code := Code.piece [false, false, false, false, false, false, false, false, false, false, false, false, false, true, false, true, true, false, true, true] qcBody
def qco32 : Array Oper := Code.opsOf qcr32
def qcr31 : Code := Code.piece [false, false, false, false, false, false, false, false, false, false, false, false, false, true, false, true, true, false, false] qcBody
def qco31 : Array Oper := Code.opsOf qcr31
def qcs45 : Code := Code.piece [false, false, false, false, false, false, false, false, false, false, false, false, false, false] qcBody
def qcr33 : Code := Code.piece [false, false, false, false, false, false, false, false, false, false, false, false, false, false, true] qcBody
def qco33 : Array Oper := Code.opsOf qcr33
def qcs46 : Code := Code.piece [false, false, false, false, false, false, false, false, false, false, false, false, false, false, false] qcBody
def qcr34 : Code := Code.piece [false, false, false, false, false, false, false, false, false, false, false, false, false, false, false, true] qcBody
def qco34 : Array Oper := Code.opsOf qcr34
theorem qcs0_eq : qcs0 = .seq qcr0 qcs1 := by kernel_rfl
theorem qcr0_eq : qcr0 = .region 0 qco0 false := by kernel_rfl
theorem qcs1_eq : qcs1 = .seq qcs2 qcs4 := by kernel_rfl
theorem qcs2_eq : qcs2 = .seq qcr1 qcc19 := by kernel_rfl
theorem qcr1_eq : qcr1 = .region 1 qco1 false := by kernel_rfl
theorem qcc19_eq : qcc19 = .cond (.tmp 19) qcs3 .skip := by kernel_rfl
theorem qcs3_eq : qcs3 = .seq qcr2 .ret := by kernel_rfl
theorem qcr2_eq : qcr2 = .region 2 qco2 false := by kernel_rfl
theorem qcs4_eq : qcs4 = .seq qcr3 qcs5 := by kernel_rfl
theorem qcr3_eq : qcr3 = .region 3 qco3 false := by kernel_rfl
theorem qcs5_eq : qcs5 = .seq qcr4 qcs6 := by kernel_rfl
theorem qcr4_eq : qcr4 = .region 4 qco4 false := by kernel_rfl
theorem qcs6_eq : qcs6 = .seq qcr5 qcs7 := by kernel_rfl
theorem qcr5_eq : qcr5 = .region 5 qco5 false := by kernel_rfl
theorem qcs7_eq : qcs7 = .seq qcr6 qcs8 := by kernel_rfl
theorem qcr6_eq : qcr6 = .region 6 qco6 false := by kernel_rfl
theorem qcs8_eq : qcs8 = .seq qcs9 qcs11 := by kernel_rfl
theorem qcs9_eq : qcs9 = .seq qcr7 qcc36 := by kernel_rfl
theorem qcr7_eq : qcr7 = .region 7 qco7 false := by kernel_rfl
theorem qcc36_eq : qcc36 = .cond (.tmp 36) qcs10 .skip := by kernel_rfl
theorem qcs10_eq : qcs10 = .seq qcr8 .ret := by kernel_rfl
theorem qcr8_eq : qcr8 = .region 8 qco8 false := by kernel_rfl
theorem qcs11_eq : qcs11 = .seq qcs12 qcs17 := by kernel_rfl
theorem qcs12_eq : qcs12 = .seq qcr9 qcb0 := by kernel_rfl
theorem qcr9_eq : qcr9 = .region 9 qco9 false := by kernel_rfl
theorem qcb0_eq : qcb0 = .block 0 qcl13 := by kernel_rfl
theorem qcl13_eq : qcl13 = .loop qcs14 := by kernel_rfl
theorem qcs14_eq : qcs14 = .seq qcs15 qcs16 := by kernel_rfl
theorem qcs15_eq : qcs15 = .seq qcr10 qcc40 := by kernel_rfl
theorem qcr10_eq : qcr10 = .region 10 qco10 false := by kernel_rfl
theorem qcc40_eq : qcc40 = .cond (.tmp 40) .skip (.exit 0) := by kernel_rfl
theorem qcs16_eq : qcs16 = .seq qcb1 qcr11 := by kernel_rfl
theorem qcb1_eq : qcb1 = .block 1 qcr12 := by kernel_rfl
theorem qcr12_eq : qcr12 = .region 12 qco12 false := by kernel_rfl
theorem qcr11_eq : qcr11 = .region 11 qco11 false := by kernel_rfl
theorem qcs17_eq : qcs17 = .seq qcs18 qcs33 := by kernel_rfl
theorem qcs18_eq : qcs18 = .seq qcr13 qcb2 := by kernel_rfl
theorem qcr13_eq : qcr13 = .region 13 qco13 false := by kernel_rfl
theorem qcb2_eq : qcb2 = .block 2 qcl19 := by kernel_rfl
theorem qcl19_eq : qcl19 = .loop qcs20 := by kernel_rfl
theorem qcs20_eq : qcs20 = .seq qcs21 qcs22 := by kernel_rfl
theorem qcs21_eq : qcs21 = .seq qcr14 qcc49 := by kernel_rfl
theorem qcr14_eq : qcr14 = .region 14 qco14 false := by kernel_rfl
theorem qcc49_eq : qcc49 = .cond (.tmp 49) .skip (.exit 2) := by kernel_rfl
theorem qcs22_eq : qcs22 = .seq qcb3 qcr15 := by kernel_rfl
theorem qcb3_eq : qcb3 = .block 3 qcs23 := by kernel_rfl
theorem qcs23_eq : qcs23 = .seq qcr16 qcs24 := by kernel_rfl
theorem qcr16_eq : qcr16 = .region 16 qco16 false := by kernel_rfl
theorem qcs24_eq : qcs24 = .seq qcr17 qcs25 := by kernel_rfl
theorem qcr17_eq : qcr17 = .region 17 qco17 false := by kernel_rfl
theorem qcs25_eq : qcs25 = .seq qcb4 qcs30 := by kernel_rfl
theorem qcb4_eq : qcb4 = .block 4 qcl26 := by kernel_rfl
theorem qcl26_eq : qcl26 = .loop qcs27 := by kernel_rfl
theorem qcs27_eq : qcs27 = .seq qcs28 qcb5 := by kernel_rfl
theorem qcs28_eq : qcs28 = .seq qcr18 qcc66 := by kernel_rfl
theorem qcr18_eq : qcr18 = .region 18 qco18 false := by kernel_rfl
theorem qcc66_eq : qcc66 = .cond (.tmp 66) .skip (.exit 4) := by kernel_rfl
theorem qcb5_eq : qcb5 = .block 5 qcs29 := by kernel_rfl
theorem qcs29_eq : qcs29 = .seq qcr19 qcr20 := by kernel_rfl
theorem qcr19_eq : qcr19 = .region 19 qco19 false := by kernel_rfl
theorem qcr20_eq : qcr20 = .region 20 qco20 false := by kernel_rfl
theorem qcs30_eq : qcs30 = .seq qcr21 qcs31 := by kernel_rfl
theorem qcr21_eq : qcr21 = .region 21 qco21 false := by kernel_rfl
theorem qcs31_eq : qcs31 = .seq qcr22 qcc109 := by kernel_rfl
theorem qcr22_eq : qcr22 = .region 22 qco22 true := by kernel_rfl
theorem qcc109_eq : qcc109 = .cond (.tmp 109) qcs32 .skip := by kernel_rfl
theorem qcs32_eq : qcs32 = .seq qcr23 .ret := by kernel_rfl
theorem qcr23_eq : qcr23 = .region 23 qco23 false := by kernel_rfl
theorem qcr15_eq : qcr15 = .region 15 qco15 false := by kernel_rfl
theorem qcs33_eq : qcs33 = .seq qcr24 qcs34 := by kernel_rfl
theorem qcr24_eq : qcr24 = .region 24 qco24 false := by kernel_rfl
theorem qcs34_eq : qcs34 = .seq qcr25 qcs35 := by kernel_rfl
theorem qcr25_eq : qcr25 = .region 25 qco25 false := by kernel_rfl
theorem qcs35_eq : qcs35 = .seq qcr26 qcs36 := by kernel_rfl
theorem qcr26_eq : qcr26 = .region 26 qco26 false := by kernel_rfl
theorem qcs36_eq : qcs36 = .seq qcs37 qcs39 := by kernel_rfl
theorem qcs37_eq : qcs37 = .seq qcr27 qcc119 := by kernel_rfl
theorem qcr27_eq : qcr27 = .region 27 qco27 false := by kernel_rfl
theorem qcc119_eq : qcc119 = .cond (.tmp 119) qcs38 .skip := by kernel_rfl
theorem qcs38_eq : qcs38 = .seq qcr28 .ret := by kernel_rfl
theorem qcr28_eq : qcr28 = .region 28 qco28 false := by kernel_rfl
theorem qcs39_eq : qcs39 = .seq qcs40 qcs45 := by kernel_rfl
theorem qcs40_eq : qcs40 = .seq qcr29 qcb6 := by kernel_rfl
theorem qcr29_eq : qcr29 = .region 29 qco29 false := by kernel_rfl
theorem qcb6_eq : qcb6 = .block 6 qcl41 := by kernel_rfl
theorem qcl41_eq : qcl41 = .loop qcs42 := by kernel_rfl
theorem qcs42_eq : qcs42 = .seq qcs43 qcs44 := by kernel_rfl
theorem qcs43_eq : qcs43 = .seq qcr30 qcc123 := by kernel_rfl
theorem qcr30_eq : qcr30 = .region 30 qco30 false := by kernel_rfl
theorem qcc123_eq : qcc123 = .cond (.tmp 123) .skip (.exit 6) := by kernel_rfl
theorem qcs44_eq : qcs44 = .seq qcb7 qcr31 := by kernel_rfl
theorem qcb7_eq : qcb7 = .block 7 qcr32 := by kernel_rfl
theorem qcr32_eq : qcr32 = .region 32 qco32 false := by kernel_rfl
theorem qcr31_eq : qcr31 = .region 31 qco31 false := by kernel_rfl
theorem qcs45_eq : qcs45 = .seq qcr33 qcs46 := by kernel_rfl
theorem qcr33_eq : qcr33 = .region 33 qco33 false := by kernel_rfl
theorem qcs46_eq : qcs46 = .seq qcr34 .ret := by kernel_rfl
theorem qcr34_eq : qcr34 = .region 34 qco34 false := by kernel_rfl
theorem enter_qc (args : Array Value) : Frame.enter Try.prog 4 args .normal = (Go.Conc.base 4).at { tmps := args ++ Array.replicate (149 - args.size) undef, defers := [] } [.code qcs0] := enter_at args Try.func4 rfl
theorem callable4 : Callable 4 := callable Try.func4 rfl rfl
def qcT (s : Nat → Value) : Array Value := #[s 0, s 1, s 2, s 3, s 4, s 5, s 6, s 7, s 8, s 9, s 10, s 11, s 12, s 13, s 14, s 15, s 16, s 17, s 18, s 19, s 20, s 21, s 22, s 23, s 24, s 25, s 26, s 27, s 28, s 29, s 30, s 31, s 32, s 33, s 34, s 35, s 36, s 37, s 38, s 39, s 40, s 41, s 42, s 43, s 44, s 45, s 46, s 47, s 48, s 49, s 50, s 51, s 52, s 53, s 54, s 55, s 56, s 57, s 58, s 59, s 60, s 61, s 62, s 63, s 64, s 65, s 66, s 67, s 68, s 69, s 70, s 71, s 72, s 73, s 74, s 75, s 76, s 77, s 78, s 79, s 80, s 81, s 82, s 83, s 84, s 85, s 86, s 87, s 88, s 89, s 90, s 91, s 92, s 93, s 94, s 95, s 96, s 97, s 98, s 99, s 100, s 101, s 102, s 103, s 104, s 105, s 106, s 107, s 108, s 109, s 110, s 111, s 112, s 113, s 114, s 115, s 116, s 117, s 118, s 119, s 120, s 121, s 122, s 123, s 124, s 125, s 126, s 127, s 128, s 129, s 130, s 131, s 132, s 133, s 134, s 135, s 136, s 137, s 138, s 139, s 140, s 141, s 142, s 143, s 144, s 145, s 146, s 147, s 148]
theorem qcT_of {A : Array Value} (h : A.size = 149) : ∃ s, A = qcT s := by
 obtain ⟨s, hs, _⟩ := arr_lit A h
 exact ⟨s, hs⟩
theorem qc_0 {a b : Value}  {cs : List Frame} {main : Bool} {Stop : Goroutine → World → Prop}
  (h : ∀ A, Slots 149 A [(0, a), (1, b)] → Own Try.prog main F Stop (G (Frame.enter Try.prog 12 #[] .normal) (((Go.Conc.base 4).at ⟨A, []⟩ [.inRegion qco1 [0, 1], .code qcc19, .code qcs4]) :: cs)) w) :
  Own Try.prog main F Stop (G (Frame.enter Try.prog 4 #[a, b] .normal) cs) w := by
 rw [enter_qc]
 walk_nrm
 rw [qcs0_eq]
 refine ogS ?_
 rw [qcr0_eq]
 refine ogR ?_
 simp only [qco0, Code.opsOf, qcr0, Code.piece, qcBody, Try.f4, Option.getD_some, List.size_toArray, List.length_cons, List.length_nil, Nat.reduceAdd, Nat.zero_add, List.range, List.range.loop]
 (refine oW fun dd K hK => ?_; go_simp; refine qT hK ?_; clear hK K)
 refine ogE ?_
 rw [qcs1_eq]
 refine ogS ?_
 rw [qcs2_eq]
 refine ogS ?_
 rw [qcr1_eq]
 refine ogR ?_
 simp only [qco1, Code.opsOf, qcr1, Code.piece, qcBody, Try.f4, Option.getD_some, List.size_toArray, List.length_cons, List.length_nil, Nat.reduceAdd, Nat.zero_add, List.range, List.range.loop]
 refine oc callable12 #[] ?_
 refine h _ ?_
 exact ⟨rfl, rfl, rfl, trivial⟩
theorem qc_1 {a b : Value} {A : Array Value} (hA : Slots 149 A [(0, a), (1, b)]) {cs : List Frame} {main : Bool} {Stop : Goroutine → World → Prop}
  (h : ∀ A, Slots 149 A [(0, a), (1, b)] → Own Try.prog main F Stop (G ((Go.Conc.base 4).at ⟨A, []⟩ [.code qcr3, .code qcs5]) cs) w) :
  Own Try.prog main F Stop (G (((Go.Conc.base 4).at ⟨A, []⟩ [.inRegion qco1 [0, 1], .code qcc19, .code qcs4]).finish (.bool true)) cs) w := by
 obtain ⟨hsz, h0, h1, _⟩ := hA
 obtain ⟨s, rfl⟩ := qcT_of hsz
 change s 0 = _ at h0
 change s 1 = _ at h1
 clear hsz
 simp only [qcT, h0, h1]
 clear h0 h1
 rw [Frame.finish_at]
 simp only [qco1, Code.opsOf, qcr1, Code.piece, qcBody, Try.f4, Option.getD_some, List.size_toArray, List.length_cons, List.length_nil, Nat.reduceAdd, Nat.zero_add, List.range, List.range.loop]
 walk_nrm
 (refine oW fun dd K hK => ?_; go_simp; refine qT hK ?_; clear hK K)
 refine ogE ?_
 rw [qcc19_eq]
 refine ogF ?_
 simp only [Bool.false_eq_true, if_false]
 refine ogK ?_
 rw [qcs4_eq]
 refine ogS ?_
 refine h _ ?_
 exact ⟨rfl, rfl, rfl, trivial⟩
theorem qc_2 {a b iv : Value} {A : Array Value} (hA : Slots 149 A [(0, a), (1, b), (5, iv)]) {cs : List Frame} {main : Bool} {Stop : Goroutine → World → Prop}
  (h : ∀ A, Slots 149 A [(0, a), (1, b), (5, iv)] → Own Try.prog main F Stop (G (Frame.enter Try.prog 16 #[iv] .normal) (((Go.Conc.base 4).at ⟨A, []⟩ [.inRegion qco4 [1, 2], .code qcs6]) :: cs)) w) :
  Own Try.prog main F Stop (G ((Go.Conc.base 4).at ⟨A, []⟩ [.code qcs5]) cs) w := by
 obtain ⟨hsz, h0, h1, h5, _⟩ := hA
 obtain ⟨s, rfl⟩ := qcT_of hsz
 change s 0 = _ at h0
 change s 1 = _ at h1
 change s 5 = _ at h5
 clear hsz
 simp only [qcT, h0, h1, h5]
 clear h0 h1 h5
 rw [qcs5_eq]
 refine ogS ?_
 rw [qcr4_eq]
 refine ogR ?_
 simp only [qco4, Code.opsOf, qcr4, Code.piece, qcBody, Try.f4, Option.getD_some, List.size_toArray, List.length_cons, List.length_nil, Nat.reduceAdd, Nat.zero_add, List.range, List.range.loop]
 (refine oW fun dd K hK => ?_; go_simp; refine qT hK ?_; clear hK K)
 refine oc callable16 #[iv] ?_
 refine h _ ?_
 exact ⟨rfl, rfl, rfl, rfl, trivial⟩
theorem qc_3 {a b iv qv : Value} {A : Array Value} (hA : Slots 149 A [(0, a), (1, b), (5, iv)]) {cs : List Frame} {main : Bool} {Stop : Goroutine → World → Prop}
  (h : ∀ A, Slots 149 A [(0, a), (1, b), (5, iv), (6, qv)] → Own Try.prog main F Stop (G ((Go.Conc.base 4).at ⟨A, []⟩ [.code qcr5, .code qcs7]) cs) w) :
  Own Try.prog main F Stop (G (((Go.Conc.base 4).at ⟨A, []⟩ [.inRegion qco4 [1, 2], .code qcs6]).finish qv) cs) w := by
 obtain ⟨hsz, h0, h1, h5, _⟩ := hA
 obtain ⟨s, rfl⟩ := qcT_of hsz
 change s 0 = _ at h0
 change s 1 = _ at h1
 change s 5 = _ at h5
 clear hsz
 simp only [qcT, h0, h1, h5]
 clear h0 h1 h5
 rw [Frame.finish_at]
 simp only [qco4, Code.opsOf, qcr4, Code.piece, qcBody, Try.f4, Option.getD_some, List.size_toArray, List.length_cons, List.length_nil, Nat.reduceAdd, Nat.zero_add, List.range, List.range.loop]
 walk_nrm
 (refine oW fun dd K hK => ?_; go_simp; refine qT hK ?_; clear hK K)
 refine ogE ?_
 rw [qcs6_eq]
 refine ogS ?_
 refine h _ ?_
 exact ⟨rfl, rfl, rfl, rfl, rfl, trivial⟩
theorem qc_4 {n0 : Nat} (hU : Under F n0) (hn0 : n0 ≤ w.heap.size) {a b iv qv rv : Value} {A : Array Value} (hA : Slots 149 A [(0, a), (1, b), (5, iv), (6, qv), (7, rv)]) {cs : List Frame} {main : Bool} {Stop : Goroutine → World → Prop}
  (h : ∀ A, Slots 149 A [(0, a), (1, b), (5, iv), (6, qv), (7, rv), (8, .pointer (some ⟨w.heap.size, 0, none⟩))] → Own Try.prog main F Stop (G ((Go.Conc.base 4).at ⟨A, []⟩ [.code qcr7, .code qcc36, .code qcs11]) cs) (w.alloc (.cells #[.int .i64 0] 39))) :
  Own Try.prog main F Stop (G ((Go.Conc.base 4).at ⟨A, []⟩ [.code qcs7]) cs) w := by
 obtain ⟨hsz, h0, h1, h5, h6, h7, _⟩ := hA
 obtain ⟨s, rfl⟩ := qcT_of hsz
 change s 0 = _ at h0
 change s 1 = _ at h1
 change s 5 = _ at h5
 change s 6 = _ at h6
 change s 7 = _ at h7
 clear hsz
 simp only [qcT, h0, h1, h5, h6, h7]
 clear h0 h1 h5 h6 h7
 rw [qcs7_eq]
 refine ogS ?_
 rw [qcr6_eq]
 refine ogR ?_
 simp only [qco6, Code.opsOf, qcr6, Code.piece, qcBody, Try.f4, Option.getD_some, List.size_toArray, List.length_cons, List.length_nil, Nat.reduceAdd, Nat.zero_add, List.range, List.range.loop]
 (refine oW fun dd K hK => ?_; go_simp; refine qT hK ?_; clear hK K)
 (refine oW fun dd K hK => ?_; go_simp; refine qA hK hU ?_; clear hK K)
 (refine oW fun dd K hK => ?_; go_simp; refine qT hK ?_; clear hK K)
 refine ogE ?_
 rw [qcs8_eq]
 refine ogS ?_
 rw [qcs9_eq]
 refine ogS ?_
 refine h _ ?_
 exact ⟨rfl, rfl, rfl, rfl, rfl, rfl, rfl, trivial⟩
theorem qc_5 {a b iv qv rv sv : Value}  {A : Array Value} (hA : Slots 149 A [(1, b), (5, iv), (6, qv), (7, rv), (8, sv), (36, .bool false)]) {cs : List Frame} {main : Bool} {Stop : Goroutine → World → Prop}
  (h : ∀ A, Slots 149 A [(1, b), (5, iv), (6, qv), (7, rv), (8, sv)] → Own Try.prog main F Stop (G ((Go.Conc.base 4).at ⟨A, []⟩ [.code qcs12, .code qcs17]) cs) w) :
  Own Try.prog main F Stop (G ((Go.Conc.base 4).at ⟨A, []⟩ [.code qcc36, .code qcs11]) cs) w := by
 obtain ⟨hsz, h1, h5, h6, h7, h8, h36, _⟩ := hA
 obtain ⟨s, rfl⟩ := qcT_of hsz
 change s 1 = _ at h1
 change s 5 = _ at h5
 change s 6 = _ at h6
 change s 7 = _ at h7
 change s 8 = _ at h8
 change s 36 = _ at h36
 clear hsz
 simp only [qcT, h1, h5, h6, h7, h8, h36]
 clear h1 h5 h6 h7 h8 h36
 rw [qcc36_eq]
 refine ogF ?_
 simp only [Bool.false_eq_true, if_false]
 refine ogK ?_
 rw [qcs11_eq]
 refine ogS ?_
 refine h _ ?_
 exact ⟨rfl, rfl, rfl, rfl, rfl, rfl, trivial⟩
theorem qc_6 {b qv rv sv : Value} {A : Array Value} (hA : Slots 149 A [(1, b), (6, qv), (7, rv), (8, sv)]) {cs : List Frame} {main : Bool} {Stop : Goroutine → World → Prop}
  (h : ∀ A, Slots 149 A [(1, b), (6, qv), (7, rv), (8, sv), (10, .int .i64 0)] → Own Try.prog main F Stop (G ((Go.Conc.base 4).at ⟨A, []⟩ [.code qcs20, .inLoop qcs20, .inBlock 2, .code qcs33]) cs) w) :
  Own Try.prog main F Stop (G ((Go.Conc.base 4).at ⟨A, []⟩ [.code qcs17]) cs) w := by
 obtain ⟨hsz, h1, h6, h7, h8, _⟩ := hA
 obtain ⟨s, rfl⟩ := qcT_of hsz
 change s 1 = _ at h1
 change s 6 = _ at h6
 change s 7 = _ at h7
 change s 8 = _ at h8
 clear hsz
 simp only [qcT, h1, h6, h7, h8]
 clear h1 h6 h7 h8
 rw [qcs17_eq]
 refine ogS ?_
 rw [qcs18_eq]
 refine ogS ?_
 rw [qcr13_eq]
 refine ogR ?_
 simp only [qco13, Code.opsOf, qcr13, Code.piece, qcBody, Try.f4, Option.getD_some, List.size_toArray, List.length_cons, List.length_nil, Nat.reduceAdd, Nat.zero_add, List.range, List.range.loop]
 (refine oW fun dd K hK => ?_; go_simp; refine qT hK ?_; clear hK K)
 refine ogE ?_
 rw [qcb2_eq]
 refine ogB ?_
 rw [qcl19_eq]
 refine ogP ?_
 refine h _ ?_
 exact ⟨rfl, rfl, rfl, rfl, rfl, rfl, trivial⟩
theorem qc_7 {oa : Option Addr} {on cp i : Nat} {qv rv sv : Value} (hi : i < on) {A : Array Value} (hA : Slots 149 A [(1, .slice oa on cp), (6, qv), (7, rv), (8, sv), (10, .int .i64 i)]) {cs : List Frame} {main : Bool} {Stop : Goroutine → World → Prop}
  (h : ∀ A, Slots 149 A [(1, .slice oa on cp), (6, qv), (7, rv), (8, sv), (10, .int .i64 i)] → Own Try.prog main F Stop (G ((Go.Conc.base 4).at ⟨A, []⟩ [.code qcr16, .code qcs24, .inBlock 3, .code qcr15, .inLoop qcs20, .inBlock 2, .code qcs33]) cs) w) :
  Own Try.prog main F Stop (G ((Go.Conc.base 4).at ⟨A, []⟩ [.code qcs20, .inLoop qcs20, .inBlock 2, .code qcs33]) cs) w := by
 obtain ⟨hsz, h1, h6, h7, h8, h10, _⟩ := hA
 obtain ⟨s, rfl⟩ := qcT_of hsz
 change s 1 = _ at h1
 change s 6 = _ at h6
 change s 7 = _ at h7
 change s 8 = _ at h8
 change s 10 = _ at h10
 clear hsz
 simp only [qcT, h1, h6, h7, h8, h10]
 clear h1 h6 h7 h8 h10
 have hlt : decide ((i : Int) < (on : Int)) = true := by simp; omega
 have hlt2 : decide (i < on) = true := by simp; omega
 rw [qcs20_eq]
 refine ogS ?_
 rw [qcs21_eq]
 refine ogS ?_
 rw [qcr14_eq]
 refine ogR ?_
 simp only [qco14, Code.opsOf, qcr14, Code.piece, qcBody, Try.f4, Option.getD_some, List.size_toArray, List.length_cons, List.length_nil, Nat.reduceAdd, Nat.zero_add, List.range, List.range.loop]
 iterate 4 (refine oW fun dd K hK => ?_; go_simp; refine qT hK ?_; clear hK K)
 refine ogE ?_
 rw [qcc49_eq]
 refine ogT ?_
 simp only [if_true]
 refine ogK ?_
 rw [qcs22_eq]
 refine ogS ?_
 rw [qcb3_eq]
 refine ogB ?_
 rw [qcs23_eq]
 refine ogS ?_
 refine h _ ?_
 exact ⟨rfl, rfl, rfl, rfl, rfl, rfl, trivial⟩
theorem qc_8 {sb : Nat} {m : Int} (hc : w.cell? ⟨sb, 0, none⟩ = some (.int .i64 m)) (hz : w.frozen? ⟨sb, 0, none⟩ = false) {b qv rv cv : Value} {i : Nat} {A : Array Value} (hA : Slots 149 A [(1, b), (6, qv), (7, rv), (8, .pointer (some ⟨sb, 0, none⟩)), (10, .int .i64 i), (11, cv)]) {cs : List Frame} {main : Bool} {Stop : Goroutine → World → Prop}
  (h : ∀ A, Slots 149 A [(1, b), (6, qv), (7, rv), (8, .pointer (some ⟨sb, 0, none⟩)), (10, .int .i64 i), (11, cv), (12, .int .i64 m)] → Own Try.prog main F Stop (G ((Go.Conc.base 4).at ⟨A, []⟩ [.code qcb4, .code qcs30, .inBlock 3, .code qcr15, .inLoop qcs20, .inBlock 2, .code qcs33]) cs) w) :
  Own Try.prog main F Stop (G ((Go.Conc.base 4).at ⟨A, []⟩ [.code qcs24, .inBlock 3, .code qcr15, .inLoop qcs20, .inBlock 2, .code qcs33]) cs) w := by
 obtain ⟨hsz, h1, h6, h7, h8, h10, h11, _⟩ := hA
 obtain ⟨s, rfl⟩ := qcT_of hsz
 change s 1 = _ at h1
 change s 6 = _ at h6
 change s 7 = _ at h7
 change s 8 = _ at h8
 change s 10 = _ at h10
 change s 11 = _ at h11
 clear hsz
 simp only [qcT, h1, h6, h7, h8, h10, h11]
 clear h1 h6 h7 h8 h10 h11
 rw [qcs24_eq]
 refine ogS ?_
 rw [qcr17_eq]
 refine ogR ?_
 simp only [qco17, Code.opsOf, qcr17, Code.piece, qcBody, Try.f4, Option.getD_some, List.size_toArray, List.length_cons, List.length_nil, Nat.reduceAdd, Nat.zero_add, List.range, List.range.loop]
 iterate 3 (refine oW fun dd K hK => ?_; go_simp; refine qT hK ?_; clear hK K)
 (refine oW fun dd K hK => ?_; go_simp; refine hK _ _ ⟨⟨⟨0, Grew.refl _ _⟩, fun e he => by (have hm := mem_listed he; clear he hK; simp [go_sem, hc, hz] at hm; subst hm; exact evT_read _ _)⟩, Own.at ?_ dd⟩; clear hK K)
 (refine oW fun dd K hK => ?_; go_simp; refine qT hK ?_; clear hK K)
 refine ogE ?_
 rw [qcs25_eq]
 refine ogS ?_
 refine h _ ?_
 exact ⟨rfl, rfl, rfl, rfl, rfl, rfl, rfl, rfl, trivial⟩
theorem qc_9 {ob oo : Nat} {on cp i : Nat} {ov : Op4} (hi : i < on) (h0 : w.cell? ⟨ob, oo + i * 4, none⟩ = some (.int .i64 ov.kd)) (h1 : w.cell? ⟨ob, oo + i * 4 + 1, none⟩ = some (.int .i64 ov.a)) (h2 : w.cell? ⟨ob, oo + i * 4 + 2, none⟩ = some (.int .i64 ov.b)) (h3 : w.cell? ⟨ob, oo + i * 4 + 3, none⟩ = some (.int .i64 ov.c)) (g0 : w.frozen? ⟨ob, oo + i * 4, none⟩ = false) (g1 : w.frozen? ⟨ob, oo + i * 4 + 1, none⟩ = false) (g2 : w.frozen? ⟨ob, oo + i * 4 + 2, none⟩ = false) (g3 : w.frozen? ⟨ob, oo + i * 4 + 3, none⟩ = false) {qv rv sv cv : Value} {m : Int} {A : Array Value} (hA : Slots 149 A [(1, .slice (some ⟨ob, oo, none⟩) on cp), (6, qv), (7, rv), (8, sv), (10, .int .i64 i), (11, cv), (12, .int .i64 m)]) {cs : List Frame} {main : Bool} {Stop : Goroutine → World → Prop}
  (h : ∀ A, Slots 149 A [(1, .slice (some ⟨ob, oo, none⟩) on cp), (6, qv), (7, rv), (8, sv), (10, .int .i64 i), (11, cv), (12, .int .i64 m)] → Own Try.prog main F Stop (G (Frame.enter Try.prog 21 #[qv, sv, ov.v] .normal) (((Go.Conc.base 4).at ⟨A, []⟩ [.inRegion qco21 [6, 7, 8], .code qcs31, .inBlock 3, .code qcr15, .inLoop qcs20, .inBlock 2, .code qcs33]) :: cs)) w) :
  Own Try.prog main F Stop (G ((Go.Conc.base 4).at ⟨A, []⟩ [.code qcs30, .inBlock 3, .code qcr15, .inLoop qcs20, .inBlock 2, .code qcs33]) cs) w := by
 obtain ⟨hsz, h1, h6, h7, h8, h10, h11, h12, _⟩ := hA
 obtain ⟨s, rfl⟩ := qcT_of hsz
 change s 1 = _ at h1
 change s 6 = _ at h6
 change s 7 = _ at h7
 change s 8 = _ at h8
 change s 10 = _ at h10
 change s 11 = _ at h11
 change s 12 = _ at h12
 clear hsz
 simp only [qcT, h1, h6, h7, h8, h10, h11, h12]
 clear h1 h6 h7 h8 h10 h11 h12
 have hi2 : (i : Int) < (on : Int) := by omega
 rw [qcs30_eq]
 refine ogS ?_
 rw [qcr21_eq]
 refine ogR ?_
 simp only [qco21, Code.opsOf, qcr21, Code.piece, qcBody, Try.f4, Option.getD_some, List.size_toArray, List.length_cons, List.length_nil, Nat.reduceAdd, Nat.zero_add, List.range, List.range.loop]
 iterate 4 (refine oW fun dd K hK => ?_; go_simp; refine qT hK ?_; clear hK K)
 (refine oW fun dd K hK => ?_; go_simp; refine hK _ _ ⟨⟨⟨0, Grew.refl _ _⟩, fun e he => by (have hm := mem_listed he; simp [go_sem, hi, hi2] at hm)⟩, Own.at ?_ dd⟩; clear hK K)
 (refine oW fun dd K hK => ?_; go_simp; refine hK _ _ ⟨⟨⟨0, Grew.refl _ _⟩, fun e he => by (have hm := mem_listed he; clear he hK; simp [go_sem, h0, h1, h2, h3, g0, g1, g2, g3] at hm; rcases hm with rfl | rfl | rfl | rfl <;> exact evT_read _ _)⟩, Own.at ?_ dd⟩; clear hK K)
 refine oc callable21 #[qv, sv, .agg #[.int .i64 ov.kd, .int .i64 ov.a, .int .i64 ov.b, .int .i64 ov.c]] ?_
 refine h _ ?_
 exact ⟨rfl, rfl, rfl, rfl, rfl, rfl, rfl, rfl, trivial⟩
theorem qc_10 {n0 : Nat} (hU : Under F n0) (hn0 : n0 ≤ w.heap.size) {b qv rv sv cv : Value} {i : Nat} {m : Int} {ok : Bool} {an : Int} {A : Array Value} (hA : Slots 149 A [(1, b), (6, qv), (7, rv), (8, sv), (10, .int .i64 i), (11, cv), (12, .int .i64 m)]) {cs : List Frame} {main : Bool} {Stop : Goroutine → World → Prop}
  (h : ∀ A, Slots 149 A [(1, b), (6, qv), (7, rv), (8, sv), (10, .int .i64 i), (11, cv), (12, .int .i64 m), (13, .pointer (some ⟨w.heap.size, 0, none⟩))] → Own Try.prog main F Stop (G ((Go.Conc.base 4).at ⟨A, []⟩ [.code qcr22, .code qcc109, .inBlock 3, .code qcr15, .inLoop qcs20, .inBlock 2, .code qcs33]) cs) (w.alloc (.cells #[.bool ok, .int .i64 an, .slice none 0 0] 46))) :
  Own Try.prog main F Stop (G (((Go.Conc.base 4).at ⟨A, []⟩ [.inRegion qco21 [6, 7, 8], .code qcs31, .inBlock 3, .code qcr15, .inLoop qcs20, .inBlock 2, .code qcs33]).finish (.agg #[.bool ok, .int .i64 an, .slice none 0 0])) cs) w := by
 obtain ⟨hsz, h1, h6, h7, h8, h10, h11, h12, _⟩ := hA
 obtain ⟨s, rfl⟩ := qcT_of hsz
 change s 1 = _ at h1
 change s 6 = _ at h6
 change s 7 = _ at h7
 change s 8 = _ at h8
 change s 10 = _ at h10
 change s 11 = _ at h11
 change s 12 = _ at h12
 clear hsz
 simp only [qcT, h1, h6, h7, h8, h10, h11, h12]
 clear h1 h6 h7 h8 h10 h11 h12
 rw [Frame.finish_at]
 simp only [qco21, Code.opsOf, qcr21, Code.piece, qcBody, Try.f4, Option.getD_some, List.size_toArray, List.length_cons, List.length_nil, Nat.reduceAdd, Nat.zero_add, List.range, List.range.loop]
 walk_nrm
 (refine oW fun dd K hK => ?_; go_simp; refine qA hK hU ?_; clear hK K)
 (refine oW fun dd K hK => ?_; go_simp; refine hK _ _ ⟨⟨⟨0, grew3 (fun k => not_held hU (show n0 ≤ w.heap.size by omega)) _ _ _⟩, fun e he => by (have hm := mem_listed he; clear he hK; simp [go_sem, storedEv] at hm; rcases hm with rfl | rfl | rfl <;> exact evT_write _ _ ((fun k => not_held hU (show n0 ≤ w.heap.size by omega)) _))⟩, ?_⟩; clear hK K; simp only [setCell_at']; refine Own.at ?_ dd)
 have e1 := ansW_new w (.bool false) (.int .i64 0) (.slice none 0 0) ok an
 rw [e1]
 clear e1
 refine ogE ?_
 rw [qcs31_eq]
 refine ogS ?_
 refine h _ ?_
 exact ⟨rfl, rfl, rfl, rfl, rfl, rfl, rfl, rfl, rfl, trivial⟩
def qcHD (cs : List Frame) (A : Array Value) : Goroutine := (G ((Go.Conc.base 4).at ⟨A, []⟩ [.code qcs20, .inLoop qcs20, .inBlock 2, .code qcs33]) cs)
end
noncomputable section
variable {P : Program} {main : Bool} {F : Fz} {fn : FuncId} {ops : Array Oper} {S : World → Prop} {last : Nat} {Z : Act → World → Prop}
def Callee (P : Program) (main : Bool) (F : Fz) (f : FuncId) (args : Array Value) (Post : Value → World → Prop) (w : World) : Prop :=
 ∀ (c : Frame) (cs : List Frame) (Stop : Goroutine → World → Prop), (∀ v w', Post v w' → Own P main F Stop (G (c.finish v) cs) w') → Own P main F Stop (G (Frame.enter P f args .normal) (c :: cs)) w
def OpC (P : Program) (main : Bool) (F : Fz) (fn : FuncId) (ops : Array Oper) (i : Nat) (K : Act → World → Prop) (a : Act) (w : World) : Prop :=
 ∃ o, ops[i]? = some o ∧ ((Region.wanted o (yielded ops a.tmps) = true ∧ ∀ d, uponK o a (fun a' w' => GuarE F (w.at d) w' (listed P fn a o (w.at d)) ∧ K a' w') ((execOp a.eval o).run P (w.at d))) ∨
  (Region.wanted o (yielded ops a.tmps) = false ∧ K (a.put o.dst undef) w) ∨
  (Region.wanted o (yielded ops a.tmps) = true ∧ ∃ f args Post, (∀ w, (execOp a.eval o).run P w = .ok (.enter f args) w) ∧ (∀ w, (execOp a.eval o).events P w #[] = #[]) ∧ Callee P main F f args Post w ∧ ∀ v w', Post v w' → K (a.put o.dst v) w'))
def AnyC (P : Program) (main : Bool) (F : Fz) (fn : FuncId) (ops : Array Oper) (S : World → Prop) (last : Nat) (Z : Act → World → Prop) : Nat → Array Bool → Act → World → Prop
 | 0, listed, a, w => ((∀ j ∈ Region.ready .any ops listed, j = last) → Z a w) ∧ ∀ j ∈ Region.ready .any ops listed, j = last
 | fuel + 1, listed, a, w => ((∀ j ∈ Region.ready .any ops listed, j = last) → Z a w) ∧ ∀ i ∈ Region.ready .any ops listed, i ≠ last → OpC P main F fn ops i (fun a w => S w ∧ AnyC P main F fn ops S last Z fuel (listed.setIfInBounds i true) a w) a w
theorem OpC_mono {i : Nat} {a : Act} {w : World} {K K' : Act → World → Prop} (h : ∀ a w, K a w → K' a w) (hh : OpC P main F fn ops i K a w) : OpC P main F fn ops i K' a w := by
 obtain ⟨o, h1, ⟨h2, h3⟩ | ⟨h2, h3⟩ | ⟨h2, f, args, Post, r1, r2, r3, r4⟩⟩ := hh
 ·exact ⟨o, h1, .inl ⟨h2, fun d => uponK_mono (fun u w ⟨x, y⟩ => ⟨x, h _ _ y⟩) (h3 d)⟩⟩
 ·exact ⟨o, h1, .inr (.inl ⟨h2, h _ _ h3⟩)⟩
 ·exact ⟨o, h1, .inr (.inr ⟨h2, f, args, Post, r1, r2, r3, fun v w' hp => h _ _ (r4 v w' hp)⟩)⟩
theorem OpC_at {i : Nat} {a : Act} {w : World} {K : Act → World → Prop} (hK : ∀ a w d, K a w → K a (World.at w d)) (h : OpC P main F fn ops i K a w) (d : Nat) : OpC P main F fn ops i K a (w.at d) := by
 obtain ⟨o, h1, ⟨h2, h3⟩ | ⟨h2, h3⟩ | ⟨h2, f, args, Post, r1, r2, r3, r4⟩⟩ := h
 ·exact ⟨o, h1, .inl ⟨h2, fun d' => by rw [at_at']; exact h3 d'⟩⟩
 ·exact ⟨o, h1, .inr (.inl ⟨h2, hK _ _ _ h3⟩)⟩
 ·exact ⟨o, h1, .inr (.inr ⟨h2, f, args, Post, r1, r2, fun c cs Stop k => (r3 c cs Stop k).at d, r4⟩)⟩
theorem anyC_at (hS : ∀ w d, S w → S (World.at w d)) (hZ : ∀ a w d, Z a w → Z a (World.at w d)) : ∀ (fuel : Nat) (listed : Array Bool) (a : Act) (w : World), AnyC P main F fn ops S last Z fuel listed a w → ∀ d, AnyC P main F fn ops S last Z fuel listed a (w.at d) := by
 intro fuel
 induction fuel with
 | zero => exact fun listed a w h d => ⟨fun x => hZ _ _ _ (h.1 x), h.2⟩
 | succ fuel ih => exact fun listed a w h d => ⟨fun x => hZ _ _ _ (h.1 x), fun i hi hl => OpC_at (fun a w d ⟨x, y⟩ => ⟨hS _ _ x, ih _ _ _ y d⟩) (h.2 i hi hl) d⟩
theorem OpC_put {i j : Nat} {oi oj : Oper} {v : Value} (hj : ops[j]? = some oj) (hap : oi.apart ops oj = true) (hsj : ∀ cs b, oj.op ≠ .select cs b) {K : Act → World → Prop} {a : Act} {w : World}
  (h : OpC P main F fn ops j K (a.put oi.dst v) w) : OpC P main F fn ops j (fun a' w' => ∃ u, a' = a.put oj.dst u ∧ K (a'.put oi.dst v) w') a w := by
 obtain ⟨h1, h2, h3⟩ := Oper.apart_spec hap
 obtain ⟨o, ho, hh⟩ := h
 rw [hj] at ho
 cases ho
 have e1 : execOp (a.put oi.dst v).eval oj = execOp a.eval oj := execOp_put oj hsj a oi.dst v h1
 have e2 := wanted_put oj a oi.dst v h1
 refine ⟨oj, hj, ?_⟩
 unfold listed at *
 rw [e1, e2] at hh
 rcases hh with ⟨hw, hh⟩ | ⟨hw, hh⟩ | ⟨hw, f, args, Post, r1, r2, r3, r4⟩
 ·refine .inl ⟨hw, fun d => ?_⟩
  have := hh d
  cases hr : (execOp a.eval oj).run P (w.at d) with
  | halt _ _ => rw [hr] at this; exact this
  | ok x w' =>
   rw [hr] at this
   cases x with
   | value u => exact ⟨this.1, u, rfl, by rw [← Act.put_comm a v u h2]; exact this.2⟩
   | skip => exact ⟨this.1, undef, rfl, by rw [← Act.put_comm a v undef h2]; exact this.2⟩
   | _ => exact this
 ·exact .inr (.inl ⟨hw, undef, rfl, by rw [← Act.put_comm a v undef h2]; exact hh⟩)
 ·exact .inr (.inr ⟨hw, f, args, Post, r1, r2, r3, fun u w' hp => ⟨u, rfl, by rw [← Act.put_comm a v u h2]; exact r4 u w' hp⟩⟩)
theorem anyC_first (hS : ∀ w d, S w → S (World.at w d)) (hZ : ∀ a w d, Z a w → Z a (World.at w d)) {i : Nat} {oi : Oper} {v : Value} (hi : ops[i]? = some oi) (hil : i ≠ last) (hsel : ∀ (j : Nat) (o : Oper) cs b, ops[j]? = some o → o.op ≠ .select cs b) :
  ∀ (fuel : Nat) (listed : Array Bool) (a : Act) (w : World), S w →
   (∀ j oj, ops[j]? = some oj → j ≠ i → listed.getD j true = false → (∀ e ∈ oj.after, Region.binds .any e = true → e.on ≠ i) → oi.apart ops oj = true) →
   i ∈ Region.ready .any ops listed → (∀ w, S w → YQ P F fn ops w oi v a) →
   AnyC P main F fn ops S last Z fuel (listed.setIfInBounds i true) (a.put oi.dst v) w → AnyC P main F fn ops S last Z (fuel + 1) listed a w := by
 have self : ∀ (fuel : Nat) (listed : Array Bool) (a : Act) (w : World), S w → (∀ w, S w → YQ P F fn ops w oi v a) → AnyC P main F fn ops S last Z fuel (listed.setIfInBounds i true) (a.put oi.dst v) w →
   OpC P main F fn ops i (fun a w => S w ∧ AnyC P main F fn ops S last Z fuel (listed.setIfInBounds i true) a w) a w := by
  intro fuel listed a w hw hy H
  rcases hy w hw with ⟨h1, h2⟩ | ⟨h1, rfl⟩
  ·exact ⟨oi, hi, .inl ⟨h1, fun d => by rw [(h2 d).1]; exact ⟨⟨⟨0, Grew.refl F _⟩, (h2 d).2⟩, hS _ _ hw, anyC_at hS hZ _ _ _ _ H d⟩⟩⟩
  ·exact ⟨oi, hi, .inr (.inl ⟨h1, hw, H⟩)⟩
 intro fuel
 induction fuel with
 | zero =>
  intro listed a w hw _ hr hy H
  refine ⟨fun h => absurd (h i hr) hil, fun j hj hjl => ?_⟩
  by_cases hji : j = i
  ·subst hji; exact self _ _ _ _ hw hy H
  ·exact absurd (H.2 j (ready_mono hj hji)) hjl
 | succ fuel ih =>
  intro listed a w hw hfree hr hy H
  refine ⟨fun h => absurd (h i hr) hil, fun j hj hjl => ?_⟩
  by_cases hji : j = i
  ·subst hji; exact self _ _ _ _ hw hy H
  ·have h1 := H.2 j (ready_mono hj hji) hjl
   obtain ⟨hjun, oj, hoj, hall⟩ := mem_ready.1 hj
   have hnot : ∀ e ∈ oj.after, Region.binds .any e = true → e.on ≠ i := fun e he hb heq => by
    have h1 := hall e he hb
    have h0 := (mem_ready.1 hr).1
    rw [heq] at h1
    rcases Nat.lt_or_ge i listed.size with h' | h'
    ·simp [h'] at h0 h1; rw [h0] at h1; cases h1
    ·simp [Array.getElem?_eq_none h'] at h1
   have hap := hfree j oj hoj hji hjun hnot
   obtain ⟨p1, p2, p3⟩ := Oper.apart_spec hap
   have h2 := OpC_put (i := i) (oi := oi) hoj hap (fun cs b => hsel j oj cs b hoj) h1
   have hfree' : ∀ k ok, ops[k]? = some ok → k ≠ i → (listed.setIfInBounds j true).getD k true = false →
     (∀ e ∈ ok.after, Region.binds .any e = true → e.on ≠ i) → oi.apart ops ok = true := fun k ok hk hki hun hno => by
    refine hfree k ok hk hki ?_ hno
    by_cases hjk : j = k
    ·subst hjk; exact hjun
    ·rw [getD_set_ne true hjk] at hun; exact hun
   refine OpC_mono (fun a' w' h3 => ?_) h2
   obtain ⟨u, rfl, hw', h4⟩ := h3
   refine ⟨hw', ih (listed.setIfInBounds j true) _ _ hw' hfree' (ready_mono hr (Ne.symm hji)) (fun w hw => (hy w hw).of_same (execOp_put oi (fun cs b => hsel i oi cs b hi) a oj.dst u p3) (wanted_put oi a oj.dst u p3)) ?_⟩
   rw [Array.setIfInBounds_comm _ _ hji]
   exact h4
theorem anyC_take (hS : ∀ w d, S w → S (World.at w d)) (hZ : ∀ a w d, Z a w → Z a (World.at w d)) {i : Nat} {oi : Oper} {v : Value} {fuel : Nat} {listed : Array Bool} {a : Act} {w : World} (hw : S w) (hi : ops[i]? = some oi) (hil : (i != last) = true) (hs : Region.noSelect ops = true) (hf : Region.free .any ops listed i = true)
  (hr : (Region.ready .any ops listed).contains i = true) (hy : ∀ w, S w → YQ P F fn ops w oi v a) (h : AnyC P main F fn ops S last Z fuel (listed.setIfInBounds i true) (a.put oi.dst v) w) : AnyC P main F fn ops S last Z (fuel + 1) listed a w :=
 anyC_first hS hZ hi (by simpa using hil) (Region.noSelect_spec hs) fuel listed a w hw (Region.free_spec hi hf) (by simpa using hr) hy h
theorem anyC_all {fuel : Nat} {listed : Array Bool} {a : Act} {w : World} {r : List Nat} (hr : Region.ready .any ops listed = r) (hl : r.any (· != last) = true)
  (h : ∀ i ∈ r, i ≠ last → OpC P main F fn ops i (fun a w => S w ∧ AnyC P main F fn ops S last Z fuel (listed.setIfInBounds i true) a w) a w) : AnyC P main F fn ops S last Z (fuel + 1) listed a w :=
 ⟨fun hn => by
  rw [hr] at hn
  obtain ⟨i, hi, hil⟩ := List.any_eq_true.1 hl
  exact absurd (hn i hi) (by simpa using hil), by rw [hr]; exact h⟩
theorem anyC_end {listed : Array Bool} {a : Act} {w : World} (hr : Region.ready .any ops listed = [last]) (h : Z a w) : ∀ fuel, AnyC P main F fn ops S last Z fuel listed a w
 | 0 => ⟨fun _ => h, by rw [hr]; simp⟩
 | _ + 1 => ⟨fun _ => h, fun i hi hne => absurd (by rw [hr] at hi; simpa using hi) hne⟩
theorem own_opc {Stop : Goroutine → World → Prop} {b : Frame} {a : Act} {w : World} {k : List Item} {cs : List Frame} {i : Nat} {rest : List Nat} (hk : b.kind ≠ .early)
  (h : OpC P main F b.fn ops i (fun a w => Own P main F Stop (G (b.at a (.inRegion ops rest :: k)) cs) w) a w) : Own P main F Stop (G (b.at a (.inRegion ops (i :: rest) :: k)) cs) w := by
 obtain ⟨o, ho, ⟨hw, hh⟩ | ⟨hw, hh⟩ | ⟨hw, f, args, Post, r1, r2, r3, r4⟩⟩ := h
 ·refine .step rfl fun d => ?_
  have := hh d
  cases hr : (execOp a.eval o).run P (w.at d) with
  | halt _ _ => rw [hr] at this; exact this.elim
  | ok x w' =>
   rw [hr] at this
   cases x with
   | value u => exact ⟨_, _, _, stepG_value ho hw hk hr, this.1, this.2⟩
   | skip => exact ⟨_, _, _, stepG_none ho hw hk hr, this.1, this.2⟩
   | _ => exact this.elim
 ·exact .step rfl fun d => ⟨_, _, #[], stepG_unwanted ho hw, ⟨⟨0, Grew.refl F _⟩, by simp⟩, hh.at d⟩
 ·refine own_call ho hw hk r1 r2 (r3 _ _ _ fun v w' hp => ?_)
  have hfin : (b.at a (.inRegion ops (i :: rest) :: k)).finish v = b.at (a.put o.dst v) (.inRegion ops rest :: k) := by rw [Frame.finish_at, ho]; rfl
  rw [hfin]
  exact r4 v w' hp
theorem anyC_sound (L : LL ops last) {Stop : Goroutine → World → Prop} {b : Frame} {k : List Item} {cs : List Frame} (hk : b.kind ≠ .early) :
  ∀ (fuel t : Nat) (listed : Array Bool) (a : Act) (w : World), listed.size = ops.size → DownTo ops listed → listed.getD last true = false →
   AnyC P main F b.fn ops S last (fun a w => Own P main F Stop (G (b.at a (.inRegion ops [last] :: k)) cs) w) fuel listed a w →
   Own P main F Stop (G (b.at a (.inRegion ops (Region.linearise.go .any ops (fuel + 1) t listed []) :: k)) cs) w := by
 intro fuel
 induction fuel with
 | zero => ?_
 | succ fuel ih => ?_
 all_goals
  intro t listed a w hs hc hl H
  obtain ⟨i0, hi0⟩ := some_ready L hs last hl
  have hlen : 0 < (Region.ready .any ops listed).length := List.length_pos_of_mem hi0
  obtain ⟨i, hi⟩ : ∃ i, (Region.ready .any ops listed)[t % (Region.ready .any ops listed).length]? = some i := ⟨_, List.getElem?_eq_getElem (Nat.mod_lt _ hlen)⟩
  have hmem := List.mem_of_getElem? hi
  rw [Region.linearise.go]
  change Own P main F Stop (G (b.at a (.inRegion ops (match (Region.ready .any ops listed)[t % (Region.ready .any ops listed).length]? with
   | some i => Region.linearise.go .any ops _ (t / (Region.ready .any ops listed).length) (listed.setIfInBounds i true) [i]
   | none => [].reverse) :: k)) cs) w
  rw [hi]
  simp only []
  rw [linearise_go_acc, List.reverse_singleton, List.singleton_append]
 ·obtain rfl := H.2 i hmem
  simp only [Region.linearise.go, List.reverse_nil]
  exact H.1 H.2
 ·by_cases hil : i = last
  ·subst hil
   have hall := all_listed L hs hc hmem i
   have hre : ∀ j ∈ Region.ready .any ops listed, j = i := by
    intro j hj
    obtain ⟨h0, o, ho, _⟩ := mem_ready.1 hj
    have hlt := (Array.getElem?_eq_some_iff.1 ho).1
    have hsz := L.size
    rcases Nat.lt_or_ge j i with h | h
    ·have := hall j (by omega) h
     rw [getD_tf (by omega), this] at h0; cases h0
    ·omega
   have hnil : Region.ready .any ops (listed.setIfInBounds i true) = [] := by
    apply List.eq_nil_iff_forall_not_mem.2
    intro j hj
    obtain ⟨h0, o, ho, _⟩ := mem_ready.1 hj
    have hlt := (Array.getElem?_eq_some_iff.1 ho).1
    have hsz := L.size
    by_cases e : i = j
    ·subst e
     rw [getD_tf (by simp; omega)] at h0
     have : i < listed.size := by omega
     simp [this] at h0
    ·rw [getD_set_ne true e, getD_tf (by omega), hall j (by omega) (by omega)] at h0; cases h0
   have : Region.linearise.go .any ops (fuel + 1) (t / (Region.ready .any ops listed).length) (listed.setIfInBounds i true) [] = [] := by
    rw [Region.linearise.go]
    change (match (Region.ready .any ops (listed.setIfInBounds i true))[(t / (Region.ready .any ops listed).length) % (Region.ready .any ops (listed.setIfInBounds i true)).length]? with
     | some i => _
     | none => [].reverse) = []
    rw [hnil]; rfl
   rw [this]
   exact H.1 hre
  ·refine own_opc hk (OpC_mono (fun a' w' ⟨_, hK⟩ => ih _ _ _ _ (by simpa using hs) (fun j o' hj hlj e he hb => ?_) (by rw [getD_set_ne true hil]; exact hl) hK) (H.2 i hmem hil))
   by_cases e2 : i = j
   ·subst e2
    obtain ⟨_, o2, ho2, hd⟩ := mem_ready.1 hmem
    rw [hj] at ho2
    cases ho2
    exact getD_set_true (hd e he hb)
   ·rw [getD_set_ne false e2] at hlj
    exact getD_set_true (hc j o' hj hlj e he hb)
theorem own_drawnC (S : World → Prop) (hm : P.follows .mixedOrders = true) (L : LL ops last) {id : Nat} {Stop : Goroutine → World → Prop} {b : Frame} {a : Act} {w : World} {k : List Item} {cs : List Frame} (hk : b.kind ≠ .early)
  (h : AnyC P main F b.fn ops S last (fun a w => Own P main F Stop (G (b.at a (.inRegion ops [last] :: k)) cs) w) last (Array.replicate ops.size false) a w) :
  Own P main F Stop (G (b.at a (.code (.region id ops true) :: k)) cs) w := by
 refine .step rfl fun d => ⟨_, _, _, stepG_region_draw, ⟨⟨1, ?_⟩, by simp⟩, ?_⟩
 ·exact ⟨rfl, rfl, rfl, rfl, Nat.le_refl _, fun _ _ h => .inr h, fun _ _ => rfl⟩
 ·have hs := L.size
  have := anyC_sound (S := S) (cs := cs) (k := k) L hk last ((w.at d).tape (w.at d).drawn (.order b.fn id)) (Array.replicate ops.size false) a w (by simp) (fun j o _ hl => by
   simp at hl
   rcases Nat.lt_or_ge j ops.size with h1 | h1 <;> simp [h1] at hl) (by simp [hs]) h
  rw [← hs] at this
  simp only [Region.schedule, hm, Bool.true_or, if_true]
  exact this.at (d + 1)
theorem opc_k {i : Nat} {o : Oper} {K : Act → World → Prop} {a : Act} {w : World} (ho : ops[i]? = some o) (hw : Region.wanted o (yielded ops a.tmps) = true)
  (h : ∀ (d : Nat) (K' : Act → World → Prop), (∀ a' w', GuarE F (w.at d) w' (listed P fn a o (w.at d)) ∧ K a' w' → K' a' w') → uponK o a K' ((execOp a.eval o).run P (w.at d))) : OpC P main F fn ops i K a w :=
 ⟨o, ho, .inl ⟨hw, fun d => h d _ fun _ _ x => x⟩⟩
end
noncomputable section
variable {F : Fz} {w : World}
@[go_sem] theorem ev_neq4 (a b : Bool) (w : World) (es : Array Event) : (binOp .neq 4 (.bool a) (.bool b)).events Try.prog w es = es := by cases a <;> cases b <;> kernel_rfl
structure SR (ab cb sb : Nat) (ok : Bool) (an m : Int) (w : World) : Prop where
 a0 : w.cell? ⟨ab, 0, none⟩ = some (.bool ok)
 a1 : w.cell? ⟨ab, 1, none⟩ = some (.int .i64 an)
 c7 : w.cell? ⟨cb, 7, none⟩ = some (.bool ok)
 c8 : w.cell? ⟨cb, 8, none⟩ = some (.int .i64 an)
 s0 : w.cell? ⟨sb, 0, none⟩ = some (.int .i64 m)
 za : ∀ k, w.frozen? ⟨ab, k, none⟩ = false
 zc : ∀ k, w.frozen? ⟨cb, k, none⟩ = false
 zs : ∀ k, w.frozen? ⟨sb, k, none⟩ = false
theorem qc_11 {ab cb sb qb : Nat} {ok : Bool} {an m : Int} {i : Nat} (hi : i < 1000000000) (hs : SR ab cb sb ok an m w) {s : QS} (hq : QU qb s w) (hp : Path s.q (s.q.nx s.q.tl) []) {b rv : Value} {A : Array Value} (hA : Slots 149 A [(1, b), (6, .pointer (some ⟨qb, 0, none⟩)), (7, rv), (8, .pointer (some ⟨sb, 0, none⟩)), (10, .int .i64 i), (11, .pointer (some ⟨cb, 0, none⟩)), (12, .int .i64 m), (13, .pointer (some ⟨ab, 0, none⟩))]) {cs : List Frame} {main : Bool} {Stop : Goroutine → World → Prop}
  (h : ∀ A, Slots 149 A [(1, b), (6, .pointer (some ⟨qb, 0, none⟩)), (7, rv), (8, .pointer (some ⟨sb, 0, none⟩)), (10, .int .i64 (i + 1 : Nat))] → Own Try.prog main F Stop (G ((Go.Conc.base 4).at ⟨A, []⟩ [.code qcs20, .inLoop qcs20, .inBlock 2, .code qcs33]) cs) w) :
  Own Try.prog main F Stop (G ((Go.Conc.base 4).at ⟨A, []⟩ [.code qcr22, .code qcc109, .inBlock 3, .code qcr15, .inLoop qcs20, .inBlock 2, .code qcs33]) cs) w := by
 have hS : ∀ w d, SR ab cb sb ok an m w → SR ab cb sb ok an m (World.at w d) := fun w d h => ⟨h.a0, h.a1, h.c7, h.c8, h.s0, h.za, h.zc, h.zs⟩
 obtain ⟨hsz, h1, h6, h7, h8, h10, h11, h12, h13, _⟩ := hA
 obtain ⟨s, rfl⟩ := qcT_of hsz
 change s 1 = _ at h1
 change s 6 = _ at h6
 change s 7 = _ at h7
 change s 8 = _ at h8
 change s 10 = _ at h10
 change s 11 = _ at h11
 change s 12 = _ at h12
 change s 13 = _ at h13
 clear hsz
 simp only [qcT, h1, h6, h7, h8, h10, h11, h12, h13]
 clear h1 h6 h7 h8 h10 h11 h12 h13
 have hi64 : IntKind.i64.wrap ((i : Int) + 1) = (i : Int) + 1 := IntWalk.i64_in _ (by omega)
 have hok : (ok != ok) = false := by cases ok <;> rfl
 rw [qcr22_eq]
 refine own_drawnC (SR ab cb sb ok an m) (last := 30) run_mixed (ll_of (by kernel_rfl)) (by decide) ?_
 simp only [qco22, Code.opsOf, qcr22, Code.piece, qcBody, Try.f4, Option.getD_some, List.size_toArray, List.length_cons, List.length_nil, Nat.reduceAdd, Nat.zero_add, List.range, List.range.loop]
 refine anyC_take hS (fun _ _ d h => h.at d) (i := 0) (v := .pointer (some ⟨ab, 0, none⟩)) hs rfl rfl (by kernel_rfl) (by kernel_rfl) (by kernel_rfl) (fun u hu => .inl ⟨rfl, fun d => ⟨by simp [go_sem, execOp, Act.eval], fun e he => by have hm := mem_listed he; simp [go_sem, execOp, Act.eval] at hm⟩⟩) ?_
 walk_nrm
 refine anyC_take hS (fun _ _ d h => h.at d) (i := 1) (v := .bool ok) hs rfl rfl (by kernel_rfl) (by kernel_rfl) (by kernel_rfl) (fun u hu => .inl ⟨rfl, fun d => ⟨by simp [go_sem, execOp, Act.eval, hu.a0, hu.a1, hu.c7, hu.c8, hu.s0, hu.za, hu.zc, hu.zs], fun e he => by have hm := mem_listed he; simp [go_sem, execOp, Act.eval, hu.a0, hu.a1, hu.c7, hu.c8, hu.s0, hu.za, hu.zc, hu.zs] at hm; subst hm; exact evT_read _ _⟩⟩) ?_
 walk_nrm
 refine anyC_take hS (fun _ _ d h => h.at d) (i := 2) (v := .pointer (some ⟨cb, 0, none⟩)) hs rfl rfl (by kernel_rfl) (by kernel_rfl) (by kernel_rfl) (fun u hu => .inl ⟨rfl, fun d => ⟨by simp [go_sem, execOp, Act.eval], fun e he => by have hm := mem_listed he; simp [go_sem, execOp, Act.eval] at hm⟩⟩) ?_
 walk_nrm
 refine anyC_take hS (fun _ _ d h => h.at d) (i := 3) (v := .pointer (some ⟨cb, 0, none⟩)) hs rfl rfl (by kernel_rfl) (by kernel_rfl) (by kernel_rfl) (fun u hu => .inl ⟨rfl, fun d => ⟨by simp [go_sem, execOp, Act.eval], fun e he => by have hm := mem_listed he; simp [go_sem, execOp, Act.eval] at hm⟩⟩) ?_
 walk_nrm
 refine anyC_take hS (fun _ _ d h => h.at d) (i := 4) (v := .pointer (some ⟨cb, 7, none⟩)) hs rfl rfl (by kernel_rfl) (by kernel_rfl) (by kernel_rfl) (fun u hu => .inl ⟨rfl, fun d => ⟨by simp [go_sem, execOp, Act.eval], fun e he => by have hm := mem_listed he; simp [go_sem, execOp, Act.eval] at hm⟩⟩) ?_
 walk_nrm
 refine anyC_take hS (fun _ _ d h => h.at d) (i := 5) (v := .pointer (some ⟨cb, 7, none⟩)) hs rfl rfl (by kernel_rfl) (by kernel_rfl) (by kernel_rfl) (fun u hu => .inl ⟨rfl, fun d => ⟨by simp [go_sem, execOp, Act.eval], fun e he => by have hm := mem_listed he; simp [go_sem, execOp, Act.eval] at hm⟩⟩) ?_
 walk_nrm
 refine anyC_take hS (fun _ _ d h => h.at d) (i := 6) (v := .bool ok) hs rfl rfl (by kernel_rfl) (by kernel_rfl) (by kernel_rfl) (fun u hu => .inl ⟨rfl, fun d => ⟨by simp [go_sem, execOp, Act.eval, hu.a0, hu.a1, hu.c7, hu.c8, hu.s0, hu.za, hu.zc, hu.zs], fun e he => by have hm := mem_listed he; simp [go_sem, execOp, Act.eval, hu.a0, hu.a1, hu.c7, hu.c8, hu.s0, hu.za, hu.zc, hu.zs] at hm; subst hm; exact evT_read _ _⟩⟩) ?_
 walk_nrm
 refine anyC_take hS (fun _ _ d h => h.at d) (i := 7) (v := .bool false) hs rfl rfl (by kernel_rfl) (by kernel_rfl) (by kernel_rfl) (fun u hu => .inl ⟨rfl, fun d => ⟨by simp [go_sem, execOp, Act.eval], fun e he => by have hm := mem_listed he; simp [go_sem, execOp, Act.eval] at hm⟩⟩) ?_
 walk_nrm
 refine anyC_take hS (fun _ _ d h => h.at d) (i := 8) (v := .bool false) hs rfl rfl (by kernel_rfl) (by kernel_rfl) (by kernel_rfl) (fun u hu => .inl ⟨rfl, fun d => ⟨by simp [go_sem, execOp, Act.eval], fun e he => by have hm := mem_listed he; simp [go_sem, execOp, Act.eval] at hm⟩⟩) ?_
 walk_nrm
 refine anyC_take hS (fun _ _ d h => h.at d) (i := 9) (v := .pointer (some ⟨ab, 1, none⟩)) hs rfl rfl (by kernel_rfl) (by kernel_rfl) (by kernel_rfl) (fun u hu => .inl ⟨rfl, fun d => ⟨by simp [go_sem, execOp, Act.eval], fun e he => by have hm := mem_listed he; simp [go_sem, execOp, Act.eval] at hm⟩⟩) ?_
 walk_nrm
 refine anyC_take hS (fun _ _ d h => h.at d) (i := 10) (v := .int .i64 an) hs rfl rfl (by kernel_rfl) (by kernel_rfl) (by kernel_rfl) (fun u hu => .inl ⟨rfl, fun d => ⟨by simp [go_sem, execOp, Act.eval, hu.a0, hu.a1, hu.c7, hu.c8, hu.s0, hu.za, hu.zc, hu.zs], fun e he => by have hm := mem_listed he; simp [go_sem, execOp, Act.eval, hu.a0, hu.a1, hu.c7, hu.c8, hu.s0, hu.za, hu.zc, hu.zs] at hm; subst hm; exact evT_read _ _⟩⟩) ?_
 walk_nrm
 refine anyC_take hS (fun _ _ d h => h.at d) (i := 11) (v := .pointer (some ⟨cb, 0, none⟩)) hs rfl rfl (by kernel_rfl) (by kernel_rfl) (by kernel_rfl) (fun u hu => .inl ⟨rfl, fun d => ⟨by simp [go_sem, execOp, Act.eval], fun e he => by have hm := mem_listed he; simp [go_sem, execOp, Act.eval] at hm⟩⟩) ?_
 walk_nrm
 refine anyC_take hS (fun _ _ d h => h.at d) (i := 12) (v := .pointer (some ⟨cb, 0, none⟩)) hs rfl rfl (by kernel_rfl) (by kernel_rfl) (by kernel_rfl) (fun u hu => .inl ⟨rfl, fun d => ⟨by simp [go_sem, execOp, Act.eval], fun e he => by have hm := mem_listed he; simp [go_sem, execOp, Act.eval] at hm⟩⟩) ?_
 walk_nrm
 refine anyC_take hS (fun _ _ d h => h.at d) (i := 13) (v := .pointer (some ⟨cb, 7, none⟩)) hs rfl rfl (by kernel_rfl) (by kernel_rfl) (by kernel_rfl) (fun u hu => .inl ⟨rfl, fun d => ⟨by simp [go_sem, execOp, Act.eval], fun e he => by have hm := mem_listed he; simp [go_sem, execOp, Act.eval] at hm⟩⟩) ?_
 walk_nrm
 refine anyC_take hS (fun _ _ d h => h.at d) (i := 14) (v := .pointer (some ⟨cb, 8, none⟩)) hs rfl rfl (by kernel_rfl) (by kernel_rfl) (by kernel_rfl) (fun u hu => .inl ⟨rfl, fun d => ⟨by simp [go_sem, execOp, Act.eval], fun e he => by have hm := mem_listed he; simp [go_sem, execOp, Act.eval] at hm⟩⟩) ?_
 walk_nrm
 refine anyC_take hS (fun _ _ d h => h.at d) (i := 15) (v := .int .i64 an) hs rfl rfl (by kernel_rfl) (by kernel_rfl) (by kernel_rfl) (fun u hu => .inl ⟨rfl, fun d => ⟨by simp [go_sem, execOp, Act.eval, hu.a0, hu.a1, hu.c7, hu.c8, hu.s0, hu.za, hu.zc, hu.zs], fun e he => by have hm := mem_listed he; simp [go_sem, execOp, Act.eval, hu.a0, hu.a1, hu.c7, hu.c8, hu.s0, hu.za, hu.zc, hu.zs] at hm; subst hm; exact evT_read _ _⟩⟩) ?_
 walk_nrm
 refine anyC_take hS (fun _ _ d h => h.at d) (i := 16) (v := .bool false) hs rfl rfl (by kernel_rfl) (by kernel_rfl) (by kernel_rfl) (fun u hu => .inl ⟨rfl, fun d => ⟨by simp [go_sem, execOp, Act.eval], fun e he => by have hm := mem_listed he; simp [go_sem, execOp, Act.eval] at hm⟩⟩) ?_
 walk_nrm
 refine anyC_take hS (fun _ _ d h => h.at d) (i := 17) (v := .bool false) hs rfl rfl (by kernel_rfl) (by kernel_rfl) (by kernel_rfl) (fun u hu => .inl ⟨rfl, fun d => ⟨by simp [go_sem, execOp, Act.eval], fun e he => by have hm := mem_listed he; simp [go_sem, execOp, Act.eval] at hm⟩⟩) ?_
 walk_nrm
 refine anyC_take hS (fun _ _ d h => h.at d) (i := 18) (v := .bool false) hs rfl rfl (by kernel_rfl) (by kernel_rfl) (by kernel_rfl) (fun u hu => .inl ⟨rfl, fun d => ⟨by simp [go_sem, execOp, Act.eval], fun e he => by have hm := mem_listed he; simp [go_sem, execOp, Act.eval] at hm⟩⟩) ?_
 walk_nrm
 refine anyC_take hS (fun _ _ d h => h.at d) (i := 19) (v := .pointer (some ⟨sb, 0, none⟩)) hs rfl rfl (by kernel_rfl) (by kernel_rfl) (by kernel_rfl) (fun u hu => .inl ⟨rfl, fun d => ⟨by simp [go_sem, execOp, Act.eval], fun e he => by have hm := mem_listed he; simp [go_sem, execOp, Act.eval] at hm⟩⟩) ?_
 walk_nrm
 refine anyC_take hS (fun _ _ d h => h.at d) (i := 20) (v := .pointer (some ⟨sb, 0, none⟩)) hs rfl rfl (by kernel_rfl) (by kernel_rfl) (by kernel_rfl) (fun u hu => .inl ⟨rfl, fun d => ⟨by simp [go_sem, execOp, Act.eval], fun e he => by have hm := mem_listed he; simp [go_sem, execOp, Act.eval] at hm⟩⟩) ?_
 walk_nrm
 refine anyC_take hS (fun _ _ d h => h.at d) (i := 21) (v := .pointer (some ⟨sb, 0, none⟩)) hs rfl rfl (by kernel_rfl) (by kernel_rfl) (by kernel_rfl) (fun u hu => .inl ⟨rfl, fun d => ⟨by simp [go_sem, execOp, Act.eval], fun e he => by have hm := mem_listed he; simp [go_sem, execOp, Act.eval] at hm⟩⟩) ?_
 walk_nrm
 refine anyC_take hS (fun _ _ d h => h.at d) (i := 22) (v := .int .i64 m) hs rfl rfl (by kernel_rfl) (by kernel_rfl) (by kernel_rfl) (fun u hu => .inl ⟨rfl, fun d => ⟨by simp [go_sem, execOp, Act.eval, hu.a0, hu.a1, hu.c7, hu.c8, hu.s0, hu.za, hu.zc, hu.zs], fun e he => by have hm := mem_listed he; simp [go_sem, execOp, Act.eval, hu.a0, hu.a1, hu.c7, hu.c8, hu.s0, hu.za, hu.zc, hu.zs] at hm; subst hm; exact evT_read _ _⟩⟩) ?_
 walk_nrm
 refine anyC_take hS (fun _ _ d h => h.at d) (i := 23) (v := .int .i64 m) hs rfl rfl (by kernel_rfl) (by kernel_rfl) (by kernel_rfl) (fun u hu => .inl ⟨rfl, fun d => ⟨by simp [go_sem, execOp, Act.eval], fun e he => by have hm := mem_listed he; simp [go_sem, execOp, Act.eval] at hm⟩⟩) ?_
 walk_nrm
 refine anyC_take hS (fun _ _ d h => h.at d) (i := 24) (v := .bool false) hs rfl rfl (by kernel_rfl) (by kernel_rfl) (by kernel_rfl) (fun u hu => .inl ⟨rfl, fun d => ⟨by simp [go_sem, execOp, Act.eval], fun e he => by have hm := mem_listed he; simp [go_sem, execOp, Act.eval] at hm⟩⟩) ?_
 walk_nrm
 refine anyC_take hS (fun _ _ d h => h.at d) (i := 25) (v := .bool false) hs rfl rfl (by kernel_rfl) (by kernel_rfl) (by kernel_rfl) (fun u hu => .inl ⟨rfl, fun d => ⟨by simp [go_sem, execOp, Act.eval], fun e he => by have hm := mem_listed he; simp [go_sem, execOp, Act.eval] at hm⟩⟩) ?_
 walk_nrm
 refine anyC_take hS (fun _ _ d h => h.at d) (i := 26) (v := .bool false) hs rfl rfl (by kernel_rfl) (by kernel_rfl) (by kernel_rfl) (fun u hu => .inl ⟨rfl, fun d => ⟨by simp [go_sem, execOp, Act.eval], fun e he => by have hm := mem_listed he; simp [go_sem, execOp, Act.eval] at hm⟩⟩) ?_
 walk_nrm
 refine anyC_take hS (fun _ _ d h => h.at d) (i := 27) (v := .pointer (some ⟨qb, 0, none⟩)) hs rfl rfl (by kernel_rfl) (by kernel_rfl) (by kernel_rfl) (fun u hu => .inl ⟨rfl, fun d => ⟨by simp [go_sem, execOp, Act.eval], fun e he => by have hm := mem_listed he; simp [go_sem, execOp, Act.eval] at hm⟩⟩) ?_
 walk_nrm
 refine anyC_all (r := [28]) (by kernel_rfl) (by kernel_rfl) (fun i hi hil => ?_)
 obtain rfl : i = 28 := by simpa using hi
 refine ⟨_, rfl, .inr (.inr ⟨rfl, 22, #[.pointer (some ⟨qb, 0, none⟩)], fun v w' => v = .int .i64 0 ∧ w' = w, fun w => by simp [execOp, Act.eval, resolve, invoke, Deferred.ofValue, callable22.run], fun w => by simp [execOp, Act.eval, resolve, invoke, Deferred.ofValue, callable22.run, callable22.quiet], fun c cs Stop k => own_behind hq hp (by decide) (k _ _ ⟨rfl, rfl⟩), ?_⟩)⟩
 rintro v w' ⟨rfl, rfl⟩
 refine ⟨hs, ?_⟩
 walk_nrm
 refine anyC_take hS (fun _ _ d h => h.at d) (i := 29) (v := .bool false) hs rfl rfl (by kernel_rfl) (by kernel_rfl) (by kernel_rfl) (fun u hu => .inl ⟨rfl, fun d => ⟨by simp [go_sem, execOp, Act.eval], fun e he => by have hm := mem_listed he; simp [go_sem, execOp, Act.eval] at hm⟩⟩) ?_
 walk_nrm
 refine anyC_end (by kernel_rfl) ?_ _
 (refine oW fun dd K hK => ?_; go_simp; refine qT hK ?_; clear hK K)
 refine ogE ?_
 rw [qcc109_eq]
 refine ogF ?_
 simp only [Bool.false_eq_true, if_false]
 refine ogK ?_
 refine ogI ?_
 rw [qcr15_eq]
 refine ogR ?_
 simp only [qco15, Code.opsOf, qcr15, Code.piece, qcBody, Try.f4, Option.getD_some, List.size_toArray, List.length_cons, List.length_nil, Nat.reduceAdd, Nat.zero_add, List.range, List.range.loop]
 iterate 3 (refine oW fun dd K hK => ?_; go_simp; refine qT hK ?_; clear hK K)
 refine ogE ?_
 refine ogL ?_
 refine h _ ?_
 exact ⟨rfl, rfl, rfl, rfl, rfl, rfl, trivial⟩
theorem qc_12 {oa : Option Addr} {on cp : Nat} {qv rv sv : Value} {A : Array Value} (hA : Slots 149 A [(1, .slice oa on cp), (6, qv), (7, rv), (8, sv), (10, .int .i64 on)]) {cs : List Frame} {main : Bool} {Stop : Goroutine → World → Prop}
  (h : ∀ A, Slots 149 A [(6, qv), (7, rv)] → Own Try.prog main F Stop (G (Frame.enter Try.prog 23 #[qv] .normal) (((Go.Conc.base 4).at ⟨A, []⟩ [.inRegion qco24 [1, 2], .code qcs34]) :: cs)) w) :
  Own Try.prog main F Stop (G ((Go.Conc.base 4).at ⟨A, []⟩ [.code qcs20, .inLoop qcs20, .inBlock 2, .code qcs33]) cs) w := by
 obtain ⟨hsz, h1, h6, h7, h8, h10, _⟩ := hA
 obtain ⟨s, rfl⟩ := qcT_of hsz
 change s 1 = _ at h1
 change s 6 = _ at h6
 change s 7 = _ at h7
 change s 8 = _ at h8
 change s 10 = _ at h10
 clear hsz
 simp only [qcT, h1, h6, h7, h8, h10]
 clear h1 h6 h7 h8 h10
 rw [qcs20_eq]
 refine ogS ?_
 rw [qcs21_eq]
 refine ogS ?_
 rw [qcr14_eq]
 refine ogR ?_
 simp only [qco14, Code.opsOf, qcr14, Code.piece, qcBody, Try.f4, Option.getD_some, List.size_toArray, List.length_cons, List.length_nil, Nat.reduceAdd, Nat.zero_add, List.range, List.range.loop]
 iterate 4 (refine oW fun dd K hK => ?_; go_simp; refine qT hK ?_; clear hK K)
 refine ogE ?_
 rw [qcc49_eq]
 refine ogF ?_
 simp only [Bool.false_eq_true, if_false]
 refine own_go rfl (fun d => stepG_exit rfl) ?_
 rw [qcs33_eq]
 refine ogS ?_
 rw [qcr24_eq]
 refine ogR ?_
 simp only [qco24, Code.opsOf, qcr24, Code.piece, qcBody, Try.f4, Option.getD_some, List.size_toArray, List.length_cons, List.length_nil, Nat.reduceAdd, Nat.zero_add, List.range, List.range.loop]
 (refine oW fun dd K hK => ?_; go_simp; refine qT hK ?_; clear hK K)
 refine oc callable23 #[qv] ?_
 refine h _ ?_
 exact ⟨rfl, rfl, rfl, trivial⟩
theorem qc_13 {qv rv lv : Value} {A : Array Value} (hA : Slots 149 A [(6, qv), (7, rv)]) {cs : List Frame} {main : Bool} {Stop : Goroutine → World → Prop}
  (h : ∀ A, Slots 149 A [(6, qv), (7, rv), (14, lv)] → Own Try.prog main F Stop (G (Frame.enter Try.prog 23 #[qv] .normal) (((Go.Conc.base 4).at ⟨A, []⟩ [.inRegion qco25 [1, 2], .code qcs35]) :: cs)) w) :
  Own Try.prog main F Stop (G (((Go.Conc.base 4).at ⟨A, []⟩ [.inRegion qco24 [1, 2], .code qcs34]).finish lv) cs) w := by
 obtain ⟨hsz, h6, h7, _⟩ := hA
 obtain ⟨s, rfl⟩ := qcT_of hsz
 change s 6 = _ at h6
 change s 7 = _ at h7
 clear hsz
 simp only [qcT, h6, h7]
 clear h6 h7
 rw [Frame.finish_at]
 simp only [qco24, Code.opsOf, qcr24, Code.piece, qcBody, Try.f4, Option.getD_some, List.size_toArray, List.length_cons, List.length_nil, Nat.reduceAdd, Nat.zero_add, List.range, List.range.loop]
 walk_nrm
 (refine oW fun dd K hK => ?_; go_simp; refine qT hK ?_; clear hK K)
 refine ogE ?_
 rw [qcs34_eq]
 refine ogS ?_
 rw [qcr25_eq]
 refine ogR ?_
 simp only [qco25, Code.opsOf, qcr25, Code.piece, qcBody, Try.f4, Option.getD_some, List.size_toArray, List.length_cons, List.length_nil, Nat.reduceAdd, Nat.zero_add, List.range, List.range.loop]
 (refine oW fun dd K hK => ?_; go_simp; refine qT hK ?_; clear hK K)
 refine oc callable23 #[qv] ?_
 refine h _ ?_
 exact ⟨rfl, rfl, rfl, rfl, trivial⟩
theorem qc_14 {qv rv lv mv : Value} {A : Array Value} (hA : Slots 149 A [(6, qv), (7, rv), (14, lv)]) {cs : List Frame} {main : Bool} {Stop : Goroutine → World → Prop}
  (h : ∀ A, Slots 149 A [(6, qv), (7, rv), (14, lv), (15, mv)] → Own Try.prog main F Stop (G ((Go.Conc.base 4).at ⟨A, []⟩ [.code qcr26, .code qcs36]) cs) w) :
  Own Try.prog main F Stop (G (((Go.Conc.base 4).at ⟨A, []⟩ [.inRegion qco25 [1, 2], .code qcs35]).finish mv) cs) w := by
 obtain ⟨hsz, h6, h7, h14, _⟩ := hA
 obtain ⟨s, rfl⟩ := qcT_of hsz
 change s 6 = _ at h6
 change s 7 = _ at h7
 change s 14 = _ at h14
 clear hsz
 simp only [qcT, h6, h7, h14]
 clear h6 h7 h14
 rw [Frame.finish_at]
 simp only [qco25, Code.opsOf, qcr25, Code.piece, qcBody, Try.f4, Option.getD_some, List.size_toArray, List.length_cons, List.length_nil, Nat.reduceAdd, Nat.zero_add, List.range, List.range.loop]
 walk_nrm
 (refine oW fun dd K hK => ?_; go_simp; refine qT hK ?_; clear hK K)
 refine ogE ?_
 rw [qcs35_eq]
 refine ogS ?_
 refine h _ ?_
 exact ⟨rfl, rfl, rfl, rfl, rfl, trivial⟩
theorem qc_15 {qv lv mv ov : Value} {A : Array Value} (hA : Slots 149 A [(6, qv), (14, lv), (15, mv), (16, ov)]) {cs : List Frame} {main : Bool} {Stop : Goroutine → World → Prop}
  (h : ∀ A, Slots 149 A [(6, qv), (14, lv), (15, mv), (16, ov)] → Own Try.prog main F Stop (G ((Go.Conc.base 4).at ⟨A, []⟩ [.code qcr27, .code qcc119, .code qcs39]) cs) w) :
  Own Try.prog main F Stop (G ((Go.Conc.base 4).at ⟨A, []⟩ [.code qcs36]) cs) w := by
 obtain ⟨hsz, h6, h14, h15, h16, _⟩ := hA
 obtain ⟨s, rfl⟩ := qcT_of hsz
 change s 6 = _ at h6
 change s 14 = _ at h14
 change s 15 = _ at h15
 change s 16 = _ at h16
 clear hsz
 simp only [qcT, h6, h14, h15, h16]
 clear h6 h14 h15 h16
 rw [qcs36_eq]
 refine ogS ?_
 rw [qcs37_eq]
 refine ogS ?_
 refine h _ ?_
 exact ⟨rfl, rfl, rfl, rfl, rfl, trivial⟩
theorem qc_16 {qv lv mv ov : Value} {A : Array Value} (hA : Slots 149 A [(6, qv), (14, lv), (15, mv), (16, ov), (119, .bool false)]) {cs : List Frame} {main : Bool} {Stop : Goroutine → World → Prop}
  (h : ∀ A, Slots 149 A [(6, qv), (14, lv), (15, mv), (16, ov)] → Own Try.prog main F Stop (G ((Go.Conc.base 4).at ⟨A, []⟩ [.code qcs40, .code qcs45]) cs) w) :
  Own Try.prog main F Stop (G ((Go.Conc.base 4).at ⟨A, []⟩ [.code qcc119, .code qcs39]) cs) w := by
 obtain ⟨hsz, h6, h14, h15, h16, h119, _⟩ := hA
 obtain ⟨s, rfl⟩ := qcT_of hsz
 change s 6 = _ at h6
 change s 14 = _ at h14
 change s 15 = _ at h15
 change s 16 = _ at h16
 change s 119 = _ at h119
 clear hsz
 simp only [qcT, h6, h14, h15, h16, h119]
 clear h6 h14 h15 h16 h119
 rw [qcc119_eq]
 refine ogF ?_
 simp only [Bool.false_eq_true, if_false]
 refine ogK ?_
 rw [qcs39_eq]
 refine ogS ?_
 refine h _ ?_
 exact ⟨rfl, rfl, rfl, rfl, rfl, trivial⟩
theorem qc_17 {qv lv mv ov : Value} {A : Array Value} (hA : Slots 149 A [(6, qv), (14, lv), (15, mv), (16, ov)]) {cs : List Frame} {main : Bool} {Stop : Goroutine → World → Prop}
  (h : ∀ A, Slots 149 A [(6, qv), (14, lv), (15, mv), (16, ov)] → Own Try.prog main F Stop (G ((Go.Conc.base 4).at ⟨A, []⟩ [.code qcr33, .code qcs46]) cs) w) :
  Own Try.prog main F Stop (G ((Go.Conc.base 4).at ⟨A, []⟩ [.code qcs45]) cs) w := by
 obtain ⟨hsz, h6, h14, h15, h16, _⟩ := hA
 obtain ⟨s, rfl⟩ := qcT_of hsz
 change s 6 = _ at h6
 change s 14 = _ at h14
 change s 15 = _ at h15
 change s 16 = _ at h16
 clear hsz
 simp only [qcT, h6, h14, h15, h16]
 clear h6 h14 h15 h16
 rw [qcs45_eq]
 refine ogS ?_
 refine h _ ?_
 exact ⟨rfl, rfl, rfl, rfl, rfl, trivial⟩
theorem qc_18 {qv mv : Value} {la wa : Option Addr} {n lc wc : Nat} (hn : n < 1000000000) {A : Array Value} (hA : Slots 149 A [(6, qv), (14, .slice la (n + 4) lc), (15, mv), (16, .slice wa n wc)]) {cs : List Frame} {main : Bool} {Stop : Goroutine → World → Prop}
  (h : ∀ A, Slots 149 A [(6, qv), (16, .slice wa n wc), (138, .bool true)] → Own Try.prog main F Stop (G (Frame.enter Try.prog 18 #[mv, .slice wa n wc] .normal) (((Go.Conc.base 4).at ⟨A, []⟩ [.inRegion qco34 [9, 10, 11, 12, 13, 14, 15, 16, 17], .code .ret]) :: cs)) w) :
  Own Try.prog main F Stop (G ((Go.Conc.base 4).at ⟨A, []⟩ [.code qcs46]) cs) w := by
 obtain ⟨hsz, h6, h14, h15, h16, _⟩ := hA
 obtain ⟨s, rfl⟩ := qcT_of hsz
 change s 6 = _ at h6
 change s 14 = _ at h14
 change s 15 = _ at h15
 change s 16 = _ at h16
 clear hsz
 simp only [qcT, h6, h14, h15, h16]
 clear h6 h14 h15 h16
 have hw64 : IntKind.i64.wrap ((n : Int) + 4) = (n : Int) + 4 := IntWalk.i64_in _ (by omega)
 rw [qcs46_eq]
 refine ogS ?_
 rw [qcr34_eq]
 refine ogR ?_
 simp only [qco34, Code.opsOf, qcr34, Code.piece, qcBody, Try.f4, Option.getD_some, List.size_toArray, List.length_cons, List.length_nil, Nat.reduceAdd, Nat.zero_add, List.range, List.range.loop]
 iterate 9 (refine oW fun dd K hK => ?_; go_simp; refine qT hK ?_; clear hK K)
 refine oc callable18 #[mv, .slice wa n wc] ?_
 refine h _ ?_
 exact ⟨rfl, rfl, rfl, rfl, trivial⟩
theorem qc_19 {qv ov : Value} {A : Array Value} (hA : Slots 149 A [(6, qv), (16, ov), (138, .bool true)]) {cs : List Frame} {main : Bool} {Stop : Goroutine → World → Prop}
  (h : ∀ A, Slots 149 A [(16, ov), (143, .bool true)] → Own Try.prog main F Stop (G (Frame.enter Try.prog 23 #[qv] .normal) (((Go.Conc.base 4).at ⟨A, []⟩ [.inRegion qco34 [13, 14, 15, 16, 17], .code .ret]) :: cs)) w) :
  Own Try.prog main F Stop (G (((Go.Conc.base 4).at ⟨A, []⟩ [.inRegion qco34 [9, 10, 11, 12, 13, 14, 15, 16, 17], .code .ret]).finish (.bool true)) cs) w := by
 obtain ⟨hsz, h6, h16, h138, _⟩ := hA
 obtain ⟨s, rfl⟩ := qcT_of hsz
 change s 6 = _ at h6
 change s 16 = _ at h16
 change s 138 = _ at h138
 clear hsz
 simp only [qcT, h6, h16, h138]
 clear h6 h16 h138
 rw [Frame.finish_at]
 simp only [qco34, Code.opsOf, qcr34, Code.piece, qcBody, Try.f4, Option.getD_some, List.size_toArray, List.length_cons, List.length_nil, Nat.reduceAdd, Nat.zero_add, List.range, List.range.loop]
 walk_nrm
 iterate 3 (refine oW fun dd K hK => ?_; go_simp; refine qT hK ?_; clear hK K)
 refine oc callable23 #[qv] ?_
 refine h _ ?_
 exact ⟨rfl, rfl, rfl, trivial⟩
theorem qc_20 {ov xv : Value} {A : Array Value} (hA : Slots 149 A [(16, ov), (143, .bool true)]) {cs : List Frame} {main : Bool} {Stop : Goroutine → World → Prop}
  (h : ∀ A, Slots 149 A [(143, .bool true)] → Own Try.prog main F Stop (G (Frame.enter Try.prog 18 #[xv, ov] .normal) (((Go.Conc.base 4).at ⟨A, []⟩ [.inRegion qco34 [15, 16, 17], .code .ret]) :: cs)) w) :
  Own Try.prog main F Stop (G (((Go.Conc.base 4).at ⟨A, []⟩ [.inRegion qco34 [13, 14, 15, 16, 17], .code .ret]).finish xv) cs) w := by
 obtain ⟨hsz, h16, h143, _⟩ := hA
 obtain ⟨s, rfl⟩ := qcT_of hsz
 change s 16 = _ at h16
 change s 143 = _ at h143
 clear hsz
 simp only [qcT, h16, h143]
 clear h16 h143
 rw [Frame.finish_at]
 simp only [qco34, Code.opsOf, qcr34, Code.piece, qcBody, Try.f4, Option.getD_some, List.size_toArray, List.length_cons, List.length_nil, Nat.reduceAdd, Nat.zero_add, List.range, List.range.loop]
 walk_nrm
 (refine oW fun dd K hK => ?_; go_simp; refine qT hK ?_; clear hK K)
 refine oc callable18 #[xv, ov] ?_
 refine h _ ?_
 exact ⟨rfl, rfl, trivial⟩
theorem qc_21  {A : Array Value} (hA : Slots 149 A [(143, .bool true)]) {cs : List Frame} {main : Bool} {Stop : Goroutine → World → Prop}
  (h : ∀ A, Slots 149 A [(4, .bool true)] → Own Try.prog main F Stop (G { (Go.Conc.base 4).at ⟨A, []⟩ [.code .ret] with mode := .returning } cs) w) :
  Own Try.prog main F Stop (G (((Go.Conc.base 4).at ⟨A, []⟩ [.inRegion qco34 [15, 16, 17], .code .ret]).finish (.bool true)) cs) w := by
 obtain ⟨hsz, h143, _⟩ := hA
 obtain ⟨s, rfl⟩ := qcT_of hsz
 change s 143 = _ at h143
 clear hsz
 simp only [qcT, h143]
 clear h143
 rw [Frame.finish_at]
 simp only [qco34, Code.opsOf, qcr34, Code.piece, qcBody, Try.f4, Option.getD_some, List.size_toArray, List.length_cons, List.length_nil, Nat.reduceAdd, Nat.zero_add, List.range, List.range.loop]
 walk_nrm
 iterate 2 (refine oW fun dd K hK => ?_; go_simp; refine qT hK ?_; clear hK K)
 refine ogE ?_
 refine ogX ?_
 refine h _ ?_
 exact ⟨rfl, rfl, trivial⟩
end
noncomputable section
variable {w w' : World} {rq cb bb bc : Nat} {q : RQ} {c : RC} {k : Int}
theorem step_append_own {P : Program} {ops : Array Oper} {o : Oper} {a : Act} {w : World} {K : Act → World → Prop} {Q : Exit → Act → World → Prop} {E : Prop}
  (hg : o.guard = none) (s x : Operand) (t : TypeId) (hop : o.op = Op.call { callee := Callee.builtin Builtin.append, args := #[s, x], argTypes := #[t, t] })
  (base : Nat) (e : TypeId) (i : TypeInfo) (z : Value) (size bytes : Nat) (h1 : P.underlying t = some (.slice e)) (h2 : P.info? e = some i) (h3 : i.zero = some z) (h4 : i.size = size) (h5 : i.bytes = bytes) (h6 : z.cells.size = size) (h7 : 0 < size)
  (v : Value) (n : Nat) (olds : List Value) (hs : a.eval s = v) (hown : w.ownsRow base e size v n olds)
  (ad : Addr) (m c : Nat) (news : List Value) (hx : a.eval x = .slice (some ad) m c) (hn : news.length = m * size) (hc : ∀ j u, news[j]? = some u → w.cell? (ad.add j) = some u) (h1c : ∀ u ∈ news, u.oneCell' = true)
  (b1 : n + m ≤ maxLen) (b2 : (n + m) * bytes ≤ 140737488355328) (hbase : base ≤ w.heap.size)
  (hK : ∀ v' w', w'.ownsRow base e size v' (n + m) (olds ++ news) → w.grownBy w' v.ownBlock → K (a.put o.dst v') w') :
  if Region.wanted o (yielded ops a.tmps) = true then Oper.wp P o a w K Q else E := by
 have hw : Region.wanted o (yielded ops a.tmps) = true := by simp [Region.wanted, hg]
 rw [if_pos hw]
 obtain ⟨v', w', hrun, r1, r2, _⟩ := run_append_own (P := P) w base t o.type e i z size bytes h1 h2 h3 h4 h5 h6 h7 v n olds hown ad m c news hn hc h1c b1 b2 hbase
 unfold Oper.wp
 simp [execOp, hop, resolve, invoke, builtin, hs, hx, hrun, Result.andThen]
 exact hK v' w' r1 r2
theorem row_cells {base n size cap g : Nat} {e : TypeId} {xs : List Value} (h : w.ownsRow base e size (.slice (some ⟨g, 0, none⟩) n cap) n xs) : ∀ j u, xs[j]? = some u → w.cell? ((⟨g, 0, none⟩ : Addr).add j) = some u := by
 intro j u hj
 obtain ⟨b, c, e1, h1⟩ := row_get h hj
 cases e1
 have e1 : (⟨g, 0, none⟩ : Addr).add j = ⟨g, j, none⟩ := by
  unfold Addr.add
  split
  ·subst_vars; rfl
  ·simp
 rw [e1]
 exact h1.c
theorem run_append_fresh {P : Program} {w : World} (t ty e : TypeId) (i : TypeInfo) (z : Value) (size bytes : Nat) (ht : P.underlying t = some (.slice e)) (hi : P.info? e = some i) (hz : i.zero = some z)
  (hsize : i.size = size) (hby : i.bytes = bytes) (hzs : z.cells.size = size) (hsz : 0 < size)
  (v : Value) (n : Nat) (xs : List Value) (hown : w.ownsRow 0 e size v n xs)
  (a : Addr) (m c : Nat) (news : List Value) (hl : news.length = m * size) (hnews : ∀ j u, news[j]? = some u → w.cell? (a.add j) = some u) (h1 : ∀ u ∈ news, u.oneCell' = true)
  (h63 : n + m ≤ maxLen) (hbytes : (n + m) * bytes ≤ 140737488355328) :
  ∃ v' w', (Builtin.append_ #[t, t] ty #[v, .slice (some a) m c]).run P w = .ok v' w' ∧ w'.ownsRow 0 e size v' (n + m) (xs ++ news) ∧ w.grownBy w' v.ownBlock ∧ (v'.ownBlock = v.ownBlock ∨ ∃ g, v'.ownBlock = some g ∧ w.heap.size ≤ g) := by
 rcases hown.2 with ⟨rfl, rfl⟩ | ⟨g, cap, cur, rfl, h2, h3, h4, h5, h6, h7⟩
 ·have hxs : xs = [] := List.eq_nil_of_length_eq_zero (by have := hown.1; simpa using this)
  subst hxs
  obtain ⟨v', w', hrun, r1, r2, _⟩ := run_append_own (P := P) w w.heap.size t ty e i z size bytes ht hi hz hsize hby hzs hsz (.slice none 0 0) 0 [] (World.ownsRow_nil w _ e size) a m c news hl hnews h1 h63 hbytes (Nat.le_refl _)
  refine ⟨v', w', hrun, ownsRow_mono_base (Nat.zero_le _) r1, r2, ?_⟩
  rcases r1.2 with ⟨rfl, _⟩ | ⟨g', cap', cur', rfl, h2, _⟩
  ·exact .inl rfl
  ·exact .inr ⟨g', rfl, h2⟩
 ·by_cases hroom : n + m ≤ cap
  ·obtain ⟨w', hr, r1, r2⟩ := run_append_own_spare (P := P) w 0 t ty e i size ht hi hsize g n cap xs hown a m c news hl hnews h1 hroom
   exact ⟨_, w', hr, r1, r2, .inl rfl⟩
  ·obtain ⟨v', w', hrun, r1, r2⟩ := run_append_arg_grows (P := P) w t ty e i z size bytes ht hi hz hsize hby hzs hsz ⟨g, 0, none⟩ n cap xs hown.1 (row_cells hown) a m c news hl hnews (by omega) h63 hbytes
   refine ⟨v', w', hrun, ownsRow_mono_base (Nat.zero_le _) r1, ⟨r2.os, r2.tape, r2.output, r2.size, fun k hk _ => r2.block k hk (by simp)⟩, ?_⟩
   rcases r1.2 with ⟨rfl, h0⟩ | ⟨g', cap', cur', rfl, h2, _⟩
   ·omega
   ·exact .inr ⟨g', rfl, h2⟩
theorem step_append_fresh {P : Program} {ops : Array Oper} {o : Oper} {a : Act} {w : World} {K : Act → World → Prop} {Q : Exit → Act → World → Prop} {E : Prop}
  (hg : o.guard = none) (s x : Operand) (t : TypeId) (hop : o.op = Op.call { callee := Callee.builtin Builtin.append, args := #[s, x], argTypes := #[t, t] })
  (e : TypeId) (i : TypeInfo) (z : Value) (size bytes : Nat) (h1 : P.underlying t = some (.slice e)) (h2 : P.info? e = some i) (h3 : i.zero = some z) (h4 : i.size = size) (h5 : i.bytes = bytes) (h6 : z.cells.size = size) (h7 : 0 < size)
  (v : Value) (n : Nat) (olds : List Value) (hs : a.eval s = v) (hown : w.ownsRow 0 e size v n olds)
  (ad : Addr) (m c : Nat) (news : List Value) (hx : a.eval x = .slice (some ad) m c) (hn : news.length = m * size) (hc : ∀ j u, news[j]? = some u → w.cell? (ad.add j) = some u) (h1c : ∀ u ∈ news, u.oneCell' = true)
  (b1 : n + m ≤ maxLen) (b2 : (n + m) * bytes ≤ 140737488355328)
  (hK : ∀ v' w', w'.ownsRow 0 e size v' (n + m) (olds ++ news) → w.grownBy w' v.ownBlock → (v'.ownBlock = v.ownBlock ∨ ∃ g, v'.ownBlock = some g ∧ w.heap.size ≤ g) → K (a.put o.dst v') w') :
  if Region.wanted o (yielded ops a.tmps) = true then Oper.wp P o a w K Q else E := by
 have hw : Region.wanted o (yielded ops a.tmps) = true := by simp [Region.wanted, hg]
 rw [if_pos hw]
 obtain ⟨v', w', hrun, r1, r2, r3⟩ := run_append_fresh (P := P) (w := w) t o.type e i z size bytes h1 h2 h3 h4 h5 h6 h7 v n olds hown ad m c news hn hc h1c b1 b2
 unfold Oper.wp
 simp [execOp, hop, resolve, invoke, builtin, hs, hx, hrun, Result.andThen]
 exact hK v' w' r1 r2 r3
theorem wpList_append_fresh {P : Program} {ops : Array Oper} {rest : List Oper} {o : Oper} {a : Act} {w : World} {Q : Exit → Act → World → Prop} (hgd : o.guard = none) (s x : Operand) (t : TypeId)
  (ho : o.op = .call { callee := .builtin .append, args := #[s, x], argTypes := #[t, t] })
  (e : TypeId) (i : TypeInfo) (z : Value) (size bytes : Nat) (h1 : P.underlying t = some (.slice e)) (h2 : P.info? e = some i) (h3 : i.zero = some z) (h4 : i.size = size) (h5 : i.bytes = bytes) (h6 : z.cells.size = size) (h7 : 0 < size)
  (v : Value) (n : Nat) (olds : List Value) (hs : a.eval s = v) (hown : w.ownsRow 0 e size v n olds)
  (ad : Addr) (m c : Nat) (news : List Value) (hx : a.eval x = .slice (some ad) m c) (hn : news.length = m * size) (hc : ∀ j u, news[j]? = some u → w.cell? (ad.add j) = some u) (h1c : ∀ u ∈ news, u.oneCell' = true)
  (b1 : n + m ≤ maxLen) (b2 : (n + m) * bytes ≤ 140737488355328)
  (h : ∀ v' w', w'.ownsRow 0 e size v' (n + m) (olds ++ news) → w.grownBy w' v.ownBlock → (v'.ownBlock = v.ownBlock ∨ ∃ g, v'.ownBlock = some g ∧ w.heap.size ≤ g) → wpList P ops Q rest (a.put o.dst v') w') : wpList P ops Q (o :: rest) a w :=
 wpList_plain hgd fun _ hK => by
  obtain ⟨v', w', hrun, r1, r2, r3⟩ := run_append_fresh (P := P) (w := w) t o.type e i z size bytes h1 h2 h3 h4 h5 h6 h7 v n olds hown ad m c news hn hc h1c b1 b2
  unfold Oper.wp execOp
  simp only [ho, resolve, invoke, builtin, Sem.run_bind, Sem.run_pure, Result.andThen_ok, List.map_toArray, List.map_cons, List.map_nil, hs, hx, hrun]
  exact hK _ _ (h v' w' r1 r2 r3)
theorem infoOf {P : Program} {t : TypeId} {s b : Nat} (h : (P.info? t).map (fun i => (i.zero.map (·.cells.size), i.size, i.bytes)) = some (some s, s, b)) : ∃ i z, P.info? t = some i ∧ i.zero = some z ∧ i.size = s ∧ i.bytes = b ∧ z.cells.size = s := by
 obtain ⟨i, hi, h1⟩ := Option.map_eq_some_iff.1 h
 simp only [Prod.mk.injEq] at h1
 obtain ⟨z, hz, h2⟩ := Option.map_eq_some_iff.1 h1.1
 exact ⟨i, z, hi, hz, h1.2.1, h1.2.2, h2⟩
theorem infoA46 : ∃ i z, Try.prog.info? 46 = some i ∧ i.zero = some z ∧ i.size = 3 ∧ i.bytes = 40 ∧ z.cells.size = 3 := infoOf (by kernel_rfl)
theorem infoA92 : ∃ i z, Try.prog.info? 92 = some i ∧ i.zero = some z ∧ i.size = 1 ∧ i.bytes = 8 ∧ z.cells.size = 1 := infoOf (by kernel_rfl)
theorem infoA4 : ∃ i z, Try.prog.info? 4 = some i ∧ i.zero = some z ∧ i.size = 1 ∧ i.bytes = 1 ∧ z.cells.size = 1 := infoOf (by kernel_rfl)
theorem infoA3 : ∃ i z, Try.prog.info? 3 = some i ∧ i.zero = some z ∧ i.size = 1 ∧ i.bytes = 8 ∧ z.cells.size = 1 := infoOf (by kernel_rfl)
theorem infoA2 : ∃ i z, Try.prog.info? 2 = some i ∧ i.zero = some z ∧ i.size = 1 ∧ i.bytes = 8 ∧ z.cells.size = 1 := infoOf (by kernel_rfl)
theorem infoA84 : ∃ i z, Try.prog.info? 84 = some i ∧ i.zero = some z ∧ i.size = 1 ∧ i.bytes = 24 ∧ z.cells.size = 1 := infoOf (by kernel_rfl)
theorem fresh_or {g bb n m c d X Y : Nat} (h : (Value.slice (some ⟨g, 0, none⟩) n c).ownBlock = (Value.slice (some ⟨bb, 0, none⟩) m d).ownBlock ∨ ∃ g', (Value.slice (some ⟨g, 0, none⟩) n c).ownBlock = some g' ∧ X ≤ g') (hX : Y ≤ X) : g = bb ∨ Y ≤ g := by
 rcases h with h | ⟨g', h, hle⟩
 ·left; simpa [Value.ownBlock] using h
 ·right
  simp only [Value.ownBlock, Option.some.injEq] at h
  omega
theorem info109 : ∃ i z, Try.prog.info? 109 = some i ∧ i.zero = some z ∧ i.size = 2 ∧ i.bytes = 16 ∧ z.cells.size = 2 := by
 have h : (Try.prog.info? 109).map (fun i => (i.zero.map (·.cells.size), i.size, i.bytes)) = some (some 2, 2, 16) := by kernel_rfl
 obtain ⟨i, hi, h1⟩ := Option.map_eq_some_iff.1 h
 simp only [Prod.mk.injEq] at h1
 obtain ⟨z, hz, h2⟩ := Option.map_eq_some_iff.1 h1.1
 exact ⟨i, z, hi, hz, h1.2.1, h1.2.2, h2⟩
theorem boxC_len (l : List (Int × Option Nat)) : (boxC l).length = l.length * 2 := by
 induction l with
 | nil => rfl
 | cons x l ih => simp [boxC] at ih ⊢; omega
theorem boxC_get (l : List (Int × Option Nat)) (k : Nat) : (boxC l)[k * 2]? = (l[k]?).map (fun b => Value.int .i64 b.1) ∧ (boxC l)[k * 2 + 1]? = (l[k]?).map (fun b => Value.int .i64 (nxI b.2)) := by
 induction l generalizing k with
 | nil => simp [boxC]
 | cons x l ih =>
  cases k with
  | zero => simp [boxC]
  | succ k =>
   have := ih k
   have e1 : (k + 1) * 2 = k * 2 + 1 + 1 := by omega
   have e2 : boxC (x :: l) = Value.int .i64 x.1 :: Value.int .i64 (nxI x.2) :: boxC l := rfl
   rw [e1, e2]
   simpa using this
theorem boxC_app (l m : List (Int × Option Nat)) : boxC (l ++ m) = boxC l ++ boxC m := by simp [boxC]
theorem RefQ.row (h : RefQ w rq bb bc q) : w.ownsRow 0 109 2 (.slice (some ⟨bb, 0, none⟩) q.B.length bc) q.B.length (boxC q.B) := by
 obtain ⟨cur, h1, h2, h3, h4, h5⟩ := h.b
 refine ⟨boxC_len _, .inr ⟨bb, bc, cur, rfl, Nat.zero_le _, h1, h3, h4, h2, ?_⟩⟩
 apply List.ext_getElem?
 intro j
 rcases Nat.lt_or_ge j (q.B.length * 2) with hj | hj
 ·rw [List.getElem?_take_of_lt hj]
  have hk : j / 2 < q.B.length := by omega
  obtain ⟨e1, e2⟩ := h5 (j / 2) _ (List.getElem?_eq_getElem hk)
  obtain ⟨g1, g2⟩ := boxC_get q.B (j / 2)
  rw [List.getElem?_eq_getElem hk] at g1 g2
  rcases Nat.mod_two_eq_zero_or_one j with hm | hm
  ·have : j / 2 * 2 = j := by omega
   rw [this] at e1 g1
   rw [g1]; simpa using e1
  ·have : j / 2 * 2 + 1 = j := by omega
   rw [this] at e2 g2
   rw [g2]; simpa using e2
 ·rw [List.getElem?_eq_none (by simp; omega), List.getElem?_eq_none (by rw [boxC_len]; exact hj)]
theorem refQ_of_row {bv : Value} (ho : w.heap[rq]? = some (.cells #[bv, .int .i64 q.hd, .int .i64 q.tl] 112 (0, 0))) (h : w.ownsRow 0 109 2 bv q.B.length (boxC q.B)) (hp : 0 < q.B.length) : ∃ bb bc, bv = .slice (some ⟨bb, 0, none⟩) q.B.length bc ∧ RefQ w rq bb bc q := by
 rcases h.2 with ⟨_, h0⟩ | ⟨g, cap, cur, rfl, _, h3, h4, h5, h6, h7⟩
 ·omega
 ·refine ⟨g, cap, rfl, ⟨ho, cur, h3, h6, h4, h5, fun k x hx => ?_⟩⟩
  obtain ⟨g1, g2⟩ := boxC_get q.B k
  have hk := (List.getElem?_eq_some_iff.1 hx).1
  rw [hx] at g1 g2
  rw [← h7] at g1 g2
  rw [List.getElem?_take_of_lt (by omega)] at g1 g2
  exact ⟨by simpa using g1, by simpa using g2⟩
theorem begin23 {kd a b d : Int} (hk : kd = 2 ∨ kd = 3) : Calls Try.prog 19 #[.pointer (some ⟨rq, 0, none⟩), .agg #[.int .i64 kd, .int .i64 a, .int .i64 b, .int .i64 d]] w fun e w' => e = .returned (.pointer (some ⟨w.heap.size + 1, 0, none⟩)) ∧
  w'.heap = ((w.alloc (.cells #[.int .i64 kd, .int .i64 a, .int .i64 b, .int .i64 d] 44)).alloc (.cells (callC kd ⟨0, 1, 0, 0, some 0, 0⟩ false false 0) 48)).heap := by
 rcases hk with rfl | rfl
 ·go_enter Try.func19, Try.ntmps19
  go_wp2
  go_ret
  exact ⟨rfl, rfl⟩
 ·go_enter Try.func19, Try.ntmps19
  go_wp2
  go_ret
  exact ⟨rfl, rfl⟩
theorem beginx {kd a b d : Int} (h1 : ¬ kd = 1) (h2 : ¬ kd = 2) (h3 : ¬ kd = 3) : Calls Try.prog 19 #[.pointer (some ⟨rq, 0, none⟩), .agg #[.int .i64 kd, .int .i64 a, .int .i64 b, .int .i64 d]] w fun e w' => e = .returned (.pointer (some ⟨w.heap.size + 1, 0, none⟩)) ∧
  w'.heap = ((w.alloc (.cells #[.int .i64 kd, .int .i64 a, .int .i64 b, .int .i64 d] 44)).alloc (.cells (callC kd ⟨0, 1, 0, 0, some 0, 0⟩ true false 0) 48)).heap := by
 go_enter Try.func19, Try.ntmps19
 go_wp2
 go_end0
 go_wp2
 go_ret
 exact ⟨rfl, by simp [callC, nxI, World.setCell]⟩
theorem new_cells {X : World} {l : List Value} {e : TypeId} {z : Nat} (hz : X.heap.size = z) : ∀ (j : Nat) (u : Value), l[j]? = some u → (X.alloc (.cells l.toArray e)).cell? ((⟨z, 0, none⟩ : Addr).add j) = some u := by
 intro j u h
 subst hz
 have hb := heap_alloc_new X (.cells l.toArray e)
 have e1 : (⟨X.heap.size, 0, none⟩ : Addr).add j = ⟨X.heap.size, j, none⟩ := by
  unfold Addr.add
  split
  ·subst_vars; rfl
  ·simp
 rw [e1]
 simp only [World.cell?, hb]
 simpa using h
theorem own_slice {v : Value} {base n size : Nat} {e : TypeId} {xs : List Value} (h : w.ownsRow base e size v (n + 1) xs) : ∃ g cap, v = .slice (some ⟨g, 0, none⟩) (n + 1) cap := by
 rcases h.2 with ⟨_, h⟩ | ⟨g, cap, _, h, _⟩
 ·omega
 ·exact ⟨g, cap, h⟩
theorem grown_old {W w1 : World} {o : Obj} {row : Option Nat} (hg : (W.alloc o).grownBy w1 row) {r : Nat} (hr : r < W.heap.size) (hne : some r ≠ row) : w1.heap[r]? = W.heap[r]? :=
 (hg.block r (by simp; omega) hne).trans (heap_alloc_lt _ _ hr)
theorem begin1 {a b d : Int} (hQ : RefQ w rq bb bc q) (hl : q.B.length < 100000000) : Calls Try.prog 19 #[.pointer (some ⟨rq, 0, none⟩), .agg #[.int .i64 1, .int .i64 a, .int .i64 b, .int .i64 d]] w fun e w' => e = .returned (.pointer (some ⟨w.heap.size + 1, 0, none⟩)) ∧
  ∃ (w1 : World) (g cap : Nat) (W : World), W.heap = ((w.alloc (.cells #[.int .i64 1, .int .i64 a, .int .i64 b, .int .i64 d] 44)).alloc (.cells #[.int .i64 1, .int .i64 1, .int .i64 0, .int .i64 0, .int .i64 0, .int .i64 q.B.length, .bool false, .bool false, .int .i64 0, .slice none 0 0] 48)).heap ∧
   w1.ownsRow 0 109 2 (.slice (some ⟨g, 0, none⟩) (q.B.length + 1) cap) (q.B.length + 1) (boxC q.B ++ [.int .i64 a, .int .i64 (-1)]) ∧ (W.alloc (.cells #[.int .i64 a, .int .i64 (-1)] 109)).grownBy w1 (some bb) ∧ (g = bb ∨ W.heap.size ≤ g) ∧ w'.heap = (w1.setCell ⟨rq, 0, none⟩ (.slice (some ⟨g, 0, none⟩) (q.B.length + 1) cap)).heap := by
 obtain ⟨i0, z0, hi, hz0, hz1, hz2, hz3⟩ := info109
 have hr := (Array.getElem?_eq_some_iff.1 hQ.o).1
 have q0 : w.cell? ⟨rq, 0, none⟩ = some (.slice (some ⟨bb, 0, none⟩) q.B.length bc) := by simp [World.cell?, hQ.o]
 have zq0 : w.frozen? ⟨rq, 0, none⟩ = false := by simp [World.frozen?, hQ.o]
 have hbr := hQ.ne
 have hr1 : ¬ rq = w.heap.size := by omega
 have hr2 : ¬ rq = w.heap.size + 1 := by omega
 have hr3 : ¬ w.heap.size + 1 = rq := by omega
 have hr4 : ¬ w.heap.size = rq := by omega
 go_enter Try.func19, Try.ntmps19
 go_wp2
 generalize hW : (w.alloc (.cells #[.int .i64 1, .int .i64 a, .int .i64 b, .int .i64 d] 44)).alloc (.cells #[.int .i64 1, .int .i64 1, .int .i64 0, .int .i64 0, .int .i64 0, .int .i64 q.B.length, .bool false, .bool false, .int .i64 0, .slice none 0 0] 48) = W
 have hWo : ∀ r, r < w.heap.size → W.heap[r]? = w.heap[r]? := fun r hr => by
  rw [← hW, heap_alloc_lt _ _ (by simp; omega), heap_alloc_lt _ _ hr]
 have hWs : W.heap.size = w.heap.size + 2 := by rw [← hW]; simp
 have hWQ : RefQ W rq bb bc q := hQ.same (hWo _ hr) (hWo _ (by obtain ⟨cur, h1, _⟩ := hQ.b; exact (Array.getElem?_eq_some_iff.1 h1).1))
 have f0 : W.cell? ⟨rq, 0, none⟩ = some (.slice (some ⟨bb, 0, none⟩) q.B.length bc) := by simp [World.cell?, hWQ.o]
 have f1 : W.cell? ⟨w.heap.size, 1, none⟩ = some (.int .i64 a) := by
  have : W.heap[w.heap.size]? = some (.cells #[.int .i64 1, .int .i64 a, .int .i64 b, .int .i64 d] 44 (0, 0)) := by
   rw [← hW, heap_alloc_lt _ _ (by simp)]
   exact heap_alloc_new _ _
  simp [World.cell?, this]
 have hrow := hWQ.row
 have g1 : ¬ rq = W.heap.size := by omega
 have g2 : ¬ w.heap.size = W.heap.size := by omega
 have hz1' : W.frozen? ⟨rq, 0, none⟩ = false := by simp [World.frozen?, hWQ.o]
 have p0 := (cellB_alloc f0 (.cells #[.int .i64 a, .int .i64 (-1)] 109)).1
 clear q0 zq0 hr1 hr2 hr3 hr4 hQ
 go_region_law (refine step_append_fresh rfl (.tmp 28) (.tmp 32) 110 rfl 109 i0 z0 2 16 Try.underlying110 hi hz0 hz1 hz2 hz3 (by decide) (.slice (some ⟨bb, 0, none⟩) q.B.length bc) q.B.length (boxC q.B) (by simp [Act.eval, Act.put]) ((show W.drew.ownsRow 0 109 2 _ _ _ from hrow).alloc _) ⟨W.heap.size, 0, none⟩ 1 1 [.int .i64 a, .int .i64 (-1)] (by simp [Act.eval, Act.put]) rfl (new_cells (X := W.drew) (l := [.int .i64 a, .int .i64 (-1)]) rfl) (by intro u hu; simp at hu; rcases hu with rfl | rfl <;> rfl) (by unfold maxLen; omega) (by omega) ?_; intro v' w1 hown hgrow hfr; obtain ⟨g, cap, rfl⟩ := own_slice hown; have hk1 := grown_old (W := W.drew) hgrow (r := rq) (by show rq < W.heap.size; omega) (by simp [Value.ownBlock]; omega); have k0 := (cell_heap (j := 0) hk1).1.trans f0; have k1 := (cell_heap (j := 0) hk1).2.trans hz1')
 all_goals go_wp2
 all_goals go_ret
 all_goals exact ⟨rfl, w1, g, cap, W, by rw [← hW], hown, ⟨hgrow.os, hgrow.tape, hgrow.output, hgrow.size, hgrow.block⟩, fresh_or hfr (by simp [World.drew]), rfl⟩
end
noncomputable section
variable {w w' : World} {rq cb bb bc : Nat} {q : RQ} {c : RC} {k : Int}
def BeginOut (w : World) (rq bb cb : Nat) (w' : World) (r : RQ × RR) : Prop :=
 (∃ bb' bc', RefQ w' rq bb' bc' r.1 ∧ (bb' = bb ∨ w.heap.size ≤ bb')) ∧ (match r.2 with
  | .inl c => w'.heap[cb]? = some (.cells (callC c.kd c false false 0) 48 (0, 0))
  | .inr a => ∃ (k : Int) (c : RC), w'.heap[cb]? = some (.cells (callC k c true a.1 a.2) 48 (0, 0))) ∧
 w.heap.size ≤ w'.heap.size ∧ ∀ r, r < w.heap.size → r ≠ rq → r ≠ bb → w'.heap[r]? = w.heap[r]?
theorem RefQ.bblt (h : RefQ w rq bb bc q) : bb < w.heap.size := by obtain ⟨cur, h1, _⟩ := h.b; exact (Array.getElem?_eq_some_iff.1 h1).1
theorem RefQ.rqlt (h : RefQ w rq bb bc q) : rq < w.heap.size := (Array.getElem?_eq_some_iff.1 h.o).1
theorem begin_ref (hQ : RefQ w rq bb bc q) (hl : q.B.length < 100000000) (hp : 0 < q.B.length) (o : Op4) :
  Calls Try.prog 19 #[.pointer (some ⟨rq, 0, none⟩), o.v] w fun e w' => e = .returned (.pointer (some ⟨w.heap.size + 1, 0, none⟩)) ∧ BeginOut w rq bb (w.heap.size + 1) w' (q.begin o) := by
 obtain ⟨kd, a, b, d⟩ := o
 have hr := hQ.rqlt
 have hb := hQ.bblt
 have two : ∀ {w' : World} {o1 o2 : Obj}, w'.heap = ((w.alloc o1).alloc o2).heap → (∀ r, r < w.heap.size → w'.heap[r]? = w.heap[r]?) ∧ w'.heap[w.heap.size + 1]? = some o2 ∧ w'.heap.size = w.heap.size + 2 := fun {w' o1 o2} e => by
  refine ⟨fun r hr => ?_, ?_, by rw [e]; simp⟩
  ·rw [e, heap_alloc_lt _ _ (by simp; omega), heap_alloc_lt _ _ hr]
  ·rw [e]; exact new_at (by simp) _
 by_cases h1 : kd = 1
 ·subst h1
  refine (begin1 hQ hl).mono ?_
  rintro e w2 ⟨rfl, w1, g, cap, W, hW, hown, hgrow, hfr, hw⟩
  obtain ⟨t1, t2, t3⟩ := two hW
  have hold : ∀ r, r < w.heap.size + 2 → r ≠ bb → w1.heap[r]? = W.heap[r]? := fun r hr hne => grown_old hgrow (by omega) (by simpa using hne)
  have ho1 : w1.heap[rq]? = _ := (hold rq (by omega) (Ne.symm hQ.ne)).trans ((t1 _ hr).trans hQ.o)
  refine ⟨rfl, ?_, ?_, ?_, fun r h1 h2 h3 => ?_⟩
  ·have hne : rq ≠ g := by
    rintro rfl
    rcases hown.2 with ⟨h0, _⟩ | ⟨g', cap', cur, h3, _, h4, _⟩
    ·cases h0
    ·cases h3
     rw [ho1] at h4
     simp only [Option.some.injEq, Obj.cells.injEq] at h4
     exact absurd h4.2.1 (by decide)
   have hq2 : w2.heap[rq]? = some (.cells #[.slice (some ⟨g, 0, none⟩) (q.B.length + 1) cap, .int .i64 q.hd, .int .i64 q.tl] 112 (0, 0)) := by
    rw [hw, heap_set_eq ho1]; rfl
   have hrow2 : w2.ownsRow 0 109 2 (.slice (some ⟨g, 0, none⟩) (q.B.length + 1) cap) (q.B.length + 1) (boxC q.B ++ [.int .i64 a, .int .i64 (-1)]) := ownsRow_same2 hown fun b hb _ => by
    simp only [Value.ownBlock, Option.some.injEq] at hb
    subst hb
    rw [hw, heap_setCell_ne _ _ _ hne.symm]
   have e2 : boxC (q.B ++ [(a, none)]) = boxC q.B ++ [.int .i64 a, .int .i64 (-1)] := by rw [boxC_app]; rfl
   have e3 : (q.B ++ [(a, (none : Option Nat))]).length = q.B.length + 1 := by simp
   obtain ⟨bb', bc', e4, hR⟩ := refQ_of_row (q := ⟨q.B ++ [(a, none)], q.hd, q.tl⟩) hq2 (by rw [e2, e3]; exact hrow2) (by simp)
   refine ⟨bb', bc', hR, ?_⟩
   simp only [Value.slice.injEq, Option.some.injEq, Addr.mk.injEq] at e4
   rw [← e4.1.1]
   rcases hfr with h | h
   ·exact .inl h
   ·exact .inr (by omega)
  ·simp only [RQ.begin, if_true]
   rw [hw, heap_setCell_ne _ _ _ (show w.heap.size + 1 ≠ rq by omega), hold _ (by omega) (by omega), t2]
   rfl
  ·have := hgrow.size
   rw [hw]
   simp at this ⊢
   omega
  ·rw [hw, heap_setCell_ne _ _ _ h2, hold r (by omega) h3, t1 r h1]
 ·by_cases h23 : kd = 2 ∨ kd = 3
  ·refine (begin23 h23).mono ?_
   rintro e w2 ⟨rfl, hw⟩
   obtain ⟨t1, t2, t3⟩ := two hw
   refine ⟨rfl, ⟨bb, bc, ?_, .inl rfl⟩, ?_, by omega, fun r h1 _ _ => t1 r h1⟩
   ·have : (q.begin ⟨kd, a, b, d⟩).1 = q := by
     simp only [RQ.begin, if_neg h1]
     rcases h23 with rfl | rfl <;> simp
    rw [this]
    exact hQ.same (t1 _ hr) (t1 _ hb)
   ·rcases h23 with rfl | rfl
    ·exact t2
    ·exact t2
  ·refine (beginx h1 (fun h => h23 (.inl h)) (fun h => h23 (.inr h))).mono ?_
   rintro e w2 ⟨rfl, hw⟩
   obtain ⟨t1, t2, t3⟩ := two hw
   have hb0 : q.begin ⟨kd, a, b, d⟩ = (q, .inr (false, 0)) := by
    simp only [RQ.begin, if_neg h1, if_neg (fun h => h23 (.inl h)), if_neg (fun h => h23 (.inr h))]
   rw [hb0]
   exact ⟨rfl, ⟨bb, bc, hQ.same (t1 _ hr) (t1 _ hb), .inl rfl⟩, ⟨_, _, t2⟩, by omega, fun r h1 _ _ => t1 r h1⟩
end
noncomputable section
variable {w w' : World} {rq bb bc : Nat} {q : RQ}
theorem refQ_app {W w1 u : World} (hQ : RefQ W rq bb bc q) {a : Int} {v' : Value} (hown : w1.ownsRow 0 109 2 v' (q.B.length + 1) (boxC q.B ++ [.int .i64 a, .int .i64 (-1)])) (hold : ∀ r, r < W.heap.size → r ≠ bb → w1.heap[r]? = W.heap[r]?)
  (hfr : v'.ownBlock = some bb ∨ ∃ g, v'.ownBlock = some g ∧ W.heap.size ≤ g) (hu : u.heap = (w1.setCell ⟨rq, 0, none⟩ v').heap) :
  ∃ bb' bc', v' = .slice (some ⟨bb', 0, none⟩) (q.B.length + 1) bc' ∧ RefQ u rq bb' bc' { q with B := q.B ++ [(a, none)] } ∧ (bb' = bb ∨ W.heap.size ≤ bb') ∧ ∀ r, r < W.heap.size → r ≠ rq → r ≠ bb → u.heap[r]? = W.heap[r]? := by
 have hr := hQ.rqlt
 obtain ⟨g, cap, rfl⟩ := own_slice hown
 have ho1 : w1.heap[rq]? = _ := (hold rq hr (Ne.symm hQ.ne)).trans hQ.o
 have hne : rq ≠ g := by
  rintro rfl
  rcases hown.2 with ⟨h0, _⟩ | ⟨g', cap', cur, h3, _, h4, _⟩
  ·cases h0
  ·cases h3
   rw [ho1] at h4
   simp only [Option.some.injEq, Obj.cells.injEq] at h4
   exact absurd h4.2.1 (by decide)
 have hq2 : u.heap[rq]? = some (.cells #[.slice (some ⟨g, 0, none⟩) (q.B.length + 1) cap, .int .i64 q.hd, .int .i64 q.tl] 112 (0, 0)) := by
  rw [hu, heap_set_eq ho1]; rfl
 have hrow2 : u.ownsRow 0 109 2 (.slice (some ⟨g, 0, none⟩) (q.B.length + 1) cap) (q.B.length + 1) (boxC q.B ++ [.int .i64 a, .int .i64 (-1)]) := ownsRow_same2 hown fun b hb _ => by
  simp only [Value.ownBlock, Option.some.injEq] at hb
  subst hb
  rw [hu, heap_setCell_ne _ _ _ hne.symm]
 have e2 : boxC (q.B ++ [(a, none)]) = boxC q.B ++ [.int .i64 a, .int .i64 (-1)] := by rw [boxC_app]; rfl
 have e3 : (q.B ++ [(a, (none : Option Nat))]).length = q.B.length + 1 := by simp
 obtain ⟨bb', bc', e4, hR⟩ := refQ_of_row (q := ⟨q.B ++ [(a, none)], q.hd, q.tl⟩) hq2 (by rw [e2, e3]; exact hrow2) (by simp)
 rw [e3] at e4
 refine ⟨bb', bc', e4, hR, ?_, fun r h1 h2 h3 => by rw [hu, heap_setCell_ne _ _ _ h2]; exact hold r h1 h3⟩
 simp only [Value.slice.injEq, Option.some.injEq, Addr.mk.injEq] at e4
 rw [← e4.1.1]
 rcases hfr with h | ⟨g', h, hg⟩
 ·left; simpa [Value.ownBlock] using h
 ·right
  simp only [Value.ownBlock, Option.some.injEq] at h
  omega
theorem newRQ_len (vs : List Int) : (newRQ vs).B.length = vs.length + 1 := by simp [newRQ]
structure NewAt (w wr : World) (rq bb bc : Nat) (q : RQ) : Prop where
 q : RefQ wr rq bb bc q
 size : w.heap.size ≤ wr.heap.size
 old : ∀ r, r < w.heap.size → wr.heap[r]? = w.heap[r]?
 nq : w.heap.size ≤ rq
 nb : w.heap.size ≤ bb
set_option maxHeartbeats 4000000 in
theorem new_ref {vs : List Int} {va : Option Addr} {vb vo vc : Nat} (hlen : vs.length < 10000000) (hva : 0 < vs.length → va = some ⟨vb, vo, none⟩) (hvb : 0 < vs.length → vb < w.heap.size) (hv : ∀ k v, vs[k]? = some v → w.cell? ⟨vb, vo + k, none⟩ = some (.int .i64 v)) :
  Calls Try.prog 17 #[.slice va vs.length vc] w fun e w' => ∃ rq bb bc, e = .returned (.pointer (some ⟨rq, 0, none⟩)) ∧ NewAt w w' rq bb bc (newRQ vs) := by
 obtain ⟨i0, z0, hi, hz0, hz1, hz2, hz3⟩ := info109
 have A : Aside ((0 < vs.length → va = some ⟨vb, vo, none⟩) ∧ (0 < vs.length → vb < w.heap.size) ∧ ∀ k v, vs[k]? = some v → w.cell? ⟨vb, vo + k, none⟩ = some (.int .i64 v)) := ⟨hva, hvb, hv⟩
 clear hva hvb hv
 go_enter Try.func17, Try.ntmps17
 go_wp2
 go_loopg [4] vs.length (fun n i wr => ∃ k rq bb bc, rq = w.heap.size + 1 ∧ k ≤ vs.length ∧ i = .int .i64 (k : Nat) ∧ n = vs.length - k ∧ NewAt w wr rq bb bc (newRQ (vs.take k)))
 case atStart =>
  have h1 := new_at (X := w.alloc (.cells #[.int .i64 0, .int .i64 (-1)] 109)) (k := w.heap.size + 1) (by simp) (.cells #[.slice (some ⟨w.heap.size, 0, none⟩) 1 1, .int .i64 0, .int .i64 0] 112)
  have h2 := (heap_alloc_lt (w.alloc (.cells #[.int .i64 0, .int .i64 (-1)] 109)) (.cells #[.slice (some ⟨w.heap.size, 0, none⟩) 1 1, .int .i64 0, .int .i64 0] 112) (r := w.heap.size) (by simp)).trans (heap_alloc_new w _)
  refine ⟨0, w.heap.size + 1, w.heap.size, 1, rfl, Nat.zero_le _, rfl, rfl, ⟨h1, ⟨_, h2, rfl, by simp [newRQ], by unfold maxLen; omega, fun k x hx => ?_⟩⟩, by simp; omega, fun r hr => ?_, by omega, Nat.le_refl _⟩
  ·simp only [newRQ, List.take_zero, List.length_nil, List.getElem?_map, Option.map_eq_some_iff] at hx
   obtain ⟨j, hj, rfl⟩ := hx
   have hk := (List.getElem?_eq_some_iff.1 hj).1
   have hk0 : k = 0 := by simpa using hk
   subst hk0
   have : j = 0 := by simpa using hj.symm
   subst this
   exact ⟨rfl, rfl⟩
  ·rw [heap_alloc_lt _ _ (by simp; omega), heap_alloc_lt _ _ hr]
 case round =>
  obtain ⟨k, rq0, bb, bc, rfl, hk, rfl, rfl, hN⟩ := hrel
  have N0 : Aside (NewAt w wr (w.heap.size + 1) bb bc (newRQ (vs.take k))) := hN
  rcases Nat.lt_or_ge k vs.length with hlt | hge
  ·have hql : (newRQ (vs.take k)).B.length = k + 1 := by rw [newRQ_len, List.length_take]; omega
   have hrow := hN.q.row
   have ho := hN.q.o
   rw [hql] at hrow ho
   have hsz := hN.size
   have hold := hN.old
   have hqlt : (w.heap.size + 1) < wr.heap.size := (Array.getElem?_eq_some_iff.1 ho).1
   have hbr : ¬ bb = (w.heap.size + 1) := hN.q.ne
   generalize hq0 : newRQ (vs.take k) = q at N0 hql hrow hN
   obtain ⟨v, hv⟩ : ∃ v, vs[k]? = some v := ⟨_, List.getElem?_eq_getElem hlt⟩
   obtain ⟨rfl⟩ : va = some ⟨vb, vo, none⟩ := A.out.1 (by omega)
   have q0 : wr.cell? ⟨w.heap.size + 1, 0, none⟩ = some (.slice (some ⟨bb, 0, none⟩) (k + 1) bc) := by simp [World.cell?, ho]
   have zq0 : wr.frozen? ⟨w.heap.size + 1, 0, none⟩ = false := by simp [World.frozen?, ho]
   have ev : wr.cell? ⟨vb, vo + k, none⟩ = some (.int .i64 v) := (cell_heap (hold vb (A.out.2.1 (by omega)))).1.trans (A.out.2.2 k v hv)
   have p0 := (cellB_alloc q0 (.cells #[.int .i64 v, .int .i64 (-1)] 109)).1
   have hwr : IntKind.i64.wrap ((k : Int) + 1) = (k : Int) + 1 := IntWalk.i64_in _ (by omega)
   have V : Aside (vs[k]? = some v ∧ newRQ (vs.take k) = q) := ⟨hv, hq0⟩
   clear hN ho hold hv hq0
   go_wp2
   go_region_law (refine step_append_fresh rfl (.tmp 19) (.tmp 25) 110 rfl 109 i0 z0 2 16 Try.underlying110 hi hz0 hz1 hz2 hz3 (by decide) (.slice (some ⟨bb, 0, none⟩) (k + 1) bc) (k + 1) (boxC q.B) (by simp [Act.eval, Act.put]) ((show wr.drew.ownsRow 0 109 2 _ _ _ from hrow).alloc _) ⟨wr.heap.size, 0, none⟩ 1 1 [.int .i64 v, .int .i64 (-1)] (by simp [Act.eval, Act.put]) rfl (new_cells (X := wr.drew) (l := [.int .i64 v, .int .i64 (-1)]) rfl) (by intro u hu; simp at hu; rcases hu with rfl | rfl <;> rfl) (by unfold maxLen; omega) (by omega) ?_; intro v' w1 hown hgrow hfr; obtain ⟨g, cap, rfl⟩ := own_slice hown; have hk1 := grown_old (W := wr.drew) hgrow (r := (w.heap.size + 1)) hqlt (by simp [Value.ownBlock]; omega); have k0 := (cell_heap (j := 0) hk1).1.trans q0; have k1 := (cell_heap (j := 0) hk1).2.trans zq0; have F : Aside ((∀ r, r < wr.heap.size → r ≠ bb → w1.heap[r]? = wr.heap[r]?) ∧ wr.heap.size ≤ w1.heap.size ∧ ((Value.slice (some ⟨g, 0, none⟩) (k + 1 + 1) cap).ownBlock = some bb ∨ ∃ g', (Value.slice (some ⟨g, 0, none⟩) (k + 1 + 1) cap).ownBlock = some g' ∧ wr.heap.size ≤ g')) := ⟨fun r hr hn => grown_old (W := wr.drew) hgrow hr (by simp [Value.ownBlock]; exact hn), Nat.le_trans (by simp [World.drew]) hgrow.size, hfr.imp (fun h => by simpa [Value.ownBlock] using h) fun ⟨g', h1, h2⟩ => ⟨g', h1, Nat.le_trans (by simp [World.drew]) h2⟩⟩; clear hgrow hfr hk1)
   all_goals (
    obtain ⟨bb', bc', e4, hR, hb', hold'⟩ := refQ_app (u := w1.setCell ⟨w.heap.size + 1, 0, none⟩ (.slice (some ⟨g, 0, none⟩) (k + 1 + 1) cap)) N0.out.q (v' := .slice (some ⟨g, 0, none⟩) (k + 1 + 1) cap) (by rw [hql]; exact hown) F.out.1 F.out.2.2 rfl
    rw [hql] at e4
    simp only [Value.slice.injEq, Option.some.injEq, Addr.mk.injEq, and_true, true_and] at e4
    obtain ⟨rfl, rfl⟩ := e4
    have hws : (w1.setCell ⟨w.heap.size + 1, 0, none⟩ (.slice (some ⟨g, 0, none⟩) (k + 1 + 1) cap)).heap.size = w1.heap.size := by simp
    generalize w1.setCell ⟨w.heap.size + 1, 0, none⟩ (.slice (some ⟨g, 0, none⟩) (k + 1 + 1) cap) = we at hR hold' hws ⊢
    have N1 : Aside (NewAt w we (w.heap.size + 1) g cap { q with B := q.B ++ [(v, none)] }) := by
     refine ⟨hR, ?_, fun r hr => ?_, N0.out.nq, ?_⟩
     ·have := F.out.2.1; omega
     ·exact (hold' r (by omega) (by have := N0.out.nq; omega) (by have := N0.out.nb; omega)).trans (N0.out.old r hr)
     ·have := N0.out.nb
      rcases hb' with h | h <;> omega
    have ho2 := hR.o
    obtain ⟨cur, hb1, hb2, hb3, _, _⟩ := hR.b
    have hgr : ¬ g = (w.heap.size + 1) := hR.ne
    have hgr2 : ¬ (w.heap.size + 1) = g := fun e => hgr e.symm
    have hl2 : (q.B ++ [(v, (none : Option Nat))]).length = k + 2 := by simp [hql]
    simp only [hl2] at ho2 hb3
    have f0 : we.cell? ⟨w.heap.size + 1, 0, none⟩ = some (.slice (some ⟨g, 0, none⟩) (k + 2) cap) := by simp [World.cell?, ho2]
    have f2 : we.cell? ⟨w.heap.size + 1, 2, none⟩ = some (.int .i64 q.tl) := by simp [World.cell?, ho2]
    have y2 : we.frozen? ⟨w.heap.size + 1, 2, none⟩ = false := by simp [World.frozen?, ho2]
    obtain ⟨b1, _, b3⟩ := hR.nxt (k := k) (by simp only [hl2]; omega)
    have b4 := b3 (k * 2 + 1)
    clear hR hold' ho2 hb1 hb2 b3 k0 k1 F hown p0 q0 zq0 ev hrow
    go_wp2
    go_roundg (vs.length - (k + 1))
    case measure => omega
    case rel =>
     obtain ⟨n1, n2, n3, n4, n5⟩ := N1.out
     refine ⟨k + 1, (w.heap.size + 1), g, cap, rfl, hlt, rfl, rfl, ?_, by simpa using n2, fun r hr => ?_, by omega, n5⟩
     ·rw [newRQ_step V.out.1, V.out.2]
      exact (n1.setNx (T := k) (by simp only [hl2]; omega) (k + 1)).setTl (k + 1)
     ·rw [heap_setCell_ne _ _ _ (show r ≠ w.heap.size + 1 by omega), heap_setCell_ne _ _ _ (show r ≠ g by omega)]
      exact n3 r hr)
  ·obtain rfl : k = vs.length := by omega
   go_wp2
   go_ret
   have h := N0.out
   rw [List.take_length] at h
   exact ⟨w.heap.size + 1, bb, bc, rfl, h⟩
end
noncomputable section
variable {w w' : World}
structure RRow (w : World) (a : Option Addr) (xs : List Value) : Prop where
 c : ∀ k x, xs[k]? = some x → ∃ b o, a = some ⟨b, o, none⟩ ∧ w.cell? ⟨b, o + k, none⟩ = some x
theorem RRow.heap {a : Option Addr} {xs : List Value} (h : RRow w a xs) (e : w'.heap = w.heap) : RRow w' a xs :=
 ⟨fun k x hx => by
  obtain ⟨b, o, h1, h2⟩ := h.c k x hx
  exact ⟨b, o, h1, by simpa only [World.cell?, e] using h2⟩⟩
theorem rrow_of {base n size c : Nat} {e : TypeId} {a : Option Addr} {xs : List Value} (h : w.ownsRow base e size (.slice a n c) n xs) : RRow w a xs :=
 ⟨fun k x hx => by
  obtain ⟨b, cap, e1, h1⟩ := row_get h hx
  cases e1
  exact ⟨b, 0, rfl, by rw [Nat.zero_add]; exact h1.c⟩⟩
theorem same_numbersB {aa ab : Option Addr} {ca cb : Nat} {xs : List Int} (hl : xs.length < 100000000) (hA : RRow w aa (xs.map fun v => .int .i64 v)) (hB : RRow w ab (xs.map fun v => .int .i64 v)) :
  CallsB Try.prog Try.f18 #[.slice aa xs.length ca, .slice ab xs.length cb] w fun x w' => x = .bool true ∧ w'.heap = w.heap := by
 have E : Aside (RRow w aa (xs.map fun v => .int .i64 v) ∧ RRow w ab (xs.map fun v => .int .i64 v)) := ⟨hA, hB⟩
 clear hA hB
 refine callsB_of rfl ?_
 simp only [Try.ntmps18, List.size_toArray, List.length_cons, List.length_nil, Nat.reduceAdd, Nat.reduceSub, Array.replicate_succ, Array.replicate_zero, List.push_toArray, List.append_toArray, List.nil_append, List.cons_append]
 go_wp2
 go_loopg [5] xs.length (fun g i wr => ∃ k : Nat, k ≤ xs.length ∧ i = .int .i64 k ∧ g = xs.length - k ∧ wr.heap = w.heap)
 case atStart => exact ⟨0, Nat.zero_le _, rfl, rfl, rfl⟩
 case round =>
  obtain ⟨k, hk, rfl, rfl, hw⟩ := hrel
  rcases Nat.lt_or_ge k xs.length with hlt | hge
  ·obtain ⟨b1, o1, rfl, h1⟩ := (E.out.1.heap hw).c k (.int .i64 xs[k]) (by simp [hlt])
   obtain ⟨b2, o2, rfl, h2⟩ := (E.out.2.heap hw).c k (.int .i64 xs[k]) (by simp [hlt])
   have hwr : IntKind.i64.wrap ((k : Int) + 1) = (k : Int) + 1 := IntWalk.i64_in _ (by omega)
   go_wp2
   go_quiet (fail)
   go_wp2
   go_roundg (xs.length - (k + 1))
   case measure => omega
   case rel => exact ⟨k + 1, hlt, rfl, rfl, hw⟩
  ·have : k = xs.length := by omega
   subst this
   go_wp2
   go_ret
   exact ⟨_, rfl, rfl, hw⟩
theorem same_numbers {aa ab : Option Addr} {ca cb : Nat} {xs : List Int} (hl : xs.length < 100000000) (hA : RRow w aa (xs.map fun v => .int .i64 v)) (hB : RRow w ab (xs.map fun v => .int .i64 v)) :
  Calls Try.prog 18 #[.slice aa xs.length ca, .slice ab xs.length cb] w fun x w' => x = .returned (.bool true) ∧ w'.heap = w.heap :=
 ((same_numbersB hl hA hB).calls Try.func18 rfl).mono (by rintro e u ⟨v, rfl, rfl, h⟩; exact ⟨rfl, h⟩)
theorem same_ints {aa ab : Option Addr} {ca cb : Nat} {xs : List Int} (hl : xs.length < 100000000) (hA : RRow w aa (xs.map fun v => .int .i64 v)) (hB : RRow w ab (xs.map fun v => .int .i64 v)) :
  Calls Try.prog 35 #[.slice aa xs.length ca, .slice ab xs.length cb] w fun x w' => x = .returned (.bool true) ∧ w'.heap = w.heap := by
 have E : Aside (RRow w aa (xs.map fun v => .int .i64 v) ∧ RRow w ab (xs.map fun v => .int .i64 v)) := ⟨hA, hB⟩
 clear hA hB
 go_enter Try.func35, Try.ntmps35
 go_wp2
 go_loopg [5] xs.length (fun g i wr => ∃ k : Nat, k ≤ xs.length ∧ i = .int .i64 k ∧ g = xs.length - k ∧ wr.heap = w.heap)
 case atStart => exact ⟨0, Nat.zero_le _, rfl, rfl, rfl⟩
 case round =>
  obtain ⟨k, hk, rfl, rfl, hw⟩ := hrel
  rcases Nat.lt_or_ge k xs.length with hlt | hge
  ·obtain ⟨b1, o1, rfl, h1⟩ := (E.out.1.heap hw).c k (.int .i64 xs[k]) (by simp [hlt])
   obtain ⟨b2, o2, rfl, h2⟩ := (E.out.2.heap hw).c k (.int .i64 xs[k]) (by simp [hlt])
   have hwr : IntKind.i64.wrap ((k : Int) + 1) = (k : Int) + 1 := IntWalk.i64_in _ (by omega)
   go_wp2
   go_quiet (fail)
   go_wp2
   go_roundg (xs.length - (k + 1))
   case measure => omega
   case rel => exact ⟨k + 1, hlt, rfl, rfl, hw⟩
  ·have : k = xs.length := by omega
   subst this
   go_wp2
   go_ret
   exact ⟨rfl, hw⟩
theorem same_nil : Calls Try.prog 18 #[.slice none 0 0, .slice none 0 0] w fun x w' => x = .returned (.bool true) ∧ w' = w := by
 go_enter Try.func18, Try.ntmps18
 go_wp2
 go_loopg [5] 1 (fun g i wr => i = .int .i64 0 ∧ wr = w)
 case atStart => exact ⟨rfl, rfl⟩
 case round =>
  obtain ⟨rfl, rfl⟩ := hrel
  go_wp2
  go_ret
  exact ⟨rfl, rfl⟩
theorem ans_get (l : List (Bool × Int)) : ∀ (k : Nat), (ansC l)[k * 3]? = (l[k]?).map (fun a => Value.bool a.1) ∧ (ansC l)[k * 3 + 1]? = (l[k]?).map (fun a => Value.int .i64 a.2) ∧ (ansC l)[k * 3 + 2]? = (l[k]?).map (fun a => Value.slice none 0 0) := by
 induction l with
 | nil => intro k; simp [ansC]
 | cons a l ih =>
  intro k
  have e : ansC (a :: l) = Value.bool a.1 :: Value.int .i64 a.2 :: Value.slice none 0 0 :: ansC l := rfl
  cases k with
  | zero => simp [e]
  | succ k =>
   have e2 : (k + 1) * 3 = k * 3 + 1 + 1 + 1 := by omega
   rw [e, e2]
   simpa using ih k
theorem same_answers {aa ab : Option Addr} {ca cb : Nat} {xs : List (Bool × Int)} (hl : xs.length < 100000000) (hA : RRow w aa (ansC xs)) (hB : RRow w ab (ansC xs)) :
  Calls Try.prog 36 #[.slice aa xs.length ca, .slice ab xs.length cb] w fun x w' => x = .returned (.bool true) ∧ w'.heap = w.heap := by
 have E : Aside (RRow w aa (ansC xs) ∧ RRow w ab (ansC xs)) := ⟨hA, hB⟩
 clear hA hB
 go_enter Try.func36, Try.ntmps36
 go_wp2
 go_loopg [5] xs.length (fun g i wr => ∃ k : Nat, k ≤ xs.length ∧ i = .int .i64 k ∧ g = xs.length - k ∧ wr.heap = w.heap)
 case atStart => exact ⟨0, Nat.zero_le _, rfl, rfl, rfl⟩
 case round =>
  obtain ⟨k, hk, rfl, rfl, hw⟩ := hrel
  rcases Nat.lt_or_ge k xs.length with hlt | hge
  ·obtain ⟨g1, g2, g3⟩ := ans_get xs k
   rw [List.getElem?_eq_getElem hlt] at g1 g2 g3
   generalize xs[k] = x at g1 g2 g3
   obtain ⟨b, n⟩ := x
   obtain ⟨b1, o1, rfl, f0⟩ := (E.out.1.heap hw).c (k * 3) _ g1
   obtain ⟨_, _, e1, f1⟩ := (E.out.1.heap hw).c (k * 3 + 1) _ g2
   cases e1
   obtain ⟨_, _, e1, f2⟩ := (E.out.1.heap hw).c (k * 3 + 2) _ g3
   cases e1
   obtain ⟨b2, o2, rfl, h0⟩ := (E.out.2.heap hw).c (k * 3) _ g1
   obtain ⟨_, _, e1, h1⟩ := (E.out.2.heap hw).c (k * 3 + 1) _ g2
   cases e1
   obtain ⟨_, _, e1, h2⟩ := (E.out.2.heap hw).c (k * 3 + 2) _ g3
   cases e1
   rw [← Nat.add_assoc] at f1 f2 h1 h2
   have H : Aside (∀ m, Calls Try.prog 18 #[.slice none 0 0, .slice none 0 0] (wr.drewN m) fun x w' => x = .returned (.bool true) ∧ w' = wr.drewN m) := fun m => same_nil
   have hwr : IntKind.i64.wrap ((k : Int) + 1) = (k : Int) + 1 := IntWalk.i64_in _ (by omega)
   have W : Aside (wr.heap = w.heap) := hw
   clear g1 g2 g3 hw
   cases b
   all_goals (
    go_wp2
    go_quiet ((go_at_call 18; exact Calls.quiet_of_same (H.out _)))
    go_wp2
    go_roundg (xs.length - (k + 1))
    case measure => omega
    case rel => exact ⟨k + 1, hlt, rfl, rfl, W.out⟩)
  ·have : k = xs.length := by omega
   subst this
   go_wp2
   go_ret
   exact ⟨rfl, hw⟩
end
noncomputable section
variable {w w' : World} {rq bb bc : Nat} {q : RQ}
theorem Path.head {o : Option Nat} {l : List Nat} (h : Path q o l) : o = l.head? := by cases h <;> rfl
theorem Path.det {o : Option Nat} {l : List Nat} (h : Path q o l) : ∀ {m}, Path q o m → l = m := by
 induction h with
 | nil => intro m k; cases k; rfl
 | cons hk _ ih => intro m k; cases k with | cons _ k2 => rw [ih k2]
theorem nxI_none : nxI none = -1 := rfl
theorem nxI_some (n : Nat) : nxI (some n) = n := rfl
theorem behind_ref {lb : List Nat} (hQ : RefQ w rq bb bc q) (htl : q.tl < q.B.length) (hp : Path q (q.nx q.tl) lb) (hl : lb.length < 100000000) (hB : q.B.length < 100000000) :
  Calls Try.prog 46 #[.pointer (some ⟨rq, 0, none⟩)] w fun x w' => x = .returned (.int .i64 lb.length) ∧ w'.heap = w.heap := by
 have A : Aside (RefQ w rq bb bc q) := hQ
 have q0 : w.cell? ⟨rq, 0, none⟩ = some (.slice (some ⟨bb, 0, none⟩) q.B.length bc) := by simp [World.cell?, hQ.o]
 have q2 : w.cell? ⟨rq, 2, none⟩ = some (.int .i64 q.tl) := by simp [World.cell?, hQ.o]
 have b1 := (hQ.nxt htl).1
 have P0 : Aside (Path q (q.nx q.tl) lb) := hp
 clear hQ hp
 go_enter Try.func46, Try.ntmps46
 go_wp2
 go_quiet (fail)
 go_wp2
 go_loopg [3, 4] lb.length (fun g n i wr => ∃ (k : Nat) (l : List Nat) (o : Option Nat), n = .int .i64 k ∧ i = .int .i64 (nxI o) ∧ Path q o l ∧ k + l.length = lb.length ∧ g = l.length ∧ wr.heap = w.heap)
 case atStart => exact ⟨0, lb, _, rfl, rfl, P0.out, by omega, rfl, rfl⟩
 case round =>
  obtain ⟨k, l, o, rfl, rfl, hP, hkl, rfl, hw⟩ := hrel
  clear q0 q2 b1
  have hQ := A.out.heap (w' := wr) hw
  have q0 : wr.cell? ⟨rq, 0, none⟩ = some (.slice (some ⟨bb, 0, none⟩) q.B.length bc) := by simp [World.cell?, hQ.o]
  cases hP with
  | nil =>
   rw [nxI_none]
   have hm1 : ¬ (0 : Int) ≤ -1 := by omega
   go_wp2
   go_ret
   simp only [List.length_nil, Nat.add_zero] at hkl
   rw [hkl]
   exact ⟨rfl, hw⟩
  | @cons m l hm hP =>
   have b1 := (hQ.nxt hm).1
   rw [nxI_some]
   simp only [List.length_cons] at hkl
   have hm0 : (0 : Int) ≤ (m : Int) := by omega
   have hwr : IntKind.i64.wrap ((k : Int) + 1) = (k : Int) + 1 := IntWalk.i64_in _ (by omega)
   have P1 : Aside (Path q (q.nx m) l ∧ wr.heap = w.heap) := ⟨hP, hw⟩
   clear hQ hP hw
   go_wp2
   go_roundg l.length
   case measure => simp
   case rel => exact ⟨k + 1, l, _, rfl, rfl, P1.out.1, by omega, rfl, P1.out.2⟩
structure ValsAt (w wr : World) (ov : Value) (xs : List Int) : Prop where
 row : wr.ownsRow 0 2 1 ov xs.length (xs.map fun v => .int .i64 v)
 size : w.heap.size ≤ wr.heap.size
 old : ∀ r, r < w.heap.size → wr.heap[r]? = w.heap[r]?
 new : ∀ g, ov.ownBlock = some g → w.heap.size ≤ g
theorem values_ref {lv : List Nat} (hQ : RefQ w rq bb bc q) (hhd : q.hd < q.B.length) (hp : Path q (q.nx q.hd) lv) (hl : lv.length < 100000000) (hB : q.B.length < 100000000) :
  Calls Try.prog 24 #[.pointer (some ⟨rq, 0, none⟩)] w fun x w' => ∃ ov, x = .returned ov ∧ ValsAt w w' ov (lv.map q.vl) := by
 obtain ⟨i0, z0, hi, hz0, hz1, hz2, hz3⟩ := infoA2
 have A : Aside (RefQ w rq bb bc q) := hQ
 have q0 : w.cell? ⟨rq, 0, none⟩ = some (.slice (some ⟨bb, 0, none⟩) q.B.length bc) := by simp [World.cell?, hQ.o]
 have q1 : w.cell? ⟨rq, 1, none⟩ = some (.int .i64 q.hd) := by simp [World.cell?, hQ.o]
 have b1 := (hQ.nxt hhd).1
 have P0 : Aside (Path q (q.nx q.hd) lv) := hp
 clear hQ hp
 go_enter Try.func24, Try.ntmps24
 go_wp2
 go_quiet (fail)
 go_wp2
 go_loopg [3, 4] lv.length (fun g n i wr => ∃ (d l : List Nat) (o : Option Nat) (oa : Option Addr) (oc : Nat), n = .slice oa d.length oc ∧ i = .int .i64 (nxI o) ∧ Path q o l ∧ d ++ l = lv ∧ g = l.length ∧ ValsAt w wr (.slice oa d.length oc) (d.map q.vl))
 case atStart => exact ⟨[], lv, _, none, 0, rfl, rfl, P0.out, rfl, rfl, ⟨⟨rfl, .inl ⟨rfl, rfl⟩⟩, Nat.le_refl _, fun r _ => rfl, fun g h => by cases h⟩⟩
 case round =>
  obtain ⟨d, l, o, oa, oc, rfl, rfl, hP, hdl, rfl, hV⟩ := hrel
  clear q0 q1 b1
  have hQ := A.out.same (w' := wr) (hV.old _ A.out.rqlt) (hV.old _ A.out.bblt)
  have q0 : wr.cell? ⟨rq, 0, none⟩ = some (.slice (some ⟨bb, 0, none⟩) q.B.length bc) := by simp [World.cell?, hQ.o]
  cases hP with
  | nil =>
   rw [nxI_none]
   have hm1 : ¬ (0 : Int) ≤ -1 := by omega
   go_wp2
   go_ret
   rw [List.append_nil] at hdl
   subst hdl
   exact ⟨_, rfl, hV⟩
  | @cons m l hm hP =>
   obtain ⟨b1, b0, _⟩ := hQ.nxt hm
   have hrow := hV.row
   rw [nxI_some]
   have hm0 : (0 : Int) ≤ (m : Int) := by omega
   have hd2 : d.length + (l.length + 1) = lv.length := by rw [← hdl]; simp
   have hsz := hV.size
   obtain ⟨cur, hbb, _⟩ := hQ.b
   rw [List.length_map] at hrow
   have V : Aside (Path q (q.nx m) l ∧ d ++ m :: l = lv ∧ ValsAt w wr (.slice oa d.length oc) (d.map q.vl) ∧ RefQ wr rq bb bc q) := ⟨hP, hdl, hV, hQ⟩
   clear hQ hP hdl hV
   go_wp2_with (first
    | (at_builtin; refine wpList_append_fresh rfl (.tmp 26) (.tmp 35) 22 rfl 2 i0 z0 1 8 Try.underlying22 hi hz0 hz1 hz2 hz3 (by decide) (.slice oa d.length oc) d.length ((d.map q.vl).map fun v => .int .i64 v) rfl ?c0 ⟨wr.heap.size, 0, none⟩ 1 1 [.int .i64 (q.vl m)] rfl rfl ?c1 ?c2 ?c3 ?c4 ?_)
    | go_in)
   case c0 => exact World.ownsRow.alloc hrow _
   case c1 => exact new_cells (X := wr) (l := [.int .i64 (q.vl m)]) rfl
   case c2 => intro u hu; simp at hu; subst hu; rfl
   case c3 => unfold maxLen; omega
   case c4 => omega
   ·intro v' w1 hown hgrow hfr
    obtain ⟨g, cap, rfl⟩ := own_slice hown
    have hkq : w1.heap[rq]? = wr.heap[rq]? := grown_old hgrow V.out.2.2.2.rqlt (own_type V.out.2.2.1.row V.out.2.2.2.o (by decide))
    have hkb : w1.heap[bb]? = wr.heap[bb]? := grown_old hgrow V.out.2.2.2.bblt (own_type V.out.2.2.1.row hbb (by decide))
    have k0 := (cell_heap (j := 0) hkq).1.trans q0
    have k1 := (cell_heap (j := m * 2 + 1) hkb).1.trans b1
    have hold : ∀ r, r < w.heap.size → w1.heap[r]? = wr.heap[r]? := fun r hr => by
     refine grown_old hgrow (by omega) fun e => ?_
     have := V.out.2.2.1.new r e.symm
     omega
    have hgs := hgrow.size
    simp only [World.size_alloc] at hgs
    have F : Aside (w1.ownsRow 0 2 1 (.slice (some ⟨g, 0, none⟩) (d.length + 1) cap) (d.length + 1) ((d.map q.vl).map (fun v => .int .i64 v) ++ [.int .i64 (q.vl m)]) ∧ (∀ r, r < w.heap.size → w1.heap[r]? = wr.heap[r]?) ∧ wr.heap.size ≤ w1.heap.size ∧ ((Value.slice (some ⟨g, 0, none⟩) (d.length + 1) cap).ownBlock = (Value.slice oa d.length oc).ownBlock ∨ ∃ g', (Value.slice (some ⟨g, 0, none⟩) (d.length + 1) cap).ownBlock = some g' ∧ wr.heap.size ≤ g')) :=
     ⟨by simpa only [List.map_map] using hown, hold, by omega, hfr.imp id fun ⟨g', h1, h2⟩ => ⟨g', h1, by omega⟩⟩
    clear hown hgrow hfr hkq hkb hold hgs hbb hrow q0 b1 b0
    go_wp2
    go_roundg l.length
    case measure => simp
    case rel =>
     obtain ⟨v1, v2, v3, v4⟩ := V.out
     obtain ⟨f1, f2, f3, f4⟩ := F.out
     have e1 : (d ++ [m]).length = d.length + 1 := by simp
     refine ⟨d ++ [m], l, _, some ⟨g, 0, none⟩, cap, by rw [e1], rfl, v1, by simpa using v2, rfl, ⟨?_, by have := v3.size; omega, fun r hr => (f2 r hr).trans (v3.old r hr), fun g' hg => ?_⟩⟩
     ·rw [e1]
      simpa using f1
     ·rw [e1] at hg
      rcases f4 with h | ⟨g2, h, h2⟩
      ·exact v3.new g' (h ▸ hg)
      ·rw [h] at hg; cases hg
       have := v3.size; omega
end
noncomputable section
variable {w : World}
def S1l : List Nat := [17, 18, 19, 20, 24, 48, 49, 50, 64]
def S1 (f : FuncId) : Bool := S1l.contains f
theorem codeOkF_S1 : S1l.all (codeOkF Try.prog fun f => S1l.contains f) = true := by kernel_rfl
theorem closed1 : Closed Try.prog S1 true := closed_of codeOkF_S1
theorem own_callS1 {f : Nat} (hS : S1 f = true) {fn : Func} (hf : Try.prog.funcs[f]? = some fn) {args : Array Value} {R : Value → World → Prop}
  (H : ∀ τ e, CallsB Try.prog fn args (retape w τ e) R) {cl : Frame} {cs : List Frame} {main : Bool} {Stop : Goroutine → World → Prop}
  (K : ∀ v w' τ e, R v (retape w' τ e) → Gd F0 w w' → Own Try.prog main F0 Stop (G (cl.finish v) cs) w') : Own Try.prog main F0 Stop (G (Frame.enter Try.prog f args .normal) (cl :: cs)) w := by
 obtain ⟨fn', h1, h2, c, h3, h4⟩ := codeOkF_of (List.all_eq_true.1 codeOkF_S1 f (List.contains_iff_mem.1 hS))
 rw [hf] at h1
 cases h1
 exact own_callB closed1 prog_late hf h3 h4 H K
end
noncomputable section
variable {w w' : World}
theorem qcL5 {a b iv qv : Value} {R : Nat → World → Prop} (hC : Calls Try.prog 17 #[a] w fun e w' => ∃ rq, e = .returned (.pointer (some ⟨rq, 0, none⟩)) ∧ R rq w') {A : Array Value} (hA : Slots 149 A [(0, a), (1, b), (5, iv), (6, qv)]) {Q : Act → World → Prop}
  (hQ : ∀ A' rq w', Slots 149 A' [(0, a), (1, b), (5, iv), (6, qv), (7, .pointer (some ⟨rq, 0, none⟩))] → R rq w' → Q ⟨A', []⟩ w') : qcr5.wp Try.prog (nrm Q) ⟨A, []⟩ w := by
 obtain ⟨hsz, h0, h1, h5, h6, _⟩ := hA
 obtain ⟨s, rfl⟩ := qcT_of hsz
 change s 0 = _ at h0
 change s 1 = _ at h1
 change s 5 = _ at h5
 change s 6 = _ at h6
 have HQ : Aside (∀ A' rq w', Slots 149 A' [(0, a), (1, b), (5, iv), (6, qv), (7, .pointer (some ⟨rq, 0, none⟩))] → R rq w' → Q ⟨A', []⟩ w') := hQ
 have H : Aside (Calls Try.prog 17 #[a] w fun e w' => ∃ rq, e = .returned (.pointer (some ⟨rq, 0, none⟩)) ∧ R rq w') := hC
 clear hC
 clear hsz hQ
 simp only [qcr5, qcBody, Code.piece, Try.f4, Option.getD_some, qcT, h0, h1, h5, h6]
 clear h0 h1 h5 h6
 go_wp2_with (fail)
 go_at_call 17
 refine H.out.mono ?_
 rintro e w1 ⟨rq, rfl, hR⟩
 have R1 : Aside (R rq w1) := hR
 clear hR
 go_wp2
 exact HQ.out _ _ _ ⟨rfl, rfl, rfl, rfl, rfl, rfl, trivial⟩ R1.out
theorem qcL7 {a b iv rv sv : Value} {qb : Nat} (hC : ∀ w1, w1.heap = w.heap → Calls Try.prog 18 #[iv, a] w1 fun e w' => e = .returned (.bool true) ∧ w'.heap = w1.heap) {A : Array Value} (hA : Slots 149 A [(0, a), (1, b), (5, iv), (6, .pointer (some ⟨qb, 0, none⟩)), (7, rv), (8, sv)]) {Q : Act → World → Prop}
  (hQ : ∀ A' w', Slots 149 A' [(1, b), (5, iv), (6, .pointer (some ⟨qb, 0, none⟩)), (7, rv), (8, sv), (36, .bool false)] → w'.heap = w.heap → Q ⟨A', []⟩ w') : qcr7.wp Try.prog (nrm Q) ⟨A, []⟩ w := by
 obtain ⟨hsz, h0, h1, h5, h6, h7, h8, _⟩ := hA
 obtain ⟨s, rfl⟩ := qcT_of hsz
 change s 0 = _ at h0
 change s 1 = _ at h1
 change s 5 = _ at h5
 change s 6 = _ at h6
 change s 7 = _ at h7
 change s 8 = _ at h8
 have HQ : Aside (∀ A' w', Slots 149 A' [(1, b), (5, iv), (6, .pointer (some ⟨qb, 0, none⟩)), (7, rv), (8, sv), (36, .bool false)] → w'.heap = w.heap → Q ⟨A', []⟩ w') := hQ
 have H : Aside (∀ w1, w1.heap = w.heap → Calls Try.prog 18 #[iv, a] w1 fun e w' => e = .returned (.bool true) ∧ w'.heap = w1.heap) := hC
 clear hC
 clear hsz hQ
 simp only [qcr7, qcBody, Code.piece, Try.f4, Option.getD_some, qcT, h0, h1, h5, h6, h7, h8]
 clear h0 h1 h5 h6 h7 h8
 go_wp2_with (fail)
 go_at_call 18
 refine (H.out _ rfl).mono ?_
 rintro e w1 ⟨rfl, hR⟩
 have R1 : Aside (w1.heap = w.heap) := hR
 clear hR
 go_wp2
 exact HQ.out _ _ ⟨rfl, rfl, rfl, rfl, rfl, rfl, rfl, trivial⟩ R1.out
theorem qcL16 {qv sv : Value} {ob oo on oc i rq : Nat} {ov : Op4} (hi : i < on) (h0 : w.cell? ⟨ob, oo + i * 4, none⟩ = some (.int .i64 ov.kd)) (h1 : w.cell? ⟨ob, oo + i * 4 + 1, none⟩ = some (.int .i64 ov.a)) (h2 : w.cell? ⟨ob, oo + i * 4 + 2, none⟩ = some (.int .i64 ov.b)) (h3 : w.cell? ⟨ob, oo + i * 4 + 3, none⟩ = some (.int .i64 ov.c)) {R : Nat → World → Prop} (hC : ∀ w1, w1.heap = w.heap → Calls Try.prog 19 #[.pointer (some ⟨rq, 0, none⟩), ov.v] w1 fun e w' => ∃ cb, e = .returned (.pointer (some ⟨cb, 0, none⟩)) ∧ R cb w') {A : Array Value} (hA : Slots 149 A [(1, .slice (some ⟨ob, oo, none⟩) on oc), (6, qv), (7, .pointer (some ⟨rq, 0, none⟩)), (8, sv), (10, .int .i64 i)]) {Q : Act → World → Prop}
  (hQ : ∀ A' cb w', Slots 149 A' [(1, .slice (some ⟨ob, oo, none⟩) on oc), (6, qv), (7, .pointer (some ⟨rq, 0, none⟩)), (8, sv), (10, .int .i64 i), (11, .pointer (some ⟨cb, 0, none⟩))] → R cb w' → Q ⟨A', []⟩ w') : qcr16.wp Try.prog (nrm Q) ⟨A, []⟩ w := by
 obtain ⟨hsz, k1, k6, k7, k8, k10, _⟩ := hA
 obtain ⟨s, rfl⟩ := qcT_of hsz
 change s 1 = _ at k1
 change s 6 = _ at k6
 change s 7 = _ at k7
 change s 8 = _ at k8
 change s 10 = _ at k10
 have HQ : Aside (∀ A' cb w', Slots 149 A' [(1, .slice (some ⟨ob, oo, none⟩) on oc), (6, qv), (7, .pointer (some ⟨rq, 0, none⟩)), (8, sv), (10, .int .i64 i), (11, .pointer (some ⟨cb, 0, none⟩))] → R cb w' → Q ⟨A', []⟩ w') := hQ
 have H : Aside (∀ w1, w1.heap = w.heap → Calls Try.prog 19 #[.pointer (some ⟨rq, 0, none⟩), ov.v] w1 fun e w' => ∃ cb, e = .returned (.pointer (some ⟨cb, 0, none⟩)) ∧ R cb w') := hC
 have hi2 : (i : Int) < (on : Int) := by omega
 clear hC
 clear hsz hQ
 simp only [qcr16, qcBody, Code.piece, Try.f4, Option.getD_some, qcT, k1, k6, k7, k8, k10]
 clear k1 k6 k7 k8 k10
 go_wp2_with (fail)
 go_at_call 19
 refine (H.out _ rfl).mono ?_
 rintro e w1 ⟨cb, rfl, hR⟩
 have R1 : Aside (R cb w1) := hR
 clear hR
 go_wp2
 exact HQ.out _ _ _ ⟨rfl, rfl, rfl, rfl, rfl, rfl, rfl, trivial⟩ R1.out
theorem qcL26 {qv lv mv rv : Value} {R : Value → World → Prop} (hC : Calls Try.prog 24 #[rv] w fun e w' => ∃ ov, e = .returned ov ∧ R ov w') {A : Array Value} (hA : Slots 149 A [(6, qv), (7, rv), (14, lv), (15, mv)]) {Q : Act → World → Prop}
  (hQ : ∀ A' ov w', Slots 149 A' [(6, qv), (14, lv), (15, mv), (16, ov)] → R ov w' → Q ⟨A', []⟩ w') : qcr26.wp Try.prog (nrm Q) ⟨A, []⟩ w := by
 obtain ⟨hsz, h6, h7, h14, h15, _⟩ := hA
 obtain ⟨s, rfl⟩ := qcT_of hsz
 change s 6 = _ at h6
 change s 7 = _ at h7
 change s 14 = _ at h14
 change s 15 = _ at h15
 have HQ : Aside (∀ A' ov w', Slots 149 A' [(6, qv), (14, lv), (15, mv), (16, ov)] → R ov w' → Q ⟨A', []⟩ w') := hQ
 have H : Aside (Calls Try.prog 24 #[rv] w fun e w' => ∃ ov, e = .returned ov ∧ R ov w') := hC
 clear hC
 clear hsz hQ
 simp only [qcr26, qcBody, Code.piece, Try.f4, Option.getD_some, qcT, h6, h7, h14, h15]
 clear h6 h7 h14 h15
 go_wp2_with (fail)
 go_at_call 24
 refine H.out.mono ?_
 rintro e w1 ⟨ov, rfl, hR⟩
 have R1 : Aside (R ov w1) := hR
 clear hR
 go_wp2
 exact HQ.out _ _ _ ⟨rfl, rfl, rfl, rfl, rfl, trivial⟩ R1.out
theorem qcL27 {qv lv mv ov : Value} (hC : Calls Try.prog 18 #[lv, ov] w fun e w' => e = .returned (.bool true) ∧ w'.heap = w.heap) {A : Array Value} (hA : Slots 149 A [(6, qv), (14, lv), (15, mv), (16, ov)]) {Q : Act → World → Prop}
  (hQ : ∀ A' w', Slots 149 A' [(6, qv), (14, lv), (15, mv), (16, ov), (119, .bool false)] → w'.heap = w.heap → Q ⟨A', []⟩ w') : qcr27.wp Try.prog (nrm Q) ⟨A, []⟩ w := by
 obtain ⟨hsz, h6, h14, h15, h16, _⟩ := hA
 obtain ⟨s, rfl⟩ := qcT_of hsz
 change s 6 = _ at h6
 change s 14 = _ at h14
 change s 15 = _ at h15
 change s 16 = _ at h16
 have HQ : Aside (∀ A' w', Slots 149 A' [(6, qv), (14, lv), (15, mv), (16, ov), (119, .bool false)] → w'.heap = w.heap → Q ⟨A', []⟩ w') := hQ
 have H : Aside (Calls Try.prog 18 #[lv, ov] w fun e w' => e = .returned (.bool true) ∧ w'.heap = w.heap) := hC
 clear hC
 clear hsz hQ
 simp only [qcr27, qcBody, Code.piece, Try.f4, Option.getD_some, qcT, h6, h14, h15, h16]
 clear h6 h14 h15 h16
 go_wp2_with (fail)
 go_at_call 18
 refine H.out.mono ?_
 rintro e w1 ⟨rfl, hR⟩
 have R1 : Aside (w1.heap = w.heap) := hR
 clear hR
 go_wp2
 exact HQ.out _ _ ⟨rfl, rfl, rfl, rfl, rfl, rfl, trivial⟩ R1.out
end
noncomputable section
variable {w w' : World}
def CallAt (w : World) (cb : Nat) : RR → Prop
 | .inl c => w.heap[cb]? = some (.cells (callC c.kd c false false 0) 48 (0, 0))
 | .inr a => ∃ (k : Int) (c : RC), w.heap[cb]? = some (.cells (callC k c true a.1 a.2) 48 (0, 0))
theorem qcL4 {b qv sv iv : Value} {rq cb bb bc m0 n0 : Nat} {q qf : RQ} {rr : RR} {an : Bool × Int} (hR : Runs q rr n0 qf an) (hQ0 : RefQ w rq bb bc q) (hc : CallAt w cb rr) (hne : cb ≠ rq) (hnb : cb ≠ bb) (hm : m0 + n0 < 1000000000) {A : Array Value}
  (hA : Slots 149 A [(1, b), (6, qv), (7, .pointer (some ⟨rq, 0, none⟩)), (8, sv), (10, iv), (11, .pointer (some ⟨cb, 0, none⟩)), (12, .int .i64 m0)]) {Q : Act → World → Prop}
  (hQ : ∀ A' w', Slots 149 A' [(1, b), (6, qv), (7, .pointer (some ⟨rq, 0, none⟩)), (8, sv), (10, iv), (11, .pointer (some ⟨cb, 0, none⟩)), (12, .int .i64 (m0 + n0 : Nat))] → RefQ w' rq bb bc qf → CallAt w' cb (.inr an) → w'.heap.size = w.heap.size → (∀ r, r ≠ rq → r ≠ cb → r ≠ bb → w'.heap[r]? = w.heap[r]?) → Q ⟨A', []⟩ w') :
  qcb4.wp Try.prog (nrm Q) ⟨A, []⟩ w := by
 obtain ⟨hsz, h1, h6, h7, h8, h10, h11, h12, _⟩ := hA
 obtain ⟨s, rfl⟩ := qcT_of hsz
 change s 1 = _ at h1
 change s 6 = _ at h6
 change s 7 = _ at h7
 change s 8 = _ at h8
 change s 10 = _ at h10
 change s 11 = _ at h11
 change s 12 = _ at h12
 have HQ : Aside (∀ A' w', Slots 149 A' [(1, b), (6, qv), (7, .pointer (some ⟨rq, 0, none⟩)), (8, sv), (10, iv), (11, .pointer (some ⟨cb, 0, none⟩)), (12, .int .i64 (m0 + n0 : Nat))] → RefQ w' rq bb bc qf → CallAt w' cb (.inr an) → w'.heap.size = w.heap.size → (∀ r, r ≠ rq → r ≠ cb → r ≠ bb → w'.heap[r]? = w.heap[r]?) → Q ⟨A', []⟩ w') := hQ
 have H0 : Aside (Runs q rr n0 qf an ∧ RefQ w rq bb bc q ∧ CallAt w cb rr) := ⟨hR, hQ0, hc⟩
 clear hsz hQ hR hQ0 hc
 simp only [qcb4, qcBody, Code.piece, Try.f4, Option.getD_some, qcT, h1, h6, h7, h8, h10, h11, h12]
 clear h1 h6 h7 h8 h10 h11 h12
 go_wp2
 go_loopg [12] n0 (fun g x wr => g ≤ n0 ∧ x = .int .i64 (m0 + (n0 - g) : Nat) ∧ (∃ q rr, Runs q rr g qf an ∧ RefQ wr rq bb bc q ∧ CallAt wr cb rr) ∧ wr.heap.size = w.heap.size ∧ ∀ r, r ≠ rq → r ≠ cb → r ≠ bb → wr.heap[r]? = w.heap[r]?)
 case atStart => exact ⟨Nat.le_refl _, by simp, ⟨_, _, H0.out.1, H0.out.2.1, H0.out.2.2⟩, rfl, fun _ _ _ _ => rfl⟩
 case round =>
  obtain ⟨hg, rfl, ⟨q1, r1, hrun, hq1, hc1⟩, hsz, hold⟩ := hrel
  cases hrun with
  | done =>
   obtain ⟨k, c, hcc⟩ := hc1
   have c6 : wr.cell? ⟨cb, 6, none⟩ = some (.bool true) := by simp [World.cell?, hcc, callC]
   go_wp2
   refine HQ.out _ _ ⟨rfl, rfl, rfl, rfl, rfl, rfl, rfl, ?_, trivial⟩ hq1 ⟨k, c, hcc⟩ hsz hold
   simp
  | @step _ _ c n _ hv hp hB hrun =>
   have c6 : wr.cell? ⟨cb, 6, none⟩ = some (.bool false) := by
    have : wr.heap[cb]? = some (.cells (callC c.kd c false false 0) 48 (0, 0)) := hc1
    simp [World.cell?, this, callC]
   have HS : Aside (∀ w1, w1.heap = wr.heap → Calls Try.prog 20 #[.pointer (some ⟨rq, 0, none⟩), .pointer (some ⟨cb, 0, none⟩)] w1 fun e w' => e = .returned (.tuple #[]) ∧ StepOut w1 rq cb bb bc w' (q1.step c)) := fun w1 e1 =>
    step_ref (hq1.heap e1) (by rw [e1]; exact hc1) hne hnb hv hp hB
   have HB : Aside (Runs (q1.step c).1 (q1.step c).2 n qf an ∧ wr.heap.size = w.heap.size ∧ ∀ r, r ≠ rq → r ≠ cb → r ≠ bb → wr.heap[r]? = w.heap[r]?) := ⟨hrun, hsz, hold⟩
   have hwr : IntKind.i64.wrap ((m0 + (n0 - (n + 1)) : Nat) + 1) = ((m0 + (n0 - n) : Nat) : Int) := by
    rw [IntWalk.i64_in _ (by omega)]
    omega
   clear hrun hold hq1 hc1 hv hp
   go_wp2_with (fail)
   go_at_call 20
   refine (HS.out _ rfl).mono ?_
   rintro e u ⟨rfl, hu⟩
   obtain ⟨u1, u2, u3, u4⟩ := hu
   have U : Aside (RefQ u rq bb bc (q1.step c).1 ∧ CallAt u cb (q1.step c).2 ∧ u.heap.size = wr.heap.size ∧ ∀ r, r ≠ rq → r ≠ cb → r ≠ bb → u.heap[r]? = wr.heap[r]?) := ⟨u1, by
    cases h : (q1.step c).2 with
    | inl c => rw [h] at u2; exact u2
    | inr a => rw [h] at u2; exact u2, u3, u4⟩
   clear u1 u2 u3 u4
   go_wp2
   go_roundg n
   case measure => omega
   case rel => exact ⟨by omega, congrArg (Value.int IntKind.i64) (by omega), ⟨_, _, HB.out.1, U.out.1, U.out.2.1⟩, U.out.2.2.1.trans HB.out.2.1, fun r a b c => (U.out.2.2.2 r a b c).trans (HB.out.2.2 r a b c)⟩
end
noncomputable section
variable {w w' : World}
def Mine2 (w : World) (a : Option Addr) (n c : Nat) : Prop := ∃ xs, w.ownsRow 0 2 1 (.slice a n c) n xs
def Off (a : Option Addr) (r : Nat) : Prop := ∀ b, a = some b → r ≠ b.block
theorem mine_of {base n c : Nat} {a : Option Addr} {xs : List Value} (h : w.ownsRow base 2 1 (.slice a n c) n xs) : Mine2 w a n c := ⟨xs, ownsRow_mono_base (Nat.zero_le _) h⟩
theorem mine_open {n c : Nat} {a : Option Addr} (h : Mine2 w a n c) (hn : 0 < n) : ∃ b o cur, a = some ⟨b, o, none⟩ ∧ o = 0 ∧ w.heap[b]? = some (.cells cur 2 (0, 0)) ∧ n ≤ cur.size := by
 obtain ⟨xs, h⟩ := h
 rcases h.2 with ⟨_, rfl⟩ | ⟨g, cap, cur, e, _, h4, h5, h6, h7, _⟩
 ·omega
 ·simp only [Value.slice.injEq] at e
  obtain ⟨rfl, _, rfl⟩ := e
  exact ⟨g, 0, cur, rfl, rfl, h4, by omega⟩
theorem mine_set {n c k : Nat} {b : Nat} {v : Value} (h : Mine2 w (some ⟨b, 0, none⟩) n c) : Mine2 (w.setCell ⟨b, k, none⟩ v) (some ⟨b, 0, none⟩) n c := by
 obtain ⟨xs, h⟩ := h
 rcases h.2 with ⟨e, _⟩ | ⟨g, cap, cur, e, h3, h4, h5, h6, h7, _⟩
 ·cases e
 ·simp only [Value.slice.injEq, Option.some.injEq, Addr.mk.injEq] at e
  obtain ⟨⟨rfl, _⟩, _, rfl⟩ := e
  refine ⟨(cur.setIfInBounds k v).toList.take (n * 1), ?_, .inr ⟨b, c, _, rfl, h3, heap_setCell_eq h4 _, h5, h6, by simpa using h7, rfl⟩⟩
  simp
  omega
theorem qcL12 {v1 : Value} {v6 : Value} {v7 : Value} {v8 : Value} {xa : Option Addr} {n xc : Nat} (hn : n < 100000000) (hM : Mine2 w xa n xc) {A : Array Value} (hA : Slots 149 A [(1, v1), (5, .slice xa n xc), (6, v6), (7, v7), (8, v8)]) {Q : Act → World → Prop}
  (hQ : ∀ A' w', Slots 149 A' [(1, v1), (5, .slice xa n xc), (6, v6), (7, v7), (8, v8)] → w'.heap.size = w.heap.size → (∀ r, Off xa r → w'.heap[r]? = w.heap[r]?) → Mine2 w' xa n xc → Q ⟨A', []⟩ w') : qcs12.wp Try.prog (nrm Q) ⟨A, []⟩ w := by
 obtain ⟨hsz, h1, h5, h6, h7, h8, _⟩ := hA
 obtain ⟨s, rfl⟩ := qcT_of hsz
 change s 1 = _ at h1
 change s 5 = _ at h5
 change s 6 = _ at h6
 change s 7 = _ at h7
 change s 8 = _ at h8
 have HQ : Aside (∀ A' w', Slots 149 A' [(1, v1), (5, .slice xa n xc), (6, v6), (7, v7), (8, v8)] → w'.heap.size = w.heap.size → (∀ r, Off xa r → w'.heap[r]? = w.heap[r]?) → Mine2 w' xa n xc → Q ⟨A', []⟩ w') := hQ
 have HM : Aside (Mine2 w xa n xc) := hM
 clear hsz hQ hM
 simp only [qcs12, qcBody, Code.piece, Try.f4, Option.getD_some, qcT, h1, h5, h6, h7, h8]
 clear h1 h5 h6 h7 h8
 go_wp2
 go_loopg [9] n (fun g x wr => ∃ k : Nat, k ≤ n ∧ x = .int .i64 k ∧ g = n - k ∧ wr.heap.size = w.heap.size ∧ (∀ r, Off xa r → wr.heap[r]? = w.heap[r]?) ∧ Mine2 wr xa n xc)
 case atStart => exact ⟨0, Nat.zero_le _, rfl, rfl, rfl, fun _ _ => rfl, HM.out⟩
 case round =>
  obtain ⟨k, hk, rfl, rfl, hsz, hold, hmine⟩ := hrel
  rcases Nat.lt_or_ge k n with hlt | hge
  ·obtain ⟨b, o, cur, rfl, ho, hcur, hle⟩ := mine_open hmine (by omega)
   obtain ⟨x1, c1⟩ : ∃ x, wr.cell? ⟨b, o + k, none⟩ = some x := ⟨cur[o + k]'(by omega), by simp [World.cell?, hcur]⟩
   have z1 : wr.frozen? ⟨b, o + k, none⟩ = false := by simp [World.frozen?, hcur]
   have hwr : IntKind.i64.wrap ((k : Int) + 1) = (k : Int) + 1 := IntWalk.i64_in _ (by omega)
   have R : Aside (wr.heap.size = w.heap.size ∧ (∀ r, Off (some ⟨b, o, none⟩) r → wr.heap[r]? = w.heap[r]?) ∧ Mine2 wr (some ⟨b, o, none⟩) n xc ∧ o = 0) := ⟨hsz, hold, hmine, ho⟩
   clear hsz hold hcur hmine ho
   go_wp2
   go_roundg (n - (k + 1))
   case measure => omega
   case rel =>
    obtain ⟨hsz, hold, hmine, ho⟩ := R.out
    subst ho
    refine ⟨k + 1, hlt, rfl, rfl, by simp; exact hsz, fun r hr => (heap_setCell_ne _ _ _ (show r ≠ b from hr _ rfl)).trans (hold r hr), mine_set hmine⟩
  ·have : k = n := by omega
   subst this
   go_wp2
   exact HQ.out _ _ ⟨rfl, rfl, rfl, rfl, rfl, rfl, trivial⟩ hsz hold hmine
theorem qcL40 {v6 : Value} {v15 : Value} {v16 : Value} {xa : Option Addr} {n xc : Nat} (hn : n < 100000000) (hM : Mine2 w xa n xc) {A : Array Value} (hA : Slots 149 A [(6, v6), (14, .slice xa n xc), (15, v15), (16, v16)]) {Q : Act → World → Prop}
  (hQ : ∀ A' w', Slots 149 A' [(6, v6), (14, .slice xa n xc), (15, v15), (16, v16)] → w'.heap.size = w.heap.size → (∀ r, Off xa r → w'.heap[r]? = w.heap[r]?) → Mine2 w' xa n xc → Q ⟨A', []⟩ w') : qcs40.wp Try.prog (nrm Q) ⟨A, []⟩ w := by
 obtain ⟨hsz, h6, h14, h15, h16, _⟩ := hA
 obtain ⟨s, rfl⟩ := qcT_of hsz
 change s 6 = _ at h6
 change s 14 = _ at h14
 change s 15 = _ at h15
 change s 16 = _ at h16
 have HQ : Aside (∀ A' w', Slots 149 A' [(6, v6), (14, .slice xa n xc), (15, v15), (16, v16)] → w'.heap.size = w.heap.size → (∀ r, Off xa r → w'.heap[r]? = w.heap[r]?) → Mine2 w' xa n xc → Q ⟨A', []⟩ w') := hQ
 have HM : Aside (Mine2 w xa n xc) := hM
 clear hsz hQ hM
 simp only [qcs40, qcBody, Code.piece, Try.f4, Option.getD_some, qcT, h6, h14, h15, h16]
 clear h6 h14 h15 h16
 go_wp2
 go_loopg [17] n (fun g x wr => ∃ k : Nat, k ≤ n ∧ x = .int .i64 k ∧ g = n - k ∧ wr.heap.size = w.heap.size ∧ (∀ r, Off xa r → wr.heap[r]? = w.heap[r]?) ∧ Mine2 wr xa n xc)
 case atStart => exact ⟨0, Nat.zero_le _, rfl, rfl, rfl, fun _ _ => rfl, HM.out⟩
 case round =>
  obtain ⟨k, hk, rfl, rfl, hsz, hold, hmine⟩ := hrel
  rcases Nat.lt_or_ge k n with hlt | hge
  ·obtain ⟨b, o, cur, rfl, ho, hcur, hle⟩ := mine_open hmine (by omega)
   obtain ⟨x1, c1⟩ : ∃ x, wr.cell? ⟨b, o + k, none⟩ = some x := ⟨cur[o + k]'(by omega), by simp [World.cell?, hcur]⟩
   have z1 : wr.frozen? ⟨b, o + k, none⟩ = false := by simp [World.frozen?, hcur]
   have hwr : IntKind.i64.wrap ((k : Int) + 1) = (k : Int) + 1 := IntWalk.i64_in _ (by omega)
   have R : Aside (wr.heap.size = w.heap.size ∧ (∀ r, Off (some ⟨b, o, none⟩) r → wr.heap[r]? = w.heap[r]?) ∧ Mine2 wr (some ⟨b, o, none⟩) n xc ∧ o = 0) := ⟨hsz, hold, hmine, ho⟩
   clear hsz hold hcur hmine ho
   go_wp2
   go_roundg (n - (k + 1))
   case measure => omega
   case rel =>
    obtain ⟨hsz, hold, hmine, ho⟩ := R.out
    subst ho
    refine ⟨k + 1, hlt, rfl, rfl, by simp; exact hsz, fun r hr => (heap_setCell_ne _ _ _ (show r ≠ b from hr _ rfl)).trans (hold r hr), mine_set hmine⟩
  ·have : k = n := by omega
   subst this
   go_wp2
   exact HQ.out _ _ ⟨rfl, rfl, rfl, rfl, rfl, trivial⟩ hsz hold hmine
theorem qcL3 {vs : List Int} {va : Option Addr} {vc : Nat} {b : Value} (hl : vs.length < 10000000) (hV : RRow w va (vs.map fun v => .int .i64 v)) {A : Array Value} (hA : Slots 149 A [(0, .slice va vs.length vc), (1, b)]) {Q : Act → World → Prop}
  (hQ : ∀ A' ia ic w', Slots 149 A' [(0, .slice va vs.length vc), (1, b), (5, .slice ia vs.length ic)] → w'.ownsRow w.heap.size 2 1 (.slice ia vs.length ic) vs.length (vs.map fun v => .int .i64 v) → w.heap.size ≤ w'.heap.size → (∀ r, r < w.heap.size → w'.heap[r]? = w.heap[r]?) → Q ⟨A', []⟩ w') :
  qcr3.wp Try.prog (nrm Q) ⟨A, []⟩ w := by
 obtain ⟨i0, z0, hi, hz0, hz1, hz2, hz3⟩ := infoA2
 obtain ⟨hsz, h0, h1, _⟩ := hA
 obtain ⟨s, rfl⟩ := qcT_of hsz
 change s 0 = _ at h0
 change s 1 = _ at h1
 have HQ : Aside (∀ A' ia ic w', Slots 149 A' [(0, .slice va vs.length vc), (1, b), (5, .slice ia vs.length ic)] → w'.ownsRow w.heap.size 2 1 (.slice ia vs.length ic) vs.length (vs.map fun v => .int .i64 v) → w.heap.size ≤ w'.heap.size → (∀ r, r < w.heap.size → w'.heap[r]? = w.heap[r]?) → Q ⟨A', []⟩ w') := hQ
 clear hsz hQ
 have hrow : (w.alloc (.cells #[] 2)).ownsRow 0 2 1 (.slice (some ⟨w.heap.size, 0, none⟩) 0 0) 0 [] := ⟨rfl, .inr ⟨w.heap.size, 0, #[], rfl, Nat.zero_le _, heap_alloc_new _ _, Nat.le_refl _, Nat.zero_le _, rfl, rfl⟩⟩
 have hsz1 : (w.alloc (.cells #[] 2)).heap.size = w.heap.size + 1 := by simp
 have hold1 : ∀ r, r < w.heap.size → (w.alloc (.cells #[] 2)).heap[r]? = w.heap[r]? := fun r hr => heap_alloc_lt _ _ hr
 rcases Nat.eq_zero_or_pos vs.length with e | e
 ·have : vs = [] := List.length_eq_zero_iff.1 e
  subst this
  have hap : ∀ w : World, Sem.run Try.prog (pure (#[] : Array Value)) w = .ok #[] w := fun w => rfl
  have hap2 : ∀ w : World, Sem.run Try.prog (Sem.pure (#[] : Array Value)) w = .ok #[] w := fun w => rfl
  have F : Aside ((w.alloc (.cells #[] 2)).ownsRow w.heap.size 2 1 (.slice (some ⟨w.heap.size, 0, none⟩) 0 0) 0 [] ∧ (w.alloc (.cells #[] 2)).heap.size = w.heap.size + 1 ∧ ∀ r, r < w.heap.size → (w.alloc (.cells #[] 2)).heap[r]? = w.heap[r]?) := ⟨⟨rfl, .inr ⟨w.heap.size, 0, #[], rfl, Nat.le_refl _, heap_alloc_new _ _, Nat.le_refl _, Nat.zero_le _, rfl, rfl⟩⟩, hsz1, hold1⟩
  clear hrow hsz1 hold1 hV
  simp only [qcr3, qcBody, Code.piece, Try.f4, Option.getD_some, qcT, h0, h1, List.length_nil]
  clear h0 h1
  rcases va with _ | ad
  all_goals go_wp2
  all_goals try (simp only [hap, hap2, Result.andThen_ok]; go_wp2)
  all_goals (
   obtain ⟨f1, f2, f3⟩ := F.out
   exact HQ.out _ _ _ _ ⟨rfl, rfl, rfl, rfl, trivial⟩ f1 (by omega) f3)
 ·obtain ⟨vb, vo, hva, _⟩ := hV.c 0 (.int .i64 (vs[0]'e)) (by simp [e])
  subst hva
  have hcs : ∀ j u, (vs.map fun v => Value.int .i64 v)[j]? = some u → (w.alloc (.cells #[] 2)).cell? (Addr.add ⟨vb, vo, none⟩ j) = some u := fun j u hu => by
   obtain ⟨b', o', e1, e2⟩ := hV.c j u hu
   simp only [Option.some.injEq, Addr.mk.injEq] at e1
   obtain ⟨rfl, rfl, _⟩ := e1
   have e3 : Addr.add ⟨vb, vo, none⟩ j = ⟨vb, vo + j, none⟩ := by unfold Addr.add; split <;> simp_all
   rw [e3]
   obtain ⟨c, t, z, ho⟩ := cell_block e2
   have hlt := (Array.getElem?_eq_some_iff.1 ho).1
   have := hold1 _ hlt
   rw [← e2]
   unfold World.cell?
   simp only [this]
  have F0 : Aside ((w.alloc (.cells #[] 2)).heap.size = w.heap.size + 1 ∧ ∀ r, r < w.heap.size → (w.alloc (.cells #[] 2)).heap[r]? = w.heap[r]?) := ⟨hsz1, hold1⟩
  clear hV hold1 hsz1
  simp only [qcr3, qcBody, Code.piece, Try.f4, Option.getD_some, qcT, h0, h1]
  clear h0 h1
  go_wp2_with (first
   | (at_builtin; refine wpList_append_fresh rfl (.tmp 20) (.tmp 21) 22 rfl 2 i0 z0 1 8 Try.underlying22 hi hz0 hz1 hz2 hz3 (by decide) (.slice (some ⟨w.heap.size, 0, none⟩) 0 0) 0 [] rfl ?c0 ⟨vb, vo, none⟩ vs.length vc (vs.map fun v => Value.int .i64 v) rfl ?c5 ?c1 ?c2 ?c3 ?c4 ?_)
   | go_in)
  case c0 => exact hrow
  case c5 => simp
  case c1 => exact hcs
  case c2 => intro u hu; obtain ⟨i, _, rfl⟩ := List.mem_map.1 hu; rfl
  case c3 => unfold maxLen; omega
  case c4 => omega
  ·intro v' w1 hown hgrow hfr
   obtain ⟨n, hn⟩ : ∃ n, vs.length = n + 1 := ⟨vs.length - 1, by omega⟩
   first | rw [Nat.zero_add, List.nil_append] at hown | skip
   rw [hn] at hown
   obtain ⟨g, cap, rfl⟩ := own_slice hown
   obtain ⟨s1, k1⟩ := F0.out
   have hg : w.heap.size ≤ g := by
    rcases hfr with h | ⟨g', h, hg⟩
    ·simp only [Value.ownBlock, Option.some.injEq] at h
     omega
    ·simp only [Value.ownBlock, Option.some.injEq] at h
     omega
   have hsz := hgrow.size
   have F : Aside (w1.ownsRow w.heap.size 2 1 (.slice (some ⟨g, 0, none⟩) vs.length cap) vs.length (vs.map fun v => .int .i64 v) ∧ w.heap.size ≤ w1.heap.size ∧ ∀ r, r < w.heap.size → w1.heap[r]? = w.heap[r]?) := ⟨by
    rw [hn]
    refine ⟨hown.1, ?_⟩
    rcases hown.2 with ⟨h, _⟩ | ⟨g2, cap2, cur, e1, e2, e3⟩
    ·cases h
    ·simp only [Value.slice.injEq, Option.some.injEq, Addr.mk.injEq] at e1
     exact .inr ⟨g2, cap2, cur, by simp [e1], by omega, e3⟩, by omega, fun r hr => (hgrow.block r (by omega) (by simp [Value.ownBlock]; omega)).trans (k1 r hr)⟩
   clear hown hgrow hfr hsz hrow hcs
   rw [← hn]
   go_wp2
   obtain ⟨f1, f2, f3⟩ := F.out
   exact HQ.out _ _ _ _ ⟨rfl, rfl, rfl, rfl, trivial⟩ f1 f2 f3
theorem qcL33 {v6 v15 v16 : Value} {xa : Option Addr} {n xc : Nat} {xs : List Value} (hn : n < 100000000) (hown : w.ownsRow 0 2 1 (.slice xa n xc) n xs) {A : Array Value} (hA : Slots 149 A [(6, v6), (14, .slice xa n xc), (15, v15), (16, v16)]) {Q : Act → World → Prop}
  (hQ : ∀ A' la lc w', Slots 149 A' [(6, v6), (14, .slice la (n + 4) lc), (15, v15), (16, v16)] → w.heap.size ≤ w'.heap.size → (∀ r, r < w.heap.size → Off xa r → w'.heap[r]? = w.heap[r]?) → Q ⟨A', []⟩ w') :
  qcr33.wp Try.prog (nrm Q) ⟨A, []⟩ w := by
 obtain ⟨i0, z0, hi, hz0, hz1, hz2, hz3⟩ := infoA2
 obtain ⟨hsz, h6, h14, h15, h16, _⟩ := hA
 obtain ⟨s, rfl⟩ := qcT_of hsz
 change s 6 = _ at h6
 change s 14 = _ at h14
 change s 15 = _ at h15
 change s 16 = _ at h16
 have HQ : Aside (∀ A' la lc w', Slots 149 A' [(6, v6), (14, .slice la (n + 4) lc), (15, v15), (16, v16)] → w.heap.size ≤ w'.heap.size → (∀ r, r < w.heap.size → Off xa r → w'.heap[r]? = w.heap[r]?) → Q ⟨A', []⟩ w') := hQ
 clear hsz hQ
 have hW : (w.alloc (.cells #[.int .i64 1, .int .i64 2, .int .i64 3, .int .i64 4] 2)).heap[w.heap.size]? = some (.cells #[.int .i64 1, .int .i64 2, .int .i64 3, .int .i64 4] 2 (0, 0)) := heap_alloc_new _ _
 have hsz1 : (w.alloc (.cells #[.int .i64 1, .int .i64 2, .int .i64 3, .int .i64 4] 2)).heap.size = w.heap.size + 1 := by simp
 have hold1 : ∀ r, r < w.heap.size → (w.alloc (.cells #[.int .i64 1, .int .i64 2, .int .i64 3, .int .i64 4] 2)).heap[r]? = w.heap[r]? := fun r hr => heap_alloc_lt _ _ hr
 have hown1 := hown.alloc (.cells #[.int .i64 1, .int .i64 2, .int .i64 3, .int .i64 4] 2)
 have F0 : Aside ((w.alloc (.cells #[.int .i64 1, .int .i64 2, .int .i64 3, .int .i64 4] 2)).heap.size = w.heap.size + 1 ∧ ∀ r, r < w.heap.size → (w.alloc (.cells #[.int .i64 1, .int .i64 2, .int .i64 3, .int .i64 4] 2)).heap[r]? = w.heap[r]?) := ⟨hsz1, hold1⟩
 clear hown hsz1 hold1
 simp only [qcr33, qcBody, Code.piece, Try.f4, Option.getD_some, qcT, h6, h14, h15, h16]
 clear h6 h14 h15 h16
 go_wp2_with (first
  | (at_builtin; refine wpList_append_fresh rfl (.tmp 129) (.tmp 130) 22 rfl 2 i0 z0 1 8 Try.underlying22 hi hz0 hz1 hz2 hz3 (by decide) (.slice xa n xc) n xs rfl ?c0 ⟨w.heap.size, 0, none⟩ 4 4 [.int .i64 1, .int .i64 2, .int .i64 3, .int .i64 4] rfl rfl ?c1 ?c2 ?c3 ?c4 ?_)
  | go_in)
 case c0 => exact hown1
 case c1 =>
  intro j u hu
  have e3 : Addr.add ⟨w.heap.size, 0, none⟩ j = ⟨w.heap.size, j, none⟩ := by unfold Addr.add; split <;> simp_all
  rw [e3]
  simp only [World.cell?, hW]
  rw [← hu]
  simp
 case c2 => intro u hu; simp only [List.mem_cons, List.not_mem_nil, or_false] at hu; rcases hu with rfl | rfl | rfl | rfl <;> rfl
 case c3 => unfold maxLen; omega
 case c4 => omega
 ·intro v' w1 hown hgrow hfr
  obtain ⟨g, cap, rfl⟩ := own_slice (n := n + 3) hown
  obtain ⟨s1, k1⟩ := F0.out
  have hsz := hgrow.size
  have F : Aside (w.heap.size ≤ w1.heap.size ∧ ∀ r, r < w.heap.size → Off xa r → w1.heap[r]? = w.heap[r]?) := ⟨by omega, fun r hr ho => (hgrow.block r (by omega) (by
   cases xa with
   | none => simp [Value.ownBlock]
   | some a => simp only [Value.ownBlock, ne_eq, Option.some.injEq]; exact fun e => ho a rfl e)).trans (k1 r hr)⟩
  clear hown hgrow hfr hsz hown1 hW
  go_wp2
  exact HQ.out _ _ _ _ ⟨rfl, rfl, rfl, rfl, rfl, trivial⟩ F.out.1 F.out.2
end
noncomputable section
open Go.ChangeShapes Go.WideShapes Go.ChangeAt
theorem bulk_one {H : Type} (d : DataW H) : 1 ≤ Rows.uptoBulk d := by
 cases d with
 | lit l => cases l <;> simp [Rows.uptoBulk]
 | nil => simp [Rows.uptoBulk]
 | ptr d => simp [Rows.uptoBulk]
 | slice elems spare => simp [Rows.uptoBulk]
 | agg parts => simp [Rows.uptoBulk]
 | iface t d => simp [Rows.uptoBulk]
 | map entries => simp [Rows.uptoBulk]
 | held h => simp [Rows.uptoBulk]
theorem bulk_part {H : Type} {d : DataW H} {l : List (DataW H)} (h : d ∈ l) : Rows.uptoBulk d ≤ Rows.uptoBulkAll l := by
 induction l with
 | nil => cases h
 | cons x r ih =>
  simp only [Rows.uptoBulkAll]
  cases List.mem_cons.1 h with
  | inl e => subst e; omega
  | inr e => have := ih e; omega
theorem bulk_length {H : Type} (l : List (DataW H)) : l.length ≤ Rows.uptoBulkAll l := by
 induction l with
 | nil => simp [Rows.uptoBulkAll]
 | cons x r ih => have := bulk_one x; simp only [Rows.uptoBulkAll, List.length_cons]; omega
theorem bulk_slice {H : Type} (elems spare : List (DataW H)) : elems.length ≤ Rows.uptoBulk (.slice elems spare) ∧ ∀ d ∈ elems, Rows.uptoBulk d ≤ Rows.uptoBulk (.slice elems spare) := by
 have h1 := bulk_length elems
 simp only [Rows.uptoBulk]
 exact ⟨by omega, fun d hd => by have := bulk_part hd; omega⟩
section
variable {H : Type} {enc : TypeId × Value → H} {W : World}
theorem cell_in {a : Addr} {v : Value} (h : W.cell? a = some v) : ∃ c e z, W.heap[a.block]? = some (.cells c e z) ∧ c[a.off]? = some v := by
 unfold World.cell? at h
 split at h
 ·rename_i c e z ho
  split at h
  ·cases h
  ·exact ⟨c, e, z, ho, h⟩
 ·cases h
theorem frozen_in {b o : Nat} {c : Array Value} {e : TypeId} {z : Nat × Nat} (h : W.heap[b]? = some (.cells c e z)) (hf : W.frozen? ⟨b, o, none⟩ = false) : (decide (z.1 ≤ o) && decide (o < z.2)) = false := by
 simpa [World.frozen?, h] using hf
theorem ints_in {t e : TypeId} (ht : Try.prog.underlying t = some (.slice e)) (he : Try.prog.underlying e = some (.int .i64)) (hc : Try.prog.cellsOf e = 1) {v : Value} {d : DataW H} {p : List MemPlace} (hv : Value.okWide Try.prog W .any W.heap.size t v)
  (h : DataW.Trod enc Try.prog W 0 (fun _ => true) true t v d p) (hz : W.noneFrozen p) (hl : ∀ x ∈ p, x.block < W.heap.size) :
  ∃ (a : Option Addr) (vs : List Int) (c b o : Nat), v = .slice a vs.length c ∧ vs.length ≤ Rows.uptoBulk d ∧ (0 < vs.length → a = some ⟨b, o, none⟩ ∧ b < W.heap.size ∧ ∃ c e z, W.heap[b]? = some (.cells c e z) ∧ ∀ (k : Nat) (u : Int), vs[k]? = some u →
   c[o + k]? = some (.int .i64 u) ∧ (decide (z.1 ≤ o + k) && decide (o + k < z.2)) = false ∧ W.cell? ⟨b, o + k, none⟩ = some (.int .i64 u) ∧ W.frozen? ⟨b, o + k, none⟩ = false) := by
 obtain ⟨fuel, hf⟩ := h
 obtain ⟨a0, l0, c0, rfl⟩ := okWide_slice ht hv
 rcases open_ints ht he hc hf with ⟨h1, h2⟩ | ⟨a, len, cap, zs, h1, hb, hlc, _, hzl, h2, h3, _⟩
 ·simp [Value.cells] at h1
  obtain ⟨rfl, rfl, rfl⟩ := h1
  exact ⟨none, [], 0, 0, 0, rfl, Nat.zero_le _, fun h => by simp at h⟩
 ·simp only [if_true] at hzl
  simp [Value.cells] at h1
  obtain ⟨rfl, rfl, rfl⟩ := h1
  simp only [Prod.mk.injEq] at h2
  obtain ⟨rfl, rfl⟩ := h2
  have el : (zs.take l0).length = l0 := by simp; omega
  refine ⟨some a, zs.take l0, c0, a.block, a.off, by rw [el], ?_, fun hp => ?_⟩
  ·have := (bulk_slice (H := H) (lits .i64 (zs.take l0)) (lits .i64 (zs.drop l0))).1
   simpa [lits] using this
  ·rw [el] at hp
   obtain ⟨b, o, spot⟩ := a
   have hs : spot = none := by
    have := World.cell?_spot (h3 0 (by omega))
    simpa [Addr.add] using this
   subst hs
   have hc0 := h3 0 (by omega)
   rw [add_plain] at hc0
   obtain ⟨c, e', z, ho, _⟩ := cell_in hc0
   have hfr : ∀ k, k < zs.length → W.frozen? ⟨b, o + k, none⟩ = false := fun k hk => hz b (o + k) (by simp only [MemPlace.row, List.mem_map, List.mem_range]; exact ⟨k, hk, rfl⟩)
   refine ⟨rfl, (Array.getElem?_eq_some_iff.1 ho).1, c, e', z, ho, fun k u hk => ?_⟩
   have hkl := (List.getElem?_eq_some_iff.1 hk).1
   rw [el] at hkl
   have hu : zs.getD k 0 = u := by
    rw [List.getElem?_take_of_lt hkl] at hk
    simp [List.getD, hk]
   have hck := h3 k (by omega)
   rw [add_plain, hu] at hck
   obtain ⟨c', e2, z', ho', hcc⟩ := cell_in hck
   rw [ho] at ho'
   cases ho'
   exact ⟨hcc, frozen_in ho (hfr k (by omega)), hck, hfr k (by omega)⟩
theorem cells44 : Try.prog.cellsOf 44 = 4 := by kernel_rfl
theorem cells32 : Try.prog.cellsOf 32 = 1 := by kernel_rfl
theorem cells2 : Try.prog.cellsOf 2 = 1 := by kernel_rfl
theorem cells3 : Try.prog.cellsOf 3 = 1 := by kernel_rfl
structure OpLies (W : World) (b o : Nat) (x : Op4) : Prop where
 f0 : W.cell? ⟨b, o, none⟩ = some (.int .i64 x.kd)
 f1 : W.cell? ⟨b, o + 1, none⟩ = some (.int .i64 x.a)
 f2 : W.cell? ⟨b, o + 2, none⟩ = some (.int .i64 x.b)
 f3 : W.cell? ⟨b, o + 3, none⟩ = some (.int .i64 x.c)
 g0 : W.frozen? ⟨b, o, none⟩ = false
 g1 : W.frozen? ⟨b, o + 1, none⟩ = false
 g2 : W.frozen? ⟨b, o + 2, none⟩ = false
 g3 : W.frozen? ⟨b, o + 3, none⟩ = false
instance : Inhabited Op4 := ⟨⟨0, 0, 0, 0⟩⟩
theorem ops_in {v : Value} {fuel : Nat} {d : DataW H} {p : List MemPlace} (h : DataW.trod enc Try.prog W 0 (fun _ => true) true fuel 32 [v] = some (d, p)) (hz : W.noneFrozen p) :
  ∃ (a : Option Addr) (l c b o : Nat) (X : Nat → Op4), v = .slice a l c ∧ l ≤ c ∧ l ≤ Rows.uptoBulk d ∧ ∀ k, k < l → a = some ⟨b, o, none⟩ ∧ OpLies W b (o + k * 4) (X k) := by
 rcases Deep.open_slice Try.underlying32 h with ⟨h1, h2⟩ | ⟨a, len, cap, m, n, D, Pl, h1, hb, hlc, _, hm, h2, hx⟩
 ·cases h1
  exact ⟨none, 0, 0, 0, 0, fun _ => default, rfl, Nat.le_refl _, Nat.zero_le _, fun k hk => by omega⟩
 ·simp only [if_true] at hm
  subst hm
  cases h1
  simp only [Prod.mk.injEq] at h2
  obtain ⟨rfl, rfl⟩ := h2
  rw [cells44] at hx hz
  have hsp : 0 < len → a.spot = none := fun hp => by
   obtain ⟨cs', e1, _⟩ := hx 0 (by omega)
   obtain ⟨_, _, hcell⟩ := World.cells?_some e1
   have h0 := hcell 0 (by omega)
   rw [List.getElem?_eq_getElem (by omega)] at h0
   have := World.cell?_spot h0
   simpa [Addr.add] using this
  have each : ∀ k, k < len → ∃ x : Op4, ∃ b o, a = ⟨b, o, none⟩ ∧ OpLies W b (o + k * 4) x := fun k hk => by
   obtain ⟨cs', e1, e2⟩ := hx k (by omega)
   obtain ⟨_, hlen, hcell⟩ := World.cells?_some e1
   obtain ⟨xs, n', hk', hxy, _, hxl, hf⟩ := DataW.trod_struct Try.underlying44 e2
   match xs, hxl, cs', hlen with
   | [y0, y1, y2, y3], _, [v0, v1, v2, v3], _ =>
    have q0 := hf 0 _ rfl
    have q1 := hf 1 _ rfl
    have q2 := hf 2 _ rfl
    have q3 := hf 3 _ rfl
    simp [cells2, cells3] at q0 q1 q2 q3
    obtain ⟨n0, r0, _, _⟩ := DataW.trod_int Try.underlying3 q0
    obtain ⟨n1, r1, _, _⟩ := DataW.trod_int Try.underlying2 q1
    obtain ⟨n2, r2, _, _⟩ := DataW.trod_int Try.underlying2 q2
    obtain ⟨n3, r3, _, _⟩ := DataW.trod_int Try.underlying2 q3
    cases r0
    cases r1
    cases r2
    cases r3
    obtain ⟨b, o, spot⟩ := a
    have c0 := hcell 0 (by omega)
    have c1 := hcell 1 (by omega)
    have c2 := hcell 2 (by omega)
    have c3 := hcell 3 (by omega)
    have hs : spot = none := hsp (by omega)
    subst hs
    rw [add_plain, add_plain] at c0 c1 c2 c3
    have hfr : ∀ j, j < m * 4 → W.frozen? ⟨b, o + j, none⟩ = false := fun j hj => hz b (o + j) (List.mem_append_left _ (by simp only [MemPlace.row, List.mem_map, List.mem_range]; exact ⟨j, hj, rfl⟩))
    exact ⟨⟨n0, n1, n2, n3⟩, b, o, rfl, c0, c1, c2, c3, hfr _ (by omega), by rw [Nat.add_assoc]; exact hfr _ (by omega), by rw [Nat.add_assoc]; exact hfr _ (by omega), by rw [Nat.add_assoc]; exact hfr _ (by omega)⟩
  obtain ⟨X, hX⟩ := Deep.choose_lt each
  refine ⟨some a, len, m, a.block, a.off, X, rfl, hlc, ?_, fun k hk => ?_⟩
  ·have := (bulk_slice (H := H) ((List.range len).map D) ((List.range (m - len)).map fun j => D (len + j))).1
   simpa using this
  ·obtain ⟨b, o, rfl, hh⟩ := hX k hk
   exact ⟨rfl, hh⟩
theorem threads_in {v : Value} {d : DataW H} {p : List MemPlace} (hv : Value.okWide Try.prog W .any W.heap.size 23 v) (h : DataW.Trod enc Try.prog W 0 (fun _ => true) true 23 v d p) (hz : W.noneFrozen p) :
  ∃ (a : Option Addr) (tl tc b o : Nat) (oa : Nat → Option Addr) (ol oc : Nat → Nat) (ops : Nat → List Op4), v = .slice a tl tc ∧ tl ≤ Rows.uptoBulk d ∧ (∀ j, j < tl → ol j ≤ Rows.uptoBulk d) ∧
   ∀ (S : List Int) (sa : Option Addr), S.length < 10000000 → (0 < S.length → ∃ sb so c e z, sa = some ⟨sb, so, none⟩ ∧ W.heap[sb]? = some (.cells c e z) ∧ ∀ (k : Nat) (u : Value), (S.map fun i : Int => Value.int .i64 i)[k]? = some u → c[so + k]? = some u ∧ (decide (z.1 ≤ so + k) && decide (so + k < z.2)) = false) →
    OpsIn W (fun _ => False) (min tl 64) b o tl a oa ol oc ops S sa := by
 obtain ⟨fuel, hf⟩ := h
 obtain ⟨a0, l0, c0, rfl⟩ := okWide_slice Try.underlying23 hv
 rcases Deep.open_slice1 Try.underlying23 cells32 hf with ⟨h1, h2⟩ | ⟨a, len, cap, m, n, V, D, Pl, h1, hb, hlc, _, hm, h2, hx⟩
 ·simp [Value.cells] at h1
  obtain ⟨rfl, rfl, rfl⟩ := h1
  refine ⟨none, 0, 0, 0, 0, fun _ => none, fun _ => 0, fun _ => 0, fun _ => [], rfl, Nat.zero_le _, fun j hj => by omega, fun S sa hl hS => ⟨rfl, fun h => by simp at h, fun h => by simp at h, fun j hj => by simp at hj, fun j hj => by simp at hj, fun j hj => by simp at hj, hl, fun hp => ?_⟩⟩
  obtain ⟨sb, so, c, e, z, e1, e2, e3⟩ := hS hp
  exact ⟨sb, so, c, e, z, e1, fun h => h, e2, e3⟩
 ·simp only [if_true] at hm
  subst hm
  simp [Value.cells] at h1
  obtain ⟨rfl, rfl, rfl⟩ := h1
  simp only [Prod.mk.injEq] at h2
  obtain ⟨rfl, rfl⟩ := h2
  have each : ∀ j, j < l0 → ∃ q : Option Addr × Nat × Nat × Nat × Nat × (Nat → Op4), V j = .slice q.1 q.2.1 q.2.2.1 ∧ q.2.1 ≤ q.2.2.1 ∧ q.2.1 ≤ Rows.uptoBulk (D j) ∧ ∀ k, k < q.2.1 → q.1 = some ⟨q.2.2.2.1, q.2.2.2.2.1, none⟩ ∧ OpLies W q.2.2.2.1 (q.2.2.2.2.1 + k * 4) (q.2.2.2.2.2 k) := fun j hj => by
   obtain ⟨x1, x2, x3, x4, x5, x6, e1, e2, e3, e4⟩ := ops_in (hx j (by omega)).2 (fun b o hm => hz b o (List.mem_append_right _ (List.mem_flatMap.2 ⟨j, List.mem_range.2 (by omega), hm⟩)))
   exact ⟨⟨x1, x2, x3, x4, x5, x6⟩, e1, e2, e3, e4⟩
  obtain ⟨q, hq⟩ := Deep.choose_lt each
  have hbs := bulk_slice (H := H) ((List.range l0).map D) ((List.range (c0 - l0)).map fun j => D (l0 + j))
  refine ⟨some a, l0, c0, a.block, a.off, fun j => (q j).1, fun j => (q j).2.1, fun j => (q j).2.2.1, fun j => (List.range (min (q j).2.1 65536)).map (q j).2.2.2.2.2, rfl, by simpa using hbs.1, fun j hj => Nat.le_trans (hq j hj).2.2.1 (hbs.2 _ (List.mem_map.2 ⟨j, List.mem_range.2 hj, rfl⟩)), fun S sa hl hS => ?_⟩
  have hsp : 0 < l0 → a = ⟨a.block, a.off, none⟩ := fun hp => by
   obtain ⟨b, o, spot⟩ := a
   have hs : spot = none := by
    have := World.cell?_spot (hx 0 (by omega)).1
    simpa [Addr.add] using this
   subst hs
   rfl
  have hcell : ∀ j, j < l0 → W.cell? ⟨a.block, a.off + j, none⟩ = some (.slice (q j).1 (q j).2.1 (q j).2.2.1) := fun j hj => by
   have := (hx j (by omega)).1
   rw [hsp (by omega), add_plain, (hq j hj).1] at this
   exact this
  refine ⟨rfl, fun hp => by rw [← hsp (by omega)], fun hp => ?_, fun j hj => ⟨hcell j (by omega), ?_, (hq j (by omega)).2.1⟩, fun j hj => by simp, fun j hj k x hk => ?_, hl, fun hp => ?_⟩
  ·obtain ⟨c, e, z, ho, _⟩ := cell_in (hcell 0 (by omega))
   exact (Array.getElem?_eq_some_iff.1 ho).1
  ·exact hz a.block (a.off + j) (List.mem_append_left _ (by simp only [MemPlace.row, List.mem_map, List.mem_range]; exact ⟨j, by omega, rfl⟩))
  ·have hkl := (List.getElem?_eq_some_iff.1 hk).1
   simp only [List.length_map, List.length_range] at hkl
   have hx' : (q j).2.2.2.2.2 k = x := by
    rw [List.getElem?_map, List.getElem?_range hkl] at hk
    simpa using hk
   obtain ⟨e1, e2⟩ := (hq j (by omega)).2.2.2 k (by omega)
   rw [hx'] at e2
   exact ⟨_, _, e1, fun h => h, e2.f0, e2.f1, e2.f2, e2.f3, e2.g0, e2.g1, e2.g2, e2.g3⟩
  ·obtain ⟨sb, so, c, e, z, e1, e2, e3⟩ := hS hp
   exact ⟨sb, so, c, e, z, e1, fun h => h, e2, e3⟩
end
end
end Go.Proofs.Ytcejbandeikdjaa
