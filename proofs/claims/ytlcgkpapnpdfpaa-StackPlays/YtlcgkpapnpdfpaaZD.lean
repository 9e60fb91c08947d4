/-
  StackPlays (law 06), seat Ytlcgkpapnpdfpaa: the whole trace of any threads by any schedule, with tags and without
  Part 4 of 6.
-/
import Derived.Test.YtlcgkpapnpdfpaaZC
import Derived.Laws.LoneSync
import Derived.Laws.MakeOwn
import Derived.Deep.RegionLaw
import Derived.Deep.RegionLawGrows
import Derived.Deep.DeepAppendRoom
import Derived.ArgAppend
import Derived.Deep.LoopGhost
import Derived.StillTailTactics
set_option linter.unusedSimpArgs false
set_option linter.unusedVariables false
set_option maxRecDepth 100000
set_option maxHeartbeats 8000000
namespace Go.Proofs.Ytlcgkpapnpdfpaa
open Go Go.Conc Go.RowKit Go.Proofs
noncomputable section
variable {cs : List Frame} {main : Bool} {Stop : Goroutine → World → Prop}
variable {F : Fz} {w : World}
def kdoBody : Code := Try.f64.body.getD .skip
def kdos0 := pC [] kdoBody
def kdor0 := pC [zt] kdoBody
def kdos1 := pC [zf] kdoBody
def kdos2 := pC [zf,zt] kdoBody
def kdor1 := pC [zf,zt,zt] kdoBody
def kdob0 := pC [zf,zt,zf] kdoBody
def kdos3 := pC [zf,zt,zf,zt] kdoBody
def kdor2 := pC [zf,zt,zf,zt,zt] kdoBody
def kdoc15 := pC [zf,zt,zf,zt,zf] kdoBody
def kdos4 := pC [zf,zt,zf,zt,zf,zt] kdoBody
def kdor3 := pC [zf,zt,zf,zt,zf,zt,zt] kdoBody
def kdos5 := pC [zf,zt,zf,zt,zf,zf] kdoBody
def kdor4 := pC [zf,zt,zf,zt,zf,zf,zt] kdoBody
def kdoc23 := pC [zf,zt,zf,zt,zf,zf,zf] kdoBody
def kdos6 := pC [zf,zt,zf,zt,zf,zf,zf,zt] kdoBody
def kdor5 := pC [zf,zt,zf,zt,zf,zf,zf,zt,zt] kdoBody
def kdos7 := pC [zf,zt,zf,zt,zf,zf,zf,zt,zf] kdoBody
def kdor6 := pC [zf,zt,zf,zt,zf,zf,zf,zt,zf,zt] kdoBody
def kdos8 := pC [zf,zt,zf,zt,zf,zf,zf,zf] kdoBody
def kdor7 := pC [zf,zt,zf,zt,zf,zf,zf,zf,zt] kdoBody
def kdoc34 := pC [zf,zt,zf,zt,zf,zf,zf,zf,zf] kdoBody
def kdos9 := pC [zf,zt,zf,zt,zf,zf,zf,zf,zf,zt] kdoBody
def kdor8 := pC [zf,zt,zf,zt,zf,zf,zf,zf,zf,zt,zt] kdoBody
def kdos10 := pC [zf,zt,zf,zt,zf,zf,zf,zf,zf,zt,zf] kdoBody
def kdor9 := pC [zf,zt,zf,zt,zf,zf,zf,zf,zf,zt,zf,zt] kdoBody
def kdos11 := pC [zf,zt,zf,zt,zf,zf,zf,zf,zf,zf] kdoBody
def kdor10 := pC [zf,zt,zf,zt,zf,zf,zf,zf,zf,zf,zt] kdoBody
def kdoc45 := pC [zf,zt,zf,zt,zf,zf,zf,zf,zf,zf,zf] kdoBody
def kdos12 := pC [zf,zt,zf,zt,zf,zf,zf,zf,zf,zf,zf,zt] kdoBody
def kdor11 := pC [zf,zt,zf,zt,zf,zf,zf,zf,zf,zf,zf,zt,zt] kdoBody
def kdos13 := pC [zf,zf] kdoBody
def kdor12 := pC [zf,zf,zt] kdoBody
theorem kdos0' : kdos0 = .seq kdor0 kdos1 := by kernel_rfl
theorem kdor0' : kdor0 = .region 0 (oC kdor0) false := by kernel_rfl
theorem kdos1' : kdos1 = .seq kdos2 kdos13 := by kernel_rfl
theorem kdos2' : kdos2 = .seq kdor1 kdob0 := by kernel_rfl
theorem kdor1' : kdor1 = .region 1 (oC kdor1) false := by kernel_rfl
theorem kdob0' : kdob0 = .block 0 kdos3 := by kernel_rfl
theorem kdos3' : kdos3 = .seq kdor2 kdoc15 := by kernel_rfl
theorem kdor2' : kdor2 = .region 2 (oC kdor2) false := by kernel_rfl
theorem kdoc15' : kdoc15 = .cond (.tmp 15) kdos4 kdos5 := by kernel_rfl
theorem kdos4' : kdos4 = .seq kdor3 .ret := by kernel_rfl
theorem kdor3' : kdor3 = .region 3 (oC kdor3) false := by kernel_rfl
theorem kdos5' : kdos5 = .seq kdor4 kdoc23 := by kernel_rfl
theorem kdor4' : kdor4 = .region 4 (oC kdor4) false := by kernel_rfl
theorem kdoc23' : kdoc23 = .cond (.tmp 23) kdos6 kdos8 := by kernel_rfl
theorem kdos6' : kdos6 = .seq kdor5 kdos7 := by kernel_rfl
theorem kdor5' : kdor5 = .region 5 (oC kdor5) false := by kernel_rfl
theorem kdos7' : kdos7 = .seq kdor6 .ret := by kernel_rfl
theorem kdor6' : kdor6 = .region 6 (oC kdor6) false := by kernel_rfl
theorem kdos8' : kdos8 = .seq kdor7 kdoc34 := by kernel_rfl
theorem kdor7' : kdor7 = .region 7 (oC kdor7) false := by kernel_rfl
theorem kdoc34' : kdoc34 = .cond (.tmp 34) kdos9 kdos11 := by kernel_rfl
theorem kdos9' : kdos9 = .seq kdor8 kdos10 := by kernel_rfl
theorem kdor8' : kdor8 = .region 8 (oC kdor8) false := by kernel_rfl
theorem kdos10' : kdos10 = .seq kdor9 .ret := by kernel_rfl
theorem kdor9' : kdor9 = .region 9 (oC kdor9) false := by kernel_rfl
theorem kdos11' : kdos11 = .seq kdor10 kdoc45 := by kernel_rfl
theorem kdor10' : kdor10 = .region 10 (oC kdor10) false := by kernel_rfl
theorem kdoc45' : kdoc45 = .cond (.tmp 45) kdos12 .skip := by kernel_rfl
theorem kdos12' : kdos12 = .seq kdor11 .ret := by kernel_rfl
theorem kdor11' : kdor11 = .region 11 (oC kdor11) false := by kernel_rfl
theorem kdos13' : kdos13 = .seq kdor12 .ret := by kernel_rfl
theorem kdor12' : kdor12 = .region 12 (oC kdor12) false := by kernel_rfl
theorem enter_kdo (args : Array Value) : Frame.enter Try.prog 64 args .normal = (Go.Conc.base 64).at { tmps := args ++ Array.replicate (52 - args.size) undef, defers := [] } [.code kdos0] := enter_at args Try.func64 rfl
theorem callable64 : Callable 64 := callable Try.func64 rfl rfl
def kdoT (s : Nat → Value) : Array Value := #[s 0, s 1, s 2, s 3, s 4, s 5, s 6, s 7, s 8, s 9, s 10, s 11, s 12, s 13, s 14, s 15, s 16, s 17, s 18, s 19, s 20, s 21, s 22, s 23, s 24, s 25, s 26, s 27, s 28, s 29, s 30, s 31, s 32, s 33, s 34, s 35, s 36, s 37, s 38, s 39, s 40, s 41, s 42, s 43, s 44, s 45, s 46, s 47, s 48, s 49, s 50, s 51]
theorem kdoT_of {A : Array Value} (h : A.size = 52) : ∃ s, A = kdoT s := by
 obtain ⟨s, hs, _⟩ := arr_lit A h
 exact ⟨s, hs⟩
theorem kdo_other {n : Nat} (hU : Under F n) (hn : n ≤ w.heap.size) {sv : Value} {kb i : Nat} {kd a b c0 : Int} (k1 : (kd == 1) = false) (k2 : (kd == 2) = false) (k3 : (kd == 3) = false) (k4 : (kd == 4) = false) {c : Frame}
 (h : Own Try.prog main F Stop (G (c.finish (.agg #[.bool false, .int .i64 0, .slice none 0 0])) cs) (ansW ((w.alloc (.cells #[.int .i64 kd, .int .i64 a, .int .i64 b, .int .i64 c0] 47)).alloc (.cells #[.bool false, .int .i64 0, .slice none 0 0] 44)) (w.heap.size + 1) false 0)) :
 Own Try.prog main F Stop (G (Frame.enter Try.prog 64 #[.pointer (some ⟨kb, 0, none⟩), sv, .int .i64 i, .agg #[.int .i64 kd, .int .i64 a, .int .i64 b, .int .i64 c0]] .normal) (c :: cs)) w := by
 rw [enter_kdo]
 walk_nrm
 refine ogSR kdos0' kdor0' ?_
 simp only [kdor0, kdoBody, Try.f64, zz, Nat.reduceAdd]
 iterate 2 (refine oW fun dd K hK => ?_; go_simp; refine qA hK hU ?_; clear hK K)
 refine ogE ?_
 refine ogSE kdos1' ?_
 refine ogSR kdos2' kdor1' ?_
 simp only [kdor1, kdoBody, Try.f64, zz, Nat.reduceAdd]
 (refine oW fun dd K hK => ?_; go_simp; refine qT hK ?_; clear hK K)
 (refine oW fun dd K hK => ?_; go_simp; refine qL hK ?_; clear hK K)
 refine ogE ?_
 rw [kdob0']
 refine ogB ?_
 refine ogSR kdos3' kdor2' ?_
 simp only [kdor2, kdoBody, Try.f64, zz, Nat.reduceAdd]
 iterate 2 (refine oW fun dd K hK => ?_; go_simp; refine qT hK ?_; clear hK K)
 refine ogE ?_
 rw [kdoc15']
 refine ogF ?_
 simp only [Bool.false_eq_true, if_false]
 refine ogSR kdos5' kdor4' ?_
 simp only [kdor4, kdoBody, Try.f64, zz, Nat.reduceAdd]
 iterate 2 (refine oW fun dd K hK => ?_; go_simp; refine qT hK ?_; clear hK K)
 refine ogE ?_
 rw [kdoc23']
 refine ogF ?_
 simp only [Bool.false_eq_true, if_false]
 refine ogSR kdos8' kdor7' ?_
 simp only [kdor7, kdoBody, Try.f64, zz, Nat.reduceAdd]
 iterate 2 (refine oW fun dd K hK => ?_; go_simp; refine qT hK ?_; clear hK K)
 refine ogE ?_
 rw [kdoc34']
 refine ogF ?_
 simp only [Bool.false_eq_true, if_false]
 refine ogSR kdos11' kdor10' ?_
 simp only [kdor10, kdoBody, Try.f64, zz, Nat.reduceAdd]
 iterate 2 (refine oW fun dd K hK => ?_; go_simp; refine qT hK ?_; clear hK K)
 refine ogE ?_
 rw [kdoc45']
 refine ogF ?_
 simp only [Bool.false_eq_true, if_false]
 refine ogK ?_
 refine ogI ?_
 refine ogSR kdos13' kdor12' ?_
 simp only [kdor12, kdoBody, Try.f64, zz, Nat.reduceAdd]
 (refine oW fun dd K hK => ?_; go_simp; refine qT hK ?_; clear hK K)
 (refine oW fun dd K hK => ?_; go_simp; refine hK _ _ ⟨⟨⟨0, grew3 (fun k => not_held hU (show n ≤ w.heap.size + 1 by omega)) _ _ _⟩, fun e he => by (have hm := mem_listed he; clear he hK; simp [go_sem, storedEv] at hm; rcases hm with rfl | rfl | rfl <;> exact evT_write _ _ ((fun k => not_held hU (show n ≤ w.heap.size + 1 by omega)) _))⟩, ?_⟩; clear hK K; simp only [setCell_at']; refine Own.at ?_ dd)
 refine ogE ?_
 refine ogX ?_
 refine own_leave (fn := Try.f64) (v := .agg #[.bool false, .int .i64 0, .slice none 0 0]) rfl rfl Try.func64 (fun d => by simp [results, Try.f64, go_sem]) (fun d e he => by (simp [results, Try.f64, go_sem] at he; rcases he with rfl | rfl | rfl <;> exact evT_read _ _)) ?_
 exact h
theorem kdo_pu0 {n : Nat} (hU : Under F n) (hn : n ≤ w.heap.size) {sv : Value} {kb i : Nat} {a b c0 : Int} 
 (h : ∀ A, Slots 52 A [(8, .pointer (some ⟨w.heap.size + 1, 0, none⟩))] → Own Try.prog main F Stop (G (Frame.enter Try.prog 45 #[.pointer (some ⟨kb, 0, none⟩), sv, .int .i64 a] .normal) (((Go.Conc.base 64).at ⟨A, []⟩ [.inRegion (oC kdor3) [4, 5, 6], .code .ret, .inBlock 0, .code kdos13]) :: cs)) ((w.alloc (.cells #[.int .i64 1, .int .i64 a, .int .i64 b, .int .i64 c0] 47)).alloc (.cells #[.bool false, .int .i64 0, .slice none 0 0] 44))) :
 Own Try.prog main F Stop (G (Frame.enter Try.prog 64 #[.pointer (some ⟨kb, 0, none⟩), sv, .int .i64 i, .agg #[.int .i64 1, .int .i64 a, .int .i64 b, .int .i64 c0]] .normal) cs) w := by
 rw [enter_kdo]
 walk_nrm
 refine ogSR kdos0' kdor0' ?_
 simp only [kdor0, kdoBody, Try.f64, zz, Nat.reduceAdd]
 iterate 2 (refine oW fun dd K hK => ?_; go_simp; refine qA hK hU ?_; clear hK K)
 refine ogE ?_
 refine ogSE kdos1' ?_
 refine ogSR kdos2' kdor1' ?_
 simp only [kdor1, kdoBody, Try.f64, zz, Nat.reduceAdd]
 (refine oW fun dd K hK => ?_; go_simp; refine qT hK ?_; clear hK K)
 (refine oW fun dd K hK => ?_; go_simp; refine qL hK ?_; clear hK K)
 refine ogE ?_
 rw [kdob0']
 refine ogB ?_
 refine ogSR kdos3' kdor2' ?_
 simp only [kdor2, kdoBody, Try.f64, zz, Nat.reduceAdd]
 iterate 2 (refine oW fun dd K hK => ?_; go_simp; refine qT hK ?_; clear hK K)
 refine ogE ?_
 rw [kdoc15']
 refine ogT ?_
 simp only [if_true]
 refine ogSR kdos4' kdor3' ?_
 simp only [kdor3, kdoBody, Try.f64, zz, Nat.reduceAdd]
 iterate 3 (refine oW fun dd K hK => ?_; go_simp; refine qT hK ?_; clear hK K)
 (refine oW fun dd K hK => ?_; go_simp; refine qL hK ?_; clear hK K)
 refine oc callable45 #[.pointer (some ⟨kb, 0, none⟩), sv, .int .i64 a] ?_
 refine h _ ?_
 exact ⟨rfl, rfl, trivial⟩
theorem kdo_po0 {n : Nat} (hU : Under F n) (hn : n ≤ w.heap.size) {sv : Value} {kb i : Nat} {a b c0 : Int} 
 (h : ∀ A, Slots 52 A [(8, .pointer (some ⟨w.heap.size + 1, 0, none⟩))] → Own Try.prog main F Stop (G (Frame.enter Try.prog 43 #[.pointer (some ⟨kb, 0, none⟩), sv] .normal) (((Go.Conc.base 64).at ⟨A, []⟩ [.inRegion (oC kdor5) [2, 3, 4, 5, 6, 7], .code kdos7, .inBlock 0, .code kdos13]) :: cs)) ((w.alloc (.cells #[.int .i64 2, .int .i64 a, .int .i64 b, .int .i64 c0] 47)).alloc (.cells #[.bool false, .int .i64 0, .slice none 0 0] 44))) :
 Own Try.prog main F Stop (G (Frame.enter Try.prog 64 #[.pointer (some ⟨kb, 0, none⟩), sv, .int .i64 i, .agg #[.int .i64 2, .int .i64 a, .int .i64 b, .int .i64 c0]] .normal) cs) w := by
 rw [enter_kdo]
 walk_nrm
 refine ogSR kdos0' kdor0' ?_
 simp only [kdor0, kdoBody, Try.f64, zz, Nat.reduceAdd]
 iterate 2 (refine oW fun dd K hK => ?_; go_simp; refine qA hK hU ?_; clear hK K)
 refine ogE ?_
 refine ogSE kdos1' ?_
 refine ogSR kdos2' kdor1' ?_
 simp only [kdor1, kdoBody, Try.f64, zz, Nat.reduceAdd]
 (refine oW fun dd K hK => ?_; go_simp; refine qT hK ?_; clear hK K)
 (refine oW fun dd K hK => ?_; go_simp; refine qL hK ?_; clear hK K)
 refine ogE ?_
 rw [kdob0']
 refine ogB ?_
 refine ogSR kdos3' kdor2' ?_
 simp only [kdor2, kdoBody, Try.f64, zz, Nat.reduceAdd]
 iterate 2 (refine oW fun dd K hK => ?_; go_simp; refine qT hK ?_; clear hK K)
 refine ogE ?_
 rw [kdoc15']
 refine ogF ?_
 simp only [Bool.false_eq_true, if_false]
 refine ogSR kdos5' kdor4' ?_
 simp only [kdor4, kdoBody, Try.f64, zz, Nat.reduceAdd]
 iterate 2 (refine oW fun dd K hK => ?_; go_simp; refine qT hK ?_; clear hK K)
 refine ogE ?_
 rw [kdoc23']
 refine ogT ?_
 simp only [if_true]
 refine ogSR kdos6' kdor5' ?_
 simp only [kdor5, kdoBody, Try.f64, zz, Nat.reduceAdd]
 iterate 2 (refine oW fun dd K hK => ?_; go_simp; refine qT hK ?_; clear hK K)
 refine oc callable43 #[.pointer (some ⟨kb, 0, none⟩), sv] ?_
 refine h _ ?_
 exact ⟨rfl, rfl, trivial⟩
theorem kdo_pe0 {n : Nat} (hU : Under F n) (hn : n ≤ w.heap.size) {sv : Value} {kb i : Nat} {a b c0 : Int} 
 (h : ∀ A, Slots 52 A [(8, .pointer (some ⟨w.heap.size + 1, 0, none⟩))] → Own Try.prog main F Stop (G (Frame.enter Try.prog 44 #[.pointer (some ⟨kb, 0, none⟩), sv] .normal) (((Go.Conc.base 64).at ⟨A, []⟩ [.inRegion (oC kdor8) [2, 3, 4, 5, 6, 7], .code kdos10, .inBlock 0, .code kdos13]) :: cs)) ((w.alloc (.cells #[.int .i64 3, .int .i64 a, .int .i64 b, .int .i64 c0] 47)).alloc (.cells #[.bool false, .int .i64 0, .slice none 0 0] 44))) :
 Own Try.prog main F Stop (G (Frame.enter Try.prog 64 #[.pointer (some ⟨kb, 0, none⟩), sv, .int .i64 i, .agg #[.int .i64 3, .int .i64 a, .int .i64 b, .int .i64 c0]] .normal) cs) w := by
 rw [enter_kdo]
 walk_nrm
 refine ogSR kdos0' kdor0' ?_
 simp only [kdor0, kdoBody, Try.f64, zz, Nat.reduceAdd]
 iterate 2 (refine oW fun dd K hK => ?_; go_simp; refine qA hK hU ?_; clear hK K)
 refine ogE ?_
 refine ogSE kdos1' ?_
 refine ogSR kdos2' kdor1' ?_
 simp only [kdor1, kdoBody, Try.f64, zz, Nat.reduceAdd]
 (refine oW fun dd K hK => ?_; go_simp; refine qT hK ?_; clear hK K)
 (refine oW fun dd K hK => ?_; go_simp; refine qL hK ?_; clear hK K)
 refine ogE ?_
 rw [kdob0']
 refine ogB ?_
 refine ogSR kdos3' kdor2' ?_
 simp only [kdor2, kdoBody, Try.f64, zz, Nat.reduceAdd]
 iterate 2 (refine oW fun dd K hK => ?_; go_simp; refine qT hK ?_; clear hK K)
 refine ogE ?_
 rw [kdoc15']
 refine ogF ?_
 simp only [Bool.false_eq_true, if_false]
 refine ogSR kdos5' kdor4' ?_
 simp only [kdor4, kdoBody, Try.f64, zz, Nat.reduceAdd]
 iterate 2 (refine oW fun dd K hK => ?_; go_simp; refine qT hK ?_; clear hK K)
 refine ogE ?_
 rw [kdoc23']
 refine ogF ?_
 simp only [Bool.false_eq_true, if_false]
 refine ogSR kdos8' kdor7' ?_
 simp only [kdor7, kdoBody, Try.f64, zz, Nat.reduceAdd]
 iterate 2 (refine oW fun dd K hK => ?_; go_simp; refine qT hK ?_; clear hK K)
 refine ogE ?_
 rw [kdoc34']
 refine ogT ?_
 simp only [if_true]
 refine ogSR kdos9' kdor8' ?_
 simp only [kdor8, kdoBody, Try.f64, zz, Nat.reduceAdd]
 iterate 2 (refine oW fun dd K hK => ?_; go_simp; refine qT hK ?_; clear hK K)
 refine oc callable44 #[.pointer (some ⟨kb, 0, none⟩), sv] ?_
 refine h _ ?_
 exact ⟨rfl, rfl, trivial⟩
theorem kdo_em0 {n : Nat} (hU : Under F n) (hn : n ≤ w.heap.size) {sv : Value} {kb i : Nat} {a b c0 : Int} 
 (h : ∀ A, Slots 52 A [(8, .pointer (some ⟨w.heap.size + 1, 0, none⟩))] → Own Try.prog main F Stop (G (Frame.enter Try.prog 46 #[.pointer (some ⟨kb, 0, none⟩), sv] .normal) (((Go.Conc.base 64).at ⟨A, []⟩ [.inRegion (oC kdor11) [2, 3, 4], .code .ret, .inBlock 0, .code kdos13]) :: cs)) ((w.alloc (.cells #[.int .i64 4, .int .i64 a, .int .i64 b, .int .i64 c0] 47)).alloc (.cells #[.bool false, .int .i64 0, .slice none 0 0] 44))) :
 Own Try.prog main F Stop (G (Frame.enter Try.prog 64 #[.pointer (some ⟨kb, 0, none⟩), sv, .int .i64 i, .agg #[.int .i64 4, .int .i64 a, .int .i64 b, .int .i64 c0]] .normal) cs) w := by
 rw [enter_kdo]
 walk_nrm
 refine ogSR kdos0' kdor0' ?_
 simp only [kdor0, kdoBody, Try.f64, zz, Nat.reduceAdd]
 iterate 2 (refine oW fun dd K hK => ?_; go_simp; refine qA hK hU ?_; clear hK K)
 refine ogE ?_
 refine ogSE kdos1' ?_
 refine ogSR kdos2' kdor1' ?_
 simp only [kdor1, kdoBody, Try.f64, zz, Nat.reduceAdd]
 (refine oW fun dd K hK => ?_; go_simp; refine qT hK ?_; clear hK K)
 (refine oW fun dd K hK => ?_; go_simp; refine qL hK ?_; clear hK K)
 refine ogE ?_
 rw [kdob0']
 refine ogB ?_
 refine ogSR kdos3' kdor2' ?_
 simp only [kdor2, kdoBody, Try.f64, zz, Nat.reduceAdd]
 iterate 2 (refine oW fun dd K hK => ?_; go_simp; refine qT hK ?_; clear hK K)
 refine ogE ?_
 rw [kdoc15']
 refine ogF ?_
 simp only [Bool.false_eq_true, if_false]
 refine ogSR kdos5' kdor4' ?_
 simp only [kdor4, kdoBody, Try.f64, zz, Nat.reduceAdd]
 iterate 2 (refine oW fun dd K hK => ?_; go_simp; refine qT hK ?_; clear hK K)
 refine ogE ?_
 rw [kdoc23']
 refine ogF ?_
 simp only [Bool.false_eq_true, if_false]
 refine ogSR kdos8' kdor7' ?_
 simp only [kdor7, kdoBody, Try.f64, zz, Nat.reduceAdd]
 iterate 2 (refine oW fun dd K hK => ?_; go_simp; refine qT hK ?_; clear hK K)
 refine ogE ?_
 rw [kdoc34']
 refine ogF ?_
 simp only [Bool.false_eq_true, if_false]
 refine ogSR kdos11' kdor10' ?_
 simp only [kdor10, kdoBody, Try.f64, zz, Nat.reduceAdd]
 iterate 2 (refine oW fun dd K hK => ?_; go_simp; refine qT hK ?_; clear hK K)
 refine ogE ?_
 rw [kdoc45']
 refine ogT ?_
 simp only [if_true]
 refine ogSR kdos12' kdor11' ?_
 simp only [kdor11, kdoBody, Try.f64, zz, Nat.reduceAdd]
 iterate 2 (refine oW fun dd K hK => ?_; go_simp; refine qT hK ?_; clear hK K)
 refine oc callable46 #[.pointer (some ⟨kb, 0, none⟩), sv] ?_
 refine h _ ?_
 exact ⟨rfl, rfl, trivial⟩
theorem kdo_pu1 {ab : Nat} (ha : Ans w ab) (hnh : ∀ k, ¬ held F ⟨ab, k, none⟩) {b : Bool} {A : Array Value} (hA : Slots 52 A [(8, .pointer (some ⟨ab, 0, none⟩))]) {c : Frame}
 (h : Own Try.prog main F Stop (G (c.finish (.agg #[.bool b, .int .i64 0, .slice none 0 0])) cs) (ansW w ab b 0)) :
 Own Try.prog main F Stop (G (((Go.Conc.base 64).at ⟨A, []⟩ [.inRegion (oC kdor3) [4, 5, 6], .code .ret, .inBlock 0, .code kdos13]).finish (.bool b)) (c :: cs)) w := by
 obtain ⟨hsz, h8, _⟩ := hA
 obtain ⟨s, rfl⟩ := kdoT_of hsz
 change s 8 = _ at h8
 clear hsz
 simp only [kdoT, h8]
 clear h8
 obtain ⟨x0, x1, x2, c0, c1, c2⟩ := ha.c
 have z0 := ha.z 0
 have z1 := ha.z 1
 have z2 := ha.z 2
 rw [Frame.finish_at]
 simp only [kdor3, kdoBody, Try.f64, zz, Nat.reduceAdd]
 walk_nrm
 (refine oW fun dd K hK => ?_; go_simp; refine qT hK ?_; clear hK K)
 (refine oW fun dd K hK => ?_; go_simp; refine hK _ _ ⟨⟨⟨0, grew3 hnh _ _ _⟩, fun e he => by (have hm := mem_listed he; clear he hK; simp [go_sem, storedEv, c0, c1, c2, z0, z1, z2] at hm; rcases hm with rfl | rfl | rfl <;> exact evT_write _ _ (hnh _))⟩, ?_⟩; clear hK K; simp only [setCell_at']; refine Own.at ?_ dd)
 refine ogE ?_
 refine ogX ?_
 refine own_leave (fn := Try.f64) (v := .agg #[.bool b, .int .i64 0, .slice none 0 0]) rfl rfl Try.func64 (fun d => by simp [results, Try.f64, go_sem, c0, c1, c2, z0, z1, z2]) (fun d e he => by (simp [results, Try.f64, go_sem, c0, c1, c2, z0, z1, z2] at he; rcases he with rfl | rfl | rfl <;> exact evT_read _ _)) ?_
 exact h
theorem kdo_po1 {ab : Nat} (ha : Ans w ab) (hnh : ∀ k, ¬ held F ⟨ab, k, none⟩) {b : Bool} {v : Int} {A : Array Value} (hA : Slots 52 A [(8, .pointer (some ⟨ab, 0, none⟩))]) {c : Frame}
 (h : Own Try.prog main F Stop (G (c.finish (.agg #[.bool b, .int .i64 v, .slice none 0 0])) cs) (ansW w ab b v)) :
 Own Try.prog main F Stop (G (((Go.Conc.base 64).at ⟨A, []⟩ [.inRegion (oC kdor5) [2, 3, 4, 5, 6, 7], .code kdos7, .inBlock 0, .code kdos13]).finish (.tuple #[.int .i64 v, .bool b])) (c :: cs)) w := by
 obtain ⟨hsz, h8, _⟩ := hA
 obtain ⟨s, rfl⟩ := kdoT_of hsz
 change s 8 = _ at h8
 clear hsz
 simp only [kdoT, h8]
 clear h8
 obtain ⟨x0, x1, x2, c0, c1, c2⟩ := ha.c
 have z0 := ha.z 0
 have z1 := ha.z 1
 have z2 := ha.z 2
 rw [Frame.finish_at]
 simp only [kdor5, kdoBody, Try.f64, zz, Nat.reduceAdd]
 walk_nrm
 iterate 5 (refine oW fun dd K hK => ?_; go_simp; refine qT hK ?_; clear hK K)
 refine ogE ?_
 refine ogSR kdos7' kdor6' ?_
 simp only [kdor6, kdoBody, Try.f64, zz, Nat.reduceAdd]
 iterate 3 (refine oW fun dd K hK => ?_; go_simp; refine qT hK ?_; clear hK K)
 (refine oW fun dd K hK => ?_; go_simp; refine hK _ _ ⟨⟨⟨0, grew3 hnh _ _ _⟩, fun e he => by (have hm := mem_listed he; clear he hK; simp [go_sem, storedEv, c0, c1, c2, z0, z1, z2] at hm; rcases hm with rfl | rfl | rfl <;> exact evT_write _ _ (hnh _))⟩, ?_⟩; clear hK K; simp only [setCell_at']; refine Own.at ?_ dd)
 refine ogE ?_
 refine ogX ?_
 refine own_leave (fn := Try.f64) (v := .agg #[.bool b, .int .i64 v, .slice none 0 0]) rfl rfl Try.func64 (fun d => by simp [results, Try.f64, go_sem, c0, c1, c2, z0, z1, z2]) (fun d e he => by (simp [results, Try.f64, go_sem, c0, c1, c2, z0, z1, z2] at he; rcases he with rfl | rfl | rfl <;> exact evT_read _ _)) ?_
 exact h
theorem kdo_pe1 {ab : Nat} (ha : Ans w ab) (hnh : ∀ k, ¬ held F ⟨ab, k, none⟩) {b : Bool} {v : Int} {A : Array Value} (hA : Slots 52 A [(8, .pointer (some ⟨ab, 0, none⟩))]) {c : Frame}
 (h : Own Try.prog main F Stop (G (c.finish (.agg #[.bool b, .int .i64 v, .slice none 0 0])) cs) (ansW w ab b v)) :
 Own Try.prog main F Stop (G (((Go.Conc.base 64).at ⟨A, []⟩ [.inRegion (oC kdor8) [2, 3, 4, 5, 6, 7], .code kdos10, .inBlock 0, .code kdos13]).finish (.tuple #[.int .i64 v, .bool b])) (c :: cs)) w := by
 obtain ⟨hsz, h8, _⟩ := hA
 obtain ⟨s, rfl⟩ := kdoT_of hsz
 change s 8 = _ at h8
 clear hsz
 simp only [kdoT, h8]
 clear h8
 obtain ⟨x0, x1, x2, c0, c1, c2⟩ := ha.c
 have z0 := ha.z 0
 have z1 := ha.z 1
 have z2 := ha.z 2
 rw [Frame.finish_at]
 simp only [kdor8, kdoBody, Try.f64, zz, Nat.reduceAdd]
 walk_nrm
 iterate 5 (refine oW fun dd K hK => ?_; go_simp; refine qT hK ?_; clear hK K)
 refine ogE ?_
 refine ogSR kdos10' kdor9' ?_
 simp only [kdor9, kdoBody, Try.f64, zz, Nat.reduceAdd]
 iterate 3 (refine oW fun dd K hK => ?_; go_simp; refine qT hK ?_; clear hK K)
 (refine oW fun dd K hK => ?_; go_simp; refine hK _ _ ⟨⟨⟨0, grew3 hnh _ _ _⟩, fun e he => by (have hm := mem_listed he; clear he hK; simp [go_sem, storedEv, c0, c1, c2, z0, z1, z2] at hm; rcases hm with rfl | rfl | rfl <;> exact evT_write _ _ (hnh _))⟩, ?_⟩; clear hK K; simp only [setCell_at']; refine Own.at ?_ dd)
 refine ogE ?_
 refine ogX ?_
 refine own_leave (fn := Try.f64) (v := .agg #[.bool b, .int .i64 v, .slice none 0 0]) rfl rfl Try.func64 (fun d => by simp [results, Try.f64, go_sem, c0, c1, c2, z0, z1, z2]) (fun d e he => by (simp [results, Try.f64, go_sem, c0, c1, c2, z0, z1, z2] at he; rcases he with rfl | rfl | rfl <;> exact evT_read _ _)) ?_
 exact h
theorem kdo_em1 {ab : Nat} (ha : Ans w ab) (hnh : ∀ k, ¬ held F ⟨ab, k, none⟩) {b : Bool} {A : Array Value} (hA : Slots 52 A [(8, .pointer (some ⟨ab, 0, none⟩))]) {c : Frame}
 (h : Own Try.prog main F Stop (G (c.finish (.agg #[.bool b, .int .i64 0, .slice none 0 0])) cs) (ansW w ab b 0)) :
 Own Try.prog main F Stop (G (((Go.Conc.base 64).at ⟨A, []⟩ [.inRegion (oC kdor11) [2, 3, 4], .code .ret, .inBlock 0, .code kdos13]).finish (.bool b)) (c :: cs)) w := by
 obtain ⟨hsz, h8, _⟩ := hA
 obtain ⟨s, rfl⟩ := kdoT_of hsz
 change s 8 = _ at h8
 clear hsz
 simp only [kdoT, h8]
 clear h8
 obtain ⟨x0, x1, x2, c0, c1, c2⟩ := ha.c
 have z0 := ha.z 0
 have z1 := ha.z 1
 have z2 := ha.z 2
 rw [Frame.finish_at]
 simp only [kdor11, kdoBody, Try.f64, zz, Nat.reduceAdd]
 walk_nrm
 (refine oW fun dd K hK => ?_; go_simp; refine qT hK ?_; clear hK K)
 (refine oW fun dd K hK => ?_; go_simp; refine hK _ _ ⟨⟨⟨0, grew3 hnh _ _ _⟩, fun e he => by (have hm := mem_listed he; clear he hK; simp [go_sem, storedEv, c0, c1, c2, z0, z1, z2] at hm; rcases hm with rfl | rfl | rfl <;> exact evT_write _ _ (hnh _))⟩, ?_⟩; clear hK K; simp only [setCell_at']; refine Own.at ?_ dd)
 refine ogE ?_
 refine ogX ?_
 refine own_leave (fn := Try.f64) (v := .agg #[.bool b, .int .i64 0, .slice none 0 0]) rfl rfl Try.func64 (fun d => by simp [results, Try.f64, go_sem, c0, c1, c2, z0, z1, z2]) (fun d e he => by (simp [results, Try.f64, go_sem, c0, c1, c2, z0, z1, z2] at he; rcases he with rfl | rfl | rfl <;> exact evT_read _ _)) ?_
 exact h
end
section
variable {F : Fz} {w w' : World} {kb : Nat}
structure KS where
 k : KSt
 nb : Nat
abbrev KS.m (s : KS) : Nat := s.k.nx.length
structure KU (kb : Nat) (s : KS) (w : World) : Prop where
 wf : KWf s.k
 o : w.heap[kb]? = some (.cells #[.int .u64 (pk s.k.hd), .int .u64 (pk s.k.fr), .slice (some ⟨s.nb, 0, none⟩) s.m s.m, .bool s.k.tg] 92 (0, 0))
 n : ∃ c, w.heap[s.nb]? = some (.cells c 129 (0, 0)) ∧ c.size = s.m * 2 ∧ ∀ i, i < s.m → c[i * 2]? = some (.int .i64 (s.k.nx.getD i 0)) ∧ c[i * 2 + 1]? = some (.int .i64 (s.k.vl.getD i 0))
def KR (kb : Nat) (s : KS) (r : Nat) : Prop := r = kb ∨ r = s.nb
section
variable {s : KS}
theorem KU.ne (h : KU kb s w) : s.nb ≠ kb := by
 intro e
 obtain ⟨c, h1, _⟩ := h.n
 rw [e, h.o] at h1
 simp only [Option.some.injEq, Obj.cells.injEq] at h1
 exact absurd h1.2.1 (by decide)
theorem KU.low (h : KU kb s w) {r : Nat} (hr : KR kb s r) : r < w.heap.size := by
 rcases hr with rfl | rfl
 ·exact (Array.getElem?_eq_some_iff.1 h.o).1
 ·obtain ⟨c, h1, _⟩ := h.n
  exact (alt h1)
theorem KU.same (h : KU kb s w) (hs : ∀ r, KR kb s r → w'.heap[r]? = w.heap[r]?) : KU kb s w' := by
 obtain ⟨c, h1, h2⟩ := h.n
 exact ⟨h.wf, (hs _ (.inl rfl)).trans h.o, c, (hs _ (.inr rfl)).trans h1, h2⟩
theorem KU.c0 (h : KU kb s w) : w.cell? ⟨kb, 0, none⟩ = some (.int .u64 (pk s.k.hd)) := by simp [World.cell?, h.o]
theorem KU.c1 (h : KU kb s w) : w.cell? ⟨kb, 1, none⟩ = some (.int .u64 (pk s.k.fr)) := by simp [World.cell?, h.o]
theorem KU.c2 (h : KU kb s w) : KH kb s.nb s.m w := ⟨by simp [World.cell?, h.o]⟩
theorem KU.c3 (h : KU kb s w) : w.cell? ⟨kb, 3, none⟩ = some (.bool s.k.tg) := by simp [World.cell?, h.o]
theorem KU.z (h : KU kb s w) (j : Nat) : w.frozen? ⟨kb, j, none⟩ = false := by simp [World.frozen?, h.o]
theorem KU.nc (h : KU kb s w) {i : Nat} (hi : i < s.m) : w.cell? ⟨s.nb, i * 2, none⟩ = some (.int .i64 (s.k.nx.getD i 0)) ∧ w.cell? ⟨s.nb, i * 2 + 1, none⟩ = some (.int .i64 (s.k.vl.getD i 0)) ∧ ∀ j, w.frozen? ⟨s.nb, j, none⟩ = false := by
 obtain ⟨c, h1, h2, h3⟩ := h.n
 obtain ⟨e1, e2⟩ := h3 i hi
 exact ⟨by simp only [World.cell?, h1]; simpa using e1, by simp only [World.cell?, h1]; simpa using e2, fun j => by simp [World.frozen?, h1]⟩
theorem KU.setHd (h : KU kb s w) {x : Int × Int} (hx : -1 ≤ x.1 ∧ x.1 < s.m ∧ 0 ≤ x.2 ∧ x.2 < 2147483648) (ht : s.k.tg = false → x.2 = 0) : KU kb { s with k := { s.k with hd := x } } (w.setCell ⟨kb, 0, none⟩ (.int .u64 (pk x))) := by
 obtain ⟨c, h1, h2⟩ := h.n
 have hw := h.wf
 refine ⟨⟨hw.n1, hw.n2, hw.n3, hw.nx, hx, hw.fr, fun e => ⟨ht e, (hw.tg e).2⟩⟩, ?_, c, (heap_setCell_ne _ _ _ h.ne).trans h1, h2⟩
 rw [heap_setCell_eq h.o]; rfl
theorem KU.setFr (h : KU kb s w) {x : Int × Int} (hx : -1 ≤ x.1 ∧ x.1 < s.m ∧ 0 ≤ x.2 ∧ x.2 < 2147483648) (ht : s.k.tg = false → x.2 = 0) : KU kb { s with k := { s.k with fr := x } } (w.setCell ⟨kb, 1, none⟩ (.int .u64 (pk x))) := by
 obtain ⟨c, h1, h2⟩ := h.n
 have hw := h.wf
 refine ⟨⟨hw.n1, hw.n2, hw.n3, hw.nx, hw.hd, hx, fun e => ⟨(hw.tg e).1, ht e⟩⟩, ?_, c, (heap_setCell_ne _ _ _ h.ne).trans h1, h2⟩
 rw [heap_setCell_eq h.o]; rfl
theorem getD_set {l : List Int} {i j : Nat} {v : Int} (hi : i < l.length) : (l.set i v).getD j 0 = if i = j then v else l.getD j 0 := by
 simp only [List.getD_eq_getElem?_getD, List.getElem?_set]
 split
 ·rename_i e
  subst e
  simp [hi]
 ·rfl
theorem KU.setNx (h : KU kb s w) {i : Nat} (hi : i < s.m) {v : Int} (hv : -1 ≤ v ∧ v < s.m) : KU kb { s with k := { s.k with nx := s.k.nx.set i v } } (w.setCell ⟨s.nb, i * 2, none⟩ (.int .i64 v)) := by
 obtain ⟨c, h1, h2, h3⟩ := h.n
 have hw := h.wf
 refine ⟨⟨by simpa using hw.n1, by simpa using hw.n2, by simpa using hw.n3, fun x hx => ?_, by simpa using hw.hd, by simpa using hw.fr, hw.tg⟩, ?_, c.setIfInBounds (i * 2) (.int .i64 v), ?_, by simpa [KS.m] using h2, fun j hj => ?_⟩
 ·simp only [List.length_set]
  rcases List.mem_or_eq_of_mem_set hx with h | h
  ·exact hw.nx x h
  ·rw [h]; exact hv
 ·rw [heap_setCell_ne _ _ _ (Ne.symm h.ne), h.o]; simp [KS.m]
 ·rw [heap_setCell_eq h1]
 ·have hj : j < s.m := by simpa [KS.m] using hj
  obtain ⟨e1, e2⟩ := h3 j hj
  have hb : i * 2 < c.size := by omega
  refine ⟨?_, ?_⟩
  ·rw [getD_set hi]
   by_cases e : i = j
   ·subst e; simp [hb]
   ·rw [Array.getElem?_setIfInBounds_ne (by omega), e1, if_neg e]
  ·rw [Array.getElem?_setIfInBounds_ne (by omega)]; exact e2
theorem KU.setVl (h : KU kb s w) {i : Nat} (hi : i < s.m) {v : Int} : KU kb { s with k := { s.k with vl := s.k.vl.set i v } } (w.setCell ⟨s.nb, i * 2 + 1, none⟩ (.int .i64 v)) := by
 obtain ⟨c, h1, h2, h3⟩ := h.n
 have hw := h.wf
 have hi' : i < s.k.vl.length := by rw [← hw.n1]; exact hi
 refine ⟨⟨by simpa using hw.n1, hw.n2, hw.n3, hw.nx, hw.hd, hw.fr, hw.tg⟩, ?_, c.setIfInBounds (i * 2 + 1) (.int .i64 v), ?_, by simpa [KS.m] using h2, fun j hj => ?_⟩
 ·rw [heap_setCell_ne _ _ _ (Ne.symm h.ne), h.o]
 ·rw [heap_setCell_eq h1]
 ·obtain ⟨e1, e2⟩ := h3 j hj
  have hb : i * 2 + 1 < c.size := by have := h2; have : i < s.m := hi; omega
  refine ⟨?_, ?_⟩
  ·rw [Array.getElem?_setIfInBounds_ne (by omega)]; exact e1
  ·rw [getD_set hi']
   by_cases e : i = j
   ·subst e; simp [hb]
   ·rw [Array.getElem?_setIfInBounds_ne (by omega), e2, if_neg e]
theorem pk_eq (h : KWf s.k) {n t : Int} (ht : 0 ≤ t ∧ t < 2147483648) : (pk s.k.hd == pk (n, t)) = decide (s.k.hd = (n, t)) ∧ (pk s.k.fr == pk (n, t)) = decide (s.k.fr = (n, t)) := by
 have key : ∀ x : Int × Int, 0 ≤ x.2 ∧ x.2 < 2147483648 → (pk x == pk (n, t)) = decide (x = (n, t)) := fun x hx => by
  by_cases e : x = (n, t)
  ·subst e; simp
  ·rw [decide_eq_false e]
   simp only [beq_eq_false_iff_ne, ne_eq]
   exact fun e2 => e (pk_inj hx ht e2)
 exact ⟨key _ h.hd.2.2, key _ h.fr.2.2⟩
theorem tag_ok (tg : Bool) (t : Int) : (0 ≤ tagOf tg t ∧ tagOf tg t < 2147483648) ∧ (tg = false → tagOf tg t = 0) := by
 unfold tagOf
 cases tg with
 | true => simp; omega
 | false => simp
end
theorem step_len (s : KSt) (c : KCl) : (s.step c).1.nx.length = s.nx.length := by
 unfold KSt.step
 repeat' split
 all_goals simp
end
section
variable {w w' : World} {kb : Nat}
theorem ldU_calls {b o : Nat} {v : Int} (hc : w.cell? ⟨b, o, none⟩ = some (.int .u64 v)) :
 Calls Try.prog 76 #[.pointer (some ⟨b, o, none⟩)] w fun e w' => e = .returned (.int .u64 v) ∧ w' = w := by
 have hl := run_call_load (P := Try.prog) Try.func97 (by kernel_rfl) (by kernel_rfl) (by kernel_rfl) .u64 (by kernel_rfl) hc
 go_enter Try.func76, Try.ntmps76
 go_wp2
 go_ret
 exact ⟨rfl, rfl⟩
theorem ldI_calls {b o : Nat} {v : Int} (hc : w.cell? ⟨b, o, none⟩ = some (.int .i64 v)) :
 Calls Try.prog 54 #[.pointer (some ⟨b, o, none⟩)] w fun e w' => e = .returned (.int .i64 v) ∧ w' = w := by
 have hl := run_call_load (P := Try.prog) Try.func88 (by kernel_rfl) (by kernel_rfl) (by kernel_rfl) .i64 (by kernel_rfl) hc
 go_enter Try.func54, Try.ntmps54
 go_wp2
 go_ret
 exact ⟨rfl, rfl⟩
theorem stI_calls {b o : Nat} {u : Value} {v : Int} (hc : w.cell? ⟨b, o, none⟩ = some u) (hz : w.frozen? ⟨b, o, none⟩ = false) :
 Calls Try.prog 52 #[.pointer (some ⟨b, o, none⟩), .int .i64 v] w fun e w' => e = .returned (.tuple #[]) ∧ w' = w.setCell ⟨b, o, none⟩ (.int .i64 v) := by
 have hl := run_call_store (P := Try.prog) Try.func87 (by kernel_rfl) (by kernel_rfl) (by kernel_rfl) (by kernel_rfl) (k := .i64) (y := v) hc hz
 go_enter Try.func52, Try.ntmps52
 go_wp2
 go_end0
 exact ⟨rfl, rfl⟩
theorem stU_calls {b o : Nat} {u : Value} {v : Int} (hc : w.cell? ⟨b, o, none⟩ = some u) (hz : w.frozen? ⟨b, o, none⟩ = false) :
 Calls Try.prog 74 #[.pointer (some ⟨b, o, none⟩), .int .u64 v] w fun e w' => e = .returned (.tuple #[]) ∧ w' = w.setCell ⟨b, o, none⟩ (.int .u64 v) := by
 have hl := run_call_store (P := Try.prog) Try.func96 (by kernel_rfl) (by kernel_rfl) (by kernel_rfl) (by kernel_rfl) (k := .u64) (y := v) hc hz
 go_enter Try.func74, Try.ntmps74
 go_wp2
 go_end0
 exact ⟨rfl, rfl⟩
theorem of_calls {n t : Int} (hn : -1 ≤ n ∧ n < 65536) (ht : 0 ≤ t ∧ t < 2147483648) :
 Calls Try.prog 77 #[.int .u64 (pk (n, t))] w fun e w' => e = .returned (.int .i64 n) ∧ w' = w := by
 have e1 : pk (n, t) / 4294967296 = n + 1 := by unfold pk; simp only; omega
 have e2 : IntKind.i64.wrap (n + 1) = n + 1 := IntWalk.i64_in _ (by omega)
 have e3 : IntKind.i64.wrap n = n := IntWalk.i64_in _ (by omega)
 have e4 : IntKind.i64.wrap (n + 1 - 1) = n := by rw [Int.add_sub_cancel]; exact e3
 go_enter Try.func77, Try.ntmps77
 go_wp2
 go_ret
 exact ⟨rfl, rfl⟩
theorem packed_calls {n t : Int} (hn : -1 ≤ n ∧ n < 65536) (ht : 0 ≤ t ∧ t < 2147483648) :
 Calls Try.prog 75 #[.int .i64 n, .int .u64 t] w fun e w' => e = .returned (.int .u64 (pk (n, t))) ∧ w' = w := by
 have e1 : IntKind.i64.wrap (n + 1) = n + 1 := IntWalk.i64_in _ (by omega)
 have e2 : IntKind.u64.wrap (n + 1) = n + 1 := wraps63 _ (by omega) (by omega)
 have e3 : IntKind.u64.wrap ((n + 1) * 4294967296) = (n + 1) * 4294967296 := wraps63 _ (by omega) (by omega)
 have e4 : bits .or .u64 ((n + 1) * 4294967296) t = (n + 1) * 4294967296 + t := pk_or (by omega) (by omega) ht.1 ht.2
 go_enter Try.func75, Try.ntmps75
 go_wp2
 go_ret
 exact ⟨rfl, rfl⟩
end
section
variable {w w' : World} {kb : Nat}
theorem KU.hn {s : KS} (h : KU kb s w) : ((-1 ≤ s.k.hd.1 ∧ s.k.hd.1 < 65536) ∧ 0 ≤ s.k.hd.2 ∧ s.k.hd.2 < 2147483648) ∧ (-1 ≤ s.k.fr.1 ∧ s.k.fr.1 < 65536) ∧ 0 ≤ s.k.fr.2 ∧ s.k.fr.2 < 2147483648 := by
 obtain ⟨a1, a2, a3, a4⟩ := h.wf.hd
 obtain ⟨b1, b2, b3, b4⟩ := h.wf.fr
 have hm := h.wf.n3
 exact ⟨⟨⟨a1, by omega⟩, a3, a4⟩, ⟨b1, by omega⟩, b3, b4⟩
theorem KU.heap {s : KS} (h : KU kb s w) (e : w'.heap = w.heap) : KU kb s w' := h.same fun r _ => by rw [e]
theorem heads_callsB {s : KS} (hU : KU kb s w) :
 CallsB Try.prog Try.f38 #[.pointer (some ⟨kb, 0, none⟩)] w fun e w' => e = (.tuple #[.int .i64 s.k.hd.1, .int .i64 s.k.hd.2, .int .i64 s.k.fr.1, .int .i64 s.k.fr.2]) ∧ w'.heap = w.heap := by
 obtain ⟨⟨⟨hn, h2⟩, ht⟩, ⟨fn, f2⟩, ft⟩ := hU.hn
 obtain ⟨⟨nx, vl, ⟨n, t⟩, ⟨f, u⟩, tg⟩, nb⟩ := s
 simp only at hn h2 ht fn f2 ft
 have c0 := hU.c0
 have c1 := hU.c1
 simp only at c0 c1
 have m1 : bits .and .u64 (pk (n, t)) 2147483647 = t := pk_mask (by omega) (by omega) ht.1 ht.2
 have m2 : bits .and .u64 (pk (f, u)) 2147483647 = u := pk_mask (by omega) (by omega) ft.1 ft.2
 have w1 : IntKind.i64.wrap t = t := IntWalk.i64_in _ (by omega)
 have w2 : IntKind.i64.wrap u = u := IntWalk.i64_in _ (by omega)
 have H : Aside (∀ m, Calls Try.prog 76 #[.pointer (some ⟨kb, 0, none⟩)] (w.drewN m) fun e w' => e = .returned (.int .u64 (pk (n, t))) ∧ w' = w.drewN m) := fun m => ldU_calls ((World.cell?_drewN w m _).trans c0)
 have H1 : Aside (∀ m, Calls Try.prog 76 #[.pointer (some ⟨kb, 1, none⟩)] (w.drewN m) fun e w' => e = .returned (.int .u64 (pk (f, u))) ∧ w' = w.drewN m) := fun m => ldU_calls ((World.cell?_drewN w m _).trans c1)
 have O : Aside (∀ W, Calls Try.prog 77 #[.int .u64 (pk (n, t))] W fun e w' => e = .returned (.int .i64 n) ∧ w' = W) := fun W => of_calls ⟨hn, h2⟩ ht
 have O1 : Aside (∀ W, Calls Try.prog 77 #[.int .u64 (pk (f, u))] W fun e w' => e = .returned (.int .i64 f) ∧ w' = W) := fun W => of_calls ⟨fn, f2⟩ ft
 clear hU c0 c1 hn h2 ht fn f2 ft
 refine callsB_of rfl ?_
 simp only [Try.ntmps38, List.size_toArray, List.length_cons, List.length_nil, Nat.reduceAdd, Nat.reduceSub, Array.replicate_succ, Array.replicate_zero, List.push_toArray, List.append_toArray, List.nil_append, List.cons_append]
 go_wp2
 go_quiet (first | (go_at_call 76; exact Calls.quiet_of_same (H.out _)) | (go_at_call 76; exact Calls.quiet_of_same (H1.out _)))
 go_wp2_with (first
  | (go_at_call 77; refine (O.out _).mono ?_; rintro e w' ⟨rfl, rfl⟩)
  | (go_at_call 77; refine (O1.out _).mono ?_; rintro e w' ⟨rfl, rfl⟩))
 exact bodyPost_ret (v := .tuple #[.int .i64 n, .int .i64 t, .int .i64 f, .int .i64 u]) (by simp [results, Try.f38, go_sem]) rfl ⟨_, rfl, rfl, rfl⟩
theorem heads_calls {s : KS} (hU : KU kb s w) :
 Calls Try.prog 38 #[.pointer (some ⟨kb, 0, none⟩)] w fun e w' => e = .returned (.tuple #[.int .i64 s.k.hd.1, .int .i64 s.k.hd.2, .int .i64 s.k.fr.1, .int .i64 s.k.fr.2]) ∧ w'.heap = w.heap :=
 ((heads_callsB hU).calls Try.func38 rfl).mono (by rintro e u ⟨v, rfl, rfl, h⟩; exact ⟨rfl, h⟩)
def KSt.walk (s : KSt) : Nat → Int → List Int
 | 0, _ => []
 | f + 1, i => if i < 0 then [] else s.val i :: s.walk f (s.nxt i)
theorem walk_succ (s : KSt) (f : Nat) (i : Int) : s.walk (f + 1) i = if i < 0 then [] else s.val i :: s.walk f (s.nxt i) := rfl
def KSt.vals (s : KSt) : List Int := s.walk s.nx.length s.hd.1
theorem walk_len (s : KSt) : ∀ f i, (s.walk f i).length ≤ f
 | 0, _ => Nat.le_refl _
 | f + 1, i => by
   unfold KSt.walk
   split
   ·exact Nat.zero_le _
   ·simp only [List.length_cons]
    have := walk_len s f (s.nxt i)
    omega
def Walks (s : KSt) (f : Nat) (i : Int) (d : List Int) : Prop := s.vals = d ++ s.walk f i ∧ d.length + f = s.nx.length ∧ -1 ≤ i ∧ i < s.nx.length
theorem values_calls {s : KS} (hU : KU kb s w) :
 Calls Try.prog 39 #[.pointer (some ⟨kb, 0, none⟩)] w fun x w' => ∃ ov, x = .returned ov ∧ ValsAt w w' ov s.k.vals ∧ (s.k.vals = [] → ov = .slice none 0 0) := by
 obtain ⟨i0, z0, hi, hz0, hz1, hz2, hz3⟩ := infoA2
 obtain ⟨⟨⟨hn, h2⟩, ht⟩, _⟩ := hU.hn
 have A : Aside (KU kb s w) := hU
 have c0 := hU.c0
 have c2 := hU.c2.c2
 have hw : s.k.hd = (s.k.hd.1, s.k.hd.2) := rfl
 rw [hw] at c0
 have W0 : Aside (Walks s.k s.m s.k.hd.1 []) := ⟨rfl, by simp, hn, hU.wf.hd.2.1⟩
 have O : Aside (∀ W, Calls Try.prog 77 #[.int .u64 (pk (s.k.hd.1, s.k.hd.2))] W fun e w' => e = .returned (.int .i64 s.k.hd.1) ∧ w' = W) := fun W => of_calls ⟨hn, h2⟩ ht
 have L : Aside (Calls Try.prog 76 #[.pointer (some ⟨kb, 0, none⟩)] w fun e w' => e = .returned (.int .u64 (pk (s.k.hd.1, s.k.hd.2))) ∧ w' = w) := ldU_calls c0
 have hm : s.m ≤ 65536 := hU.wf.n3
 clear hU hn h2 ht hw c0
 go_enter Try.func39, Try.ntmps39
 go_wp2_with (first
  | (go_at_call 76; refine L.out.mono ?_; rintro e w ⟨rfl, rfl⟩)
  | (go_at_call 77; refine (O.out _).mono ?_; rintro e w ⟨rfl, rfl⟩))
 clear L O
 go_loopg [3, 4] s.m (fun g n i wr => ∃ (d : List Int) (k : Int) (f : Nat) (oa : Option Addr) (oc : Nat), n = .slice oa d.length oc ∧ i = .int .i64 k ∧ Walks s.k f k d ∧ g = f ∧ ValsAt w wr (.slice oa d.length oc) d ∧ (d = [] → Value.slice oa d.length oc = .slice none 0 0))
 case atStart => exact ⟨[], _, _, none, 0, rfl, rfl, W0.out, rfl, ⟨⟨rfl, .inl ⟨rfl, rfl⟩⟩, Nat.le_refl _, fun r _ => rfl, fun g h => by cases h⟩, fun _ => rfl⟩
 case round =>
  obtain ⟨d, k, f, oa, oc, rfl, rfl, ⟨hv, hl, k1, k2⟩, hgf, hV, hnil⟩ := hrel
  clear c2
  have hU := A.out.same (w' := wr) (fun r hr => hV.old _ (A.out.low hr))
  have c2 := hU.c2.c2
  have hmm : s.m = s.k.nx.length := rfl
  by_cases hneg : k < 0
  ·have hn0 : ¬ (0 : Int) ≤ k := by omega
   have e : s.k.walk f k = [] := by
    cases f with
    | zero => rfl
    | succ f => unfold KSt.walk; rw [if_pos hneg]
   rw [e, List.append_nil] at hv
   have V : Aside (s.k.vals = d ∧ ValsAt w wr (.slice oa d.length oc) d ∧ (d = [] → Value.slice oa d.length oc = .slice none 0 0)) := ⟨hv, hV, hnil⟩
   clear hnil hU hV hv hl hmm
   go_wp2
   go_ret
   rw [V.out.1]
   exact ⟨_, rfl, V.out.2⟩
  ·have hn0 : (0 : Int) ≤ k := by omega
   cases f with
   | zero =>
     have e : d.length = s.m := by omega
     have hlt : ¬ (d.length : Int) < (s.m : Int) := by omega
     rw [show s.k.walk 0 k = [] from rfl, List.append_nil] at hv
     have V : Aside (s.k.vals = d ∧ ValsAt w wr (.slice oa d.length oc) d ∧ (d = [] → Value.slice oa d.length oc = .slice none 0 0)) := ⟨hv, hV, hnil⟩
     clear hnil hU hV hv e hl hmm
     go_wp2
     go_ret
     rw [V.out.1]
     exact ⟨_, rfl, V.out.2⟩
   | succ f =>
     obtain ⟨i, rfl⟩ : ∃ i : Nat, k = i := ⟨k.toNat, by omega⟩
     have him : i < s.m := by omega
     have hlt : (d.length : Int) < (s.m : Int) := by omega
     obtain ⟨n1, n2, n3⟩ := hU.nc him
     have hrow := hV.row
     have hsz := hV.size
     have V : Aside (Walks s.k f (s.k.nx.getD i 0) (d ++ [s.k.vl.getD i 0]) ∧ ValsAt w wr (.slice oa d.length oc) d ∧ KU kb s wr) := by
      refine ⟨⟨?_, by simp; omega, ?_⟩, hV, hU⟩
      ·rw [hv, walk_succ, if_neg hneg]
       simp [KSt.val, KSt.nxt]
      ·have hwf := hU.wf
       have h2 := hwf.n2
       rw [List.getD_eq_getElem?_getD, List.getElem?_eq_getElem (show i < s.k.nx.length from him)]
       exact hwf.nx _ (List.getElem_mem _)
     have L : Aside (∀ W : World, W.heap = wr.heap → Calls Try.prog 54 #[.pointer (some ⟨s.nb, i * 2 + 1, none⟩)] W fun e w' => e = .returned (.int .i64 (s.k.vl.getD i 0)) ∧ w' = W) := fun W e => ldI_calls (by simpa only [World.cell?, e] using n2)
     have hd2 : d.length < 65536 := by omega
     obtain ⟨cur, hnb, _⟩ := hU.n
     have ho := hU.o
     clear hnil hU hV hv n3 hl hmm
     generalize hvv : s.k.vl.getD i 0 = vv at L V n2
     generalize hxx : s.k.nx.getD i 0 = xx at V n1
     go_wp2_with (first
      | (go_at_call 54; refine (L.out _ rfl).mono ?_; rintro e wr ⟨rfl, rfl⟩)
      | (at_builtin; refine wpList_append_fresh rfl (.tmp 32) (.tmp 41) 22 rfl 2 i0 z0 1 8 Try.underlying22 hi hz0 hz1 hz2 hz3 (by decide) (.slice oa d.length oc) d.length (d.map fun v => .int .i64 v) rfl ?c0 ⟨wr.heap.size, 0, none⟩ 1 1 [.int .i64 vv] rfl rfl ?c1 ?c2 ?c3 ?c4 ?_))
     case c0 => exact World.ownsRow.alloc hrow _
     case c1 => exact new_cells (X := wr) (l := [.int .i64 vv]) rfl
     case c2 => intro u hu; simp at hu; subst hu; rfl
     case c3 => unfold maxLen; omega
     case c4 => omega
     ·intro v' w1 hown hgrow hfr
      obtain ⟨g, cap, rfl⟩ := own_slice hown
      have hkk : w1.heap[kb]? = wr.heap[kb]? := grown_old hgrow (V.out.2.2.low (.inl rfl)) (own_type V.out.2.1.row ho (by decide))
      have hkn : w1.heap[s.nb]? = wr.heap[s.nb]? := grown_old hgrow (V.out.2.2.low (.inr rfl)) (own_type V.out.2.1.row hnb (by decide))
      have q2 := (cell_heap (j := 2) hkk).1.trans c2
      have q1 := (cell_heap (j := i * 2) hkn).1.trans n1
      have hold : ∀ r, r < w.heap.size → w1.heap[r]? = wr.heap[r]? := fun r hr => by
       refine grown_old hgrow (by omega) fun e => ?_
       have := V.out.2.1.new r e.symm
       omega
      have hgs := hgrow.size
      simp only [World.size_alloc] at hgs
      have F : Aside (w1.ownsRow 0 2 1 (.slice (some ⟨g, 0, none⟩) (d.length + 1) cap) (d.length + 1) ((d.map (fun v => .int .i64 v)) ++ [.int .i64 vv]) ∧ (∀ r, r < w.heap.size → w1.heap[r]? = wr.heap[r]?) ∧ wr.heap.size ≤ w1.heap.size ∧ ((Value.slice (some ⟨g, 0, none⟩) (d.length + 1) cap).ownBlock = (Value.slice oa d.length oc).ownBlock ∨ ∃ g', (Value.slice (some ⟨g, 0, none⟩) (d.length + 1) cap).ownBlock = some g' ∧ wr.heap.size ≤ g')) :=
       ⟨hown, hold, by omega, hfr.imp id fun ⟨g', h1, h2⟩ => ⟨g', h1, by omega⟩⟩
      have L2 : Aside (Calls Try.prog 54 #[.pointer (some ⟨s.nb, i * 2, none⟩)] w1 fun e w' => e = .returned (.int .i64 xx) ∧ w' = w1) := ldI_calls q1
      clear hown hgrow hfr hkk hkn hold hgs hnb ho hrow c2 n1 n2 q1
      go_wp2_with (go_at_call 54; refine L2.out.mono ?_; rintro e w1 ⟨rfl, rfl⟩)
      go_roundg f
      case measure => omega
      case rel =>
       obtain ⟨v1, v2, v3⟩ := V.out
       obtain ⟨f1, f2, f3, f4⟩ := F.out
       have e1 : (d ++ [vv]).length = d.length + 1 := by simp
       refine ⟨d ++ [vv], xx, f, some ⟨g, 0, none⟩, cap, by rw [e1], rfl, v1, rfl, ⟨?_, by have := v2.size; omega, fun r hr => (f2 r hr).trans (v2.old r hr), fun g' hg => ?_⟩, fun h => by simp at h⟩
       ·rw [e1]
        simpa using f1
       ·rw [e1] at hg
        rcases f4 with h | ⟨g2, h, h2⟩
        ·exact v2.new g' (h ▸ hg)
        ·rw [h] at hg; cases hg
         have := v2.size; omega
theorem ValsAt.more {w u w1 : World} {ov : Value} {xs ys : List Int} (h : ValsAt w u ov xs) {v' : Value} (hown : w1.ownsRow 0 2 1 v' (xs.length + ys.length) ((xs.map fun v => .int .i64 v) ++ ys.map fun v => .int .i64 v)) (hg : u.grownBy w1 ov.ownBlock) (hf : v'.ownBlock = ov.ownBlock ∨ ∃ g, v'.ownBlock = some g ∧ u.heap.size ≤ g) : ValsAt w w1 v' (xs ++ ys) := by
 refine ⟨by simpa using hown, by have := h.size; have := hg.size; omega, fun r hr => ?_, fun g hgv => ?_⟩
 ·have hsz := h.size
  refine (hg.block r (by omega) fun e => ?_).trans (h.old r hr)
  have := h.new r e.symm
  omega
 ·rcases hf with e | ⟨g', e, h2⟩
  ·exact h.new g (e ▸ hgv)
  ·rw [e] at hgv
   cases hgv
   have := h.size
   omega
theorem ValsAt.later {w u w1 : World} {ov ov' : Value} {xs ys : List Int} (h : ValsAt w u ov xs) (h2 : ValsAt u w1 ov' ys) : ValsAt w w1 ov xs := by
 refine ⟨ownsRow_same2 h.row fun b hb _ => h2.old b ?_, Nat.le_trans h.size h2.size, fun r hr => (h2.old r (Nat.lt_of_lt_of_le hr h.size)).trans (h.old r hr), h.new⟩
 rcases h.row.2 with ⟨rfl, _⟩ | ⟨g, cap, cur, rfl, _, h3, _⟩
 ·cases hb
 ·cases hb
  exact (alt h3)
theorem state_callsB {s : KS} (hU : KU kb s w) :
 CallsB Try.prog Try.f65 #[.pointer (some ⟨kb, 0, none⟩)] w fun ov w' => ValsAt w w' ov ([s.k.hd.1, s.k.hd.2, s.k.fr.1, s.k.fr.2] ++ s.k.vals) := by
 obtain ⟨i0, z0, hi, hz0, hz1, hz2, hz3⟩ := infoA2
 have A : Aside (KU kb s w) := hU
 have hvl : s.k.vals.length ≤ 65536 := Nat.le_trans (walk_len _ _ _) hU.wf.n3
 have VV : Aside (∀ W, KU kb s W → Calls Try.prog 39 #[.pointer (some ⟨kb, 0, none⟩)] W fun x w' => ∃ ov, x = .returned ov ∧ ValsAt W w' ov s.k.vals ∧ (s.k.vals = [] → ov = .slice none 0 0)) := fun W h => values_calls h
 have H : Aside (Calls Try.prog 38 #[.pointer (some ⟨kb, 0, none⟩)] w fun e w' => e = .returned (.tuple #[.int .i64 s.k.hd.1, .int .i64 s.k.hd.2, .int .i64 s.k.fr.1, .int .i64 s.k.fr.2]) ∧ w'.heap = w.heap) := heads_calls hU
 clear hU
 generalize s.k.hd.1 = x1 at H ⊢
 generalize s.k.hd.2 = x2 at H ⊢
 generalize s.k.fr.1 = x3 at H ⊢
 generalize s.k.fr.2 = x4 at H ⊢
 generalize s.k.vals = vv at VV hvl ⊢
 have key : ∀ w1 : World, w1.heap = w.heap → ValsAt w (w1.alloc (.cells #[.int .i64 x1, .int .i64 x2, .int .i64 x3, .int .i64 x4] 2)) (.slice (some ⟨w1.heap.size, 0, none⟩) 4 4) [x1, x2, x3, x4] ∧ KU kb s (w1.alloc (.cells #[.int .i64 x1, .int .i64 x2, .int .i64 x3, .int .i64 x4] 2)) := fun w1 hw1 => by
  have es : w1.heap.size = w.heap.size := by rw [hw1]
  refine ⟨⟨⟨rfl, .inr ⟨w1.heap.size, 4, _, rfl, Nat.zero_le _, heap_alloc_new _ _, by simp, by unfold maxLen; omega, by simp, by simp⟩⟩, by simp; omega, fun r hr => (heap_alloc_lt _ _ (by omega)).trans (by rw [hw1]), fun g hg => ?_⟩, (A.out.heap hw1).same fun r hr => heap_alloc_lt _ _ ((A.out.heap hw1).low hr)⟩
  simp only [Value.ownBlock, Option.some.injEq] at hg
  omega
 have KEY : Aside (∀ w1 : World, w1.heap = w.heap → ValsAt w (w1.alloc (.cells #[.int .i64 x1, .int .i64 x2, .int .i64 x3, .int .i64 x4] 2)) (.slice (some ⟨w1.heap.size, 0, none⟩) 4 4) [x1, x2, x3, x4] ∧ KU kb s (w1.alloc (.cells #[.int .i64 x1, .int .i64 x2, .int .i64 x3, .int .i64 x4] 2))) := key
 clear key A
 by_cases hnn : vv = []
 ·subst hnn
  have V1 : Aside (∀ W, KU kb s W → Calls Try.prog 39 #[.pointer (some ⟨kb, 0, none⟩)] W fun x w' => x = .returned (.slice none 0 0) ∧ ValsAt W w' (.slice none 0 0) []) := fun W h => (VV.out W h).mono (by rintro e w2 ⟨ov, rfl, h1, h2⟩; obtain rfl := h2 rfl; exact ⟨rfl, h1⟩)
  clear VV
  refine callsB_of rfl ?_
  simp only [Try.ntmps65, List.size_toArray, List.length_cons, List.length_nil, Nat.reduceAdd, Nat.reduceSub, Array.replicate_succ, Array.replicate_zero, List.push_toArray, List.append_toArray, List.nil_append, List.cons_append]
  go_wp2_with (first
   | (go_at_call 38; refine H.out.mono ?_; rintro e w1 ⟨rfl, hw1⟩; have W1 : Aside (w1.heap = w.heap) := hw1; clear hw1)
   | (go_at_call 39; refine (V1.out _ (KEY.out _ W1.out).2).mono ?_; rintro e w2 ⟨rfl, hV⟩; have R1 : Aside (ValsAt w w2 (.slice (some ⟨w1.heap.size, 0, none⟩) 4 4) [x1, x2, x3, x4]) := (KEY.out _ W1.out).1.later hV; clear hV)
   | (at_builtin; refine wpList_append_own_none rfl _ _ _ rfl 0 2 i0 1 Try.underlying22 hi (.slice (some ⟨w1.heap.size, 0, none⟩) 4 4) 4 _ rfl R1.out.row rfl ?_))
  go_ret
  exact ⟨_, rfl, R1.out⟩
 ·have hpos : 0 < vv.length := List.length_pos_iff.2 hnn
  have V1 : Aside (∀ W, KU kb s W → Calls Try.prog 39 #[.pointer (some ⟨kb, 0, none⟩)] W fun x w' => ∃ g cap, x = .returned (.slice (some ⟨g, 0, none⟩) vv.length cap) ∧ ValsAt W w' (.slice (some ⟨g, 0, none⟩) vv.length cap) vv) := fun W h => (VV.out W h).mono (by
   rintro e w2 ⟨ov, rfl, h1, h2⟩
   rcases h1.row.2 with ⟨_, h⟩ | ⟨g, cap, _, rfl, _⟩
   ·omega
   ·exact ⟨g, cap, rfl, h1⟩)
  clear VV hnn
  refine callsB_of rfl ?_
  simp only [Try.ntmps65, List.size_toArray, List.length_cons, List.length_nil, Nat.reduceAdd, Nat.reduceSub, Array.replicate_succ, Array.replicate_zero, List.push_toArray, List.append_toArray, List.nil_append, List.cons_append]
  go_wp2_with (first
   | (go_at_call 38; refine H.out.mono ?_; rintro e w1 ⟨rfl, hw1⟩; have W1 : Aside (w1.heap = w.heap) := hw1; clear hw1)
   | (go_at_call 39; refine (V1.out _ (KEY.out _ W1.out).2).mono ?_; rintro e w2 ⟨g, cap, rfl, hV⟩; have R1 : Aside (ValsAt w w2 (.slice (some ⟨w1.heap.size, 0, none⟩) 4 4) [x1, x2, x3, x4]) := (KEY.out _ W1.out).1.later hV; have D : Aside (w2.ownsRow 0 2 1 (.slice (some ⟨g, 0, none⟩) vv.length cap) vv.length (vv.map fun v => .int .i64 v)) := hV.row; clear hV)
   | (at_builtin; refine wpList_append_fresh rfl (.tmp 18) (.tmp 20) 22 rfl 2 i0 z0 1 8 Try.underlying22 hi hz0 hz1 hz2 hz3 (by decide) (.slice (some ⟨w1.heap.size, 0, none⟩) 4 4) 4 ([x1, x2, x3, x4].map fun v => .int .i64 v) rfl R1.out.row ⟨g, 0, none⟩ vv.length cap (vv.map fun v => .int .i64 v) rfl (by simp) (row_cells D.out) (by intro u hu; obtain ⟨x, _, rfl⟩ := List.mem_map.1 hu; rfl) (by unfold maxLen; omega) (by omega) ?_; intro v' w3 hown hgrow hfr; have Z : Aside (ValsAt w w3 v' ([x1, x2, x3, x4] ++ vv)) := R1.out.more hown hgrow hfr; clear hown hgrow hfr))
  go_ret
  exact ⟨_, rfl, Z.out⟩
end
section
variable {F : Fz} {w w' : World}
theorem not_heldB {b : Nat} (h : F b = none) (k : Nat) : ¬ held F ⟨b, k, none⟩ := by
 rintro ⟨z, hz, _⟩
 rw [h] at hz
 cases hz
theorem ansW_same {ab : Nat} {b : Bool} {n : Int} {r : Nat} (hr : r ≠ ab) : (ansW w ab b n).heap[r]? = w.heap[r]? := by
 unfold ansW
 rw [heap_setCell_ne _ _ _ hr, heap_setCell_ne _ _ _ hr, heap_setCell_ne _ _ _ hr]
theorem plain_base {f : FuncId} (h : ∃ fn, Try.prog.funcs[f]? = some fn) (A : Array Value) (k : List Item) : Plain ((Go.Conc.base f).at ⟨A, []⟩ k) := ⟨rfl, rfl, h⟩
theorem size2 (w : World) (a b : Obj) : ((w.alloc a).alloc b).heap.size = w.heap.size + 2 := by simp
theorem old2 (w : World) (a b : Obj) {r : Nat} (h : r < w.heap.size) : ((w.alloc a).alloc b).heap[r]? = w.heap[r]? := by
 rw [heap_alloc_lt _ _ (by simp; omega), heap_alloc_lt _ _ h]
theorem new2 (w : World) (a : Obj) (c : Array Value) (t : TypeId) : ((w.alloc a).alloc (.cells c t)).heap[w.heap.size + 1]? = some (.cells c t (0, 0)) := by
 have := heap_alloc_new (w.alloc a) (.cells c t)
 simpa using this
end
section
variable {w w' : World} {kb : Nat}
def knew (n : Nat) (tg : Bool) : KSt := ⟨(List.range n).map fun i => if i + 1 = n then -1 else ((i + 1 : Nat) : Int), List.replicate n 0, (-1, 0), (0, 0), tg⟩
theorem info129 : ∃ i, Try.prog.info? 129 = some i ∧ i.zero = some (.agg #[.int .i64 0, .int .i64 0]) ∧ i.size = 2 ∧ i.bytes = 16 := by
 obtain ⟨i, hi, h⟩ := Option.map_eq_some_iff.1 (show (Try.prog.info? 129).map (fun i => (i.zero, i.size, i.bytes)) = some (some (.agg #[.int .i64 0, .int .i64 0]), 2, 16) by kernel_rfl)
 simp only [Prod.mk.injEq] at h
 exact ⟨i, hi, h.1, h.2.1, h.2.2⟩
theorem mk90 {n : Nat} (hn : n ≤ 65536) (w : World) : (Instr.makeSlice 90 (.int .i64 n) (.int .i64 n)).run Try.prog w = .ok (.slice (some ⟨w.heap.size, 0, none⟩) n n) (w.alloc (.cells (madeCells #[.int .i64 0, .int .i64 0] (n * 2)) 129)) := by
 obtain ⟨i, hi, hz, hs, hb⟩ := info129
 have := run_make (P := Try.prog) w 90 129 i _ Try.underlying90 hi hz .i64 .i64 n n (by omega) (by omega) (by rw [hb]; omega) (by omega)
 rw [hs] at this
 simpa [Value.cells] using this
theorem made_get (n k : Nat) (h : k < n * 2) : (madeCells #[.int .i64 0, .int .i64 0] (n * 2))[k]? = some (.int .i64 0) := by
 simp only [madeCells, Array.getElem?_map, Array.getElem?_range]
 rw [if_pos h]
 have : k % 2 = 0 ∨ k % 2 = 1 := by omega
 rcases this with e | e <;> simp [e]
structure KMk (w : World) (n k : Nat) (tg : Bool) (wr : World) : Prop where
 o : wr.heap[w.heap.size + 1]? = some (.cells #[.int .u64 0, .int .u64 0, .slice (some ⟨w.heap.size, 0, none⟩) n n, .bool tg] 92 (0, 0))
 n : ∃ c, wr.heap[w.heap.size]? = some (.cells c 129 (0, 0)) ∧ c.size = n * 2 ∧ ∀ i, i < n → c[i * 2]? = some (.int .i64 (if i < k then ((i + 1 : Nat) : Int) else 0)) ∧ c[i * 2 + 1]? = some (.int .i64 0)
 s : wr.heap.size = w.heap.size + 2
 old : ∀ r, r < w.heap.size → wr.heap[r]? = w.heap[r]?
theorem KMk.next {n k : Nat} {tg : Bool} {wr : World} (h : KMk w n k tg wr) (hk : k < n) : KMk w n (k + 1) tg (wr.setCell ⟨w.heap.size, k * 2, none⟩ (.int .i64 ((k : Int) + 1))) := by
 obtain ⟨c, h1, h2, h3⟩ := h.n
 refine ⟨(heap_setCell_ne _ _ _ (by simp)).trans h.o, ⟨c.setIfInBounds (k * 2) (.int .i64 ((k : Int) + 1)), by rw [heap_setCell_eq h1], by simpa using h2, fun i hi => ?_⟩, by rw [World.size_setCell]; exact h.s, fun r hr => (heap_setCell_ne _ _ _ (by simp only; omega)).trans (h.old r hr)⟩
 obtain ⟨e1, e2⟩ := h3 i hi
 refine ⟨?_, by rw [Array.getElem?_setIfInBounds_ne (by omega)]; exact e2⟩
 by_cases e : k = i
 ·subst e
  rw [Array.getElem?_setIfInBounds_self_of_lt (by omega), if_pos (by omega)]
  simp
 ·rw [Array.getElem?_setIfInBounds_ne (by omega), e1]
  by_cases e2 : i < k
  ·rw [if_pos e2, if_pos (by omega)]
  ·rw [if_neg e2, if_neg (by omega)]
theorem knew_get {n : Nat} {tg : Bool} {i : Nat} (hi : i < n) : (knew n tg).nx.getD i 0 = (if i + 1 = n then -1 else ((i + 1 : Nat) : Int)) ∧ (knew n tg).vl.getD i 0 = 0 := by
 simp [knew, List.getD_eq_getElem?_getD, List.getElem?_map, List.getElem?_range hi, List.getElem?_replicate, hi]
theorem knew_wf {n : Nat} (h0 : 0 < n) (h1 : n ≤ 65536) (tg : Bool) : KWf (knew n tg) := by
 refine ⟨by simp [knew], by simpa [knew] using h0, by simpa [knew] using h1, fun v hv => ?_, ?_, ?_, fun _ => ⟨rfl, rfl⟩⟩
 ·simp only [knew, List.mem_map, List.mem_range] at hv
  obtain ⟨i, hi, rfl⟩ := hv
  simp only [knew, List.length_map, List.length_range]
  split <;> omega
 ·simp [knew]
  omega
 ·simp [knew]
  omega
theorem KMk.done {n : Nat} {tg : Bool} {wr : World} (h : KMk w n n tg wr) (h0 : 0 < n) (h1 : n ≤ 65536) : KU (w.heap.size + 1) ⟨knew n tg, w.heap.size⟩ ((wr.setCell ⟨w.heap.size, (n - 1) * 2, none⟩ (.int .i64 (-1))).setCell ⟨w.heap.size + 1, 1, none⟩ (.int .u64 (pk (0, 0)))) := by
 obtain ⟨c, h1', h2, h3⟩ := h.n
 have hm : (KS.m ⟨knew n tg, w.heap.size⟩) = n := by simp [KS.m, knew]
 refine ⟨knew_wf h0 h1 tg, ?_, c.setIfInBounds ((n - 1) * 2) (.int .i64 (-1)), ?_, by rw [hm]; simpa using h2, fun i hi => ?_⟩
 ·rw [heap_setCell_eq (show (wr.setCell ⟨w.heap.size, (n - 1) * 2, none⟩ (.int .i64 (-1))).heap[w.heap.size + 1]? = _ from (heap_setCell_ne _ _ _ (by simp)).trans h.o), hm]
  rfl
 ·rw [heap_setCell_ne _ _ _ (by simp), heap_setCell_eq h1']
 ·rw [hm] at hi
  obtain ⟨e1, e2⟩ := h3 i hi
  obtain ⟨g1, g2⟩ := knew_get (tg := tg) hi
  refine ⟨?_, ?_⟩
  ·simp only
   rw [g1]
   by_cases e : i + 1 = n
   ·rw [if_pos e, show (n - 1) * 2 = i * 2 by omega, Array.getElem?_setIfInBounds_self_of_lt (by omega)]
   ·rw [if_neg e, Array.getElem?_setIfInBounds_ne (by omega), e1, if_pos hi]
  ·simp only
   rw [g2, Array.getElem?_setIfInBounds_ne (by omega)]
   exact e2
theorem new_callsB {size : Int} {tg : Bool} {n : Nat} (hn : min (max size 1) 65536 = (n : Int)) :
 CallsB Try.prog Try.f36 #[.int .i64 size, .bool tg] w fun x w' => x = .pointer (some ⟨w.heap.size + 1, 0, none⟩) ∧ KU (w.heap.size + 1) ⟨knew n tg, w.heap.size⟩ w' ∧ w.heap.size + 2 ≤ w'.heap.size ∧ ∀ r, r < w.heap.size → w'.heap[r]? = w.heap[r]? := by
 have h0 : 0 < n := by omega
 have h1 : n ≤ 65536 := by omega
 have hmk := mk90 h1 w
 have M0 : Aside (KMk w n 0 tg ((w.alloc (.cells (madeCells #[.int .i64 0, .int .i64 0] (n * 2)) 129)).alloc (.cells #[.int .u64 0, .int .u64 0, .slice (some ⟨w.heap.size, 0, none⟩) n n, .bool tg] 92))) := by
  refine ⟨new2 w _ _ 92, ⟨_, (heap_alloc_lt _ _ (by simp)).trans (heap_alloc_new _ _), size_madeCells _ _, fun i hi => ⟨by rw [if_neg (by omega)]; exact made_get _ _ (by omega), made_get _ _ (by omega)⟩⟩, size2 _ _ _, fun r hr => old2 _ _ _ hr⟩
 obtain ⟨mx, hs1⟩ : ∃ mx : Int, (if size < 1 then (1 : Int) else size) = mx := ⟨_, rfl⟩
 have hs2 : (if (65536 : Int) < mx then (65536 : Int) else mx) = (n : Int) := by
  subst hs1
  by_cases h : size < 1
  ·rw [if_pos h, if_neg (by omega)]; omega
  ·rw [if_neg h]; split <;> omega
 have S : Aside (∀ (W : World) (k : Nat), k < n → KMk w n k tg W → Calls Try.prog 52 #[.pointer (some ⟨w.heap.size, k * 2, none⟩), .int .i64 ((k : Int) + 1)] W fun e w' => e = .returned (.tuple #[]) ∧ KMk w n (k + 1) tg w') := fun W k hk h => by
  obtain ⟨c, c1, c2, c3⟩ := h.n
  obtain ⟨d1, _⟩ := c3 k hk
  refine (stI_calls (u := _) (v := (k : Int) + 1) (by simp only [World.cell?, c1]; simpa using d1) (by simp [World.frozen?, c1])).mono ?_
  rintro e w' ⟨rfl, rfl⟩
  exact ⟨rfl, h.next hk⟩
 have L : Aside (∀ (W : World), KMk w n n tg W → Calls Try.prog 52 #[.pointer (some ⟨w.heap.size, (n - 1) * 2, none⟩), .int .i64 (-1)] W fun e w' => e = .returned (.tuple #[]) ∧ w' = W.setCell ⟨w.heap.size, (n - 1) * 2, none⟩ (.int .i64 (-1))) := fun W h => by
  obtain ⟨c, c1, c2, c3⟩ := h.n
  obtain ⟨d1, _⟩ := c3 (n - 1) (by omega)
  exact stI_calls (u := _) (by simp only [World.cell?, c1]; simpa using d1) (by simp [World.frozen?, c1])
 have N : Aside (0 < n ∧ n ≤ 65536) := ⟨h0, h1⟩
 clear hn h0 h1
 refine callsB_of rfl ?_
 simp only [Try.ntmps36, List.size_toArray, List.length_cons, List.length_nil, Nat.reduceAdd, Nat.reduceSub, Array.replicate_succ, Array.replicate_zero, List.push_toArray, List.append_toArray, List.nil_append, List.cons_append]
 go_wp2
 clear hs1 hs2 hmk
 go_loopg [21] n (fun g i wr => ∃ k : Nat, k ≤ n ∧ i = .int .i64 k ∧ g = n - k ∧ KMk w n k tg wr)
 case atStart => exact ⟨0, Nat.zero_le _, rfl, rfl, M0.out⟩
 case round =>
  obtain ⟨k, hk, rfl, hg, hM⟩ := hrel
  have c2 : wr.cell? ⟨w.heap.size + 1, 2, none⟩ = some (.slice (some ⟨w.heap.size, 0, none⟩) n n) := by simp [World.cell?, hM.o]
  have M : Aside (KMk w n k tg wr) := hM
  clear hM
  rcases Nat.lt_or_ge k n with hlt | hge
  ·have hlt' : (k : Int) < (n : Int) := by omega
   have hwr : IntKind.i64.wrap ((k : Int) + 1) = (k : Int) + 1 := IntWalk.i64_in _ (by have := N.out.2; omega)
   have G : Aside (gk = n - k ∧ k < n) := ⟨hg, hlt⟩
   clear hg hk
   go_wp2_with (go_at_call 52; refine (S.out _ _ G.out.2 M.out).mono ?_; rintro e w1 ⟨rfl, hM1⟩; have M1 : Aside (KMk w n (k + 1) tg w1) := hM1; clear hM1)
   go_roundg (n - (k + 1))
   case measure => have := G.out; omega
   case rel => exact ⟨k + 1, G.out.2, rfl, rfl, M1.out⟩
  ·have e : k = n := by omega
   subst e
   clear hg hk hge
   have hn1 : (k : Int) - 1 = ((k - 1 : Nat) : Int) := by have := N.out.1; omega
   have hwr : IntKind.i64.wrap ((k - 1 : Nat) : Int) = ((k - 1 : Nat) : Int) := IntWalk.i64_in _ (by have := N.out.2; omega)
   have hlt : k - 1 < k := by have := N.out.1; omega
   have PK : Aside (∀ W, Calls Try.prog 75 #[.int .i64 0, .int .u64 0] W fun e w' => e = .returned (.int .u64 (pk (0, 0))) ∧ w' = W) := fun W => packed_calls (by omega) (by omega)
   have ST : Aside (∀ W : World, W.heap = (wr.setCell ⟨w.heap.size, (k - 1) * 2, none⟩ (.int .i64 (-1))).heap → Calls Try.prog 74 #[.pointer (some ⟨w.heap.size + 1, 1, none⟩), .int .u64 (pk (0, 0))] W fun e w' => e = .returned (.tuple #[]) ∧ KU (w.heap.size + 1) ⟨knew k tg, w.heap.size⟩ w' ∧ w.heap.size + 2 ≤ w'.heap.size ∧ ∀ r, r < w.heap.size → w'.heap[r]? = w.heap[r]?) := fun W hW => by
    have ho : W.heap[w.heap.size + 1]? = some (.cells #[.int .u64 0, .int .u64 0, .slice (some ⟨w.heap.size, 0, none⟩) k k, .bool tg] 92 (0, 0)) := by
     rw [hW, heap_setCell_ne _ _ _ (by simp)]; exact M.out.o
    refine (stU_calls (u := _) (v := pk (0, 0)) (show W.cell? ⟨w.heap.size + 1, 1, none⟩ = some (.int .u64 0) by simp [World.cell?, ho]) (by simp [World.frozen?, ho])).mono ?_
    rintro e w' ⟨rfl, rfl⟩
    have hd := M.out.done N.out.1 N.out.2
    refine ⟨rfl, hd.heap ?_, ?_, fun r hr => ?_⟩
    ·simp only [World.setCell, hW]
    ·rw [World.size_setCell, hW, World.size_setCell]
     exact Nat.le_of_eq M.out.s.symm
    ·rw [heap_setCell_ne _ _ _ (by simp only; omega), hW, heap_setCell_ne _ _ _ (by simp only; omega)]
     exact M.out.old r hr
   go_wp2_with (go_at_call 52; refine (L.out _ M.out).mono ?_; rintro e w1 ⟨rfl, rfl⟩)
   clear L S M0 c2 hlt hwr hn1
   go_region_with (first | (go_at_call 75; refine (PK.out _).mono ?_; rintro e w2 ⟨rfl, rfl⟩) | (go_at_call 74; refine (ST.out _ (by rfl)).mono ?_; rintro e w2 ⟨rfl, hZ⟩; have Z : Aside (KU (w.heap.size + 1) ⟨knew k tg, w.heap.size⟩ w2 ∧ w.heap.size + 2 ≤ w2.heap.size ∧ ∀ r, r < w.heap.size → w2.heap[r]? = w.heap[r]?) := hZ; clear hZ))
   go_wp2
   go_ret
   exact ⟨_, rfl, rfl, Z.out⟩
end
section
def okS (n : Nat) (e : Nat → Bool) (x : Int) : Prop := 0 ≤ x ∧ x < n ∧ e x.toNat = false
def PickRel (S : List Int) (n : Nat) (e : Nat → Bool) (p0 r0 : Nat) (x p1 r1 : Nat) : Prop :=
 (∃ p, p0 ≤ p ∧ (∀ j y, p0 ≤ j → j < p → S[j]? = some y → ¬ okS n e y) ∧ S[p]? = some (x : Int) ∧ okS n e x ∧ p1 = p + 1 ∧ r1 = r0) ∨
 ((∀ j y, p0 ≤ j → S[j]? = some y → ¬ okS n e y) ∧ p1 = S.length ∧ ∃ r, r0 ≤ r ∧ (∀ j, r0 ≤ j → j < r → e (j % n) = true) ∧ e (r % n) = false ∧ x = r % n ∧ r1 = x + 1)
end
section
variable {w w' : World}
theorem step_call {P : Program} {ops : Array Oper} {o : Oper} {a : Act} {w : World} {K : Act → World → Prop} {Q : Exit → Act → World → Prop} {E : Prop} (hg : o.guard = none) (f : FuncId) (args : Array Value) (v : Value)
 (hr : (execOp a.eval o).run P w = .ok (.enter f args) w) {R : World → Prop} (hC : Calls P f args w fun e w' => e = .returned v ∧ R w') (hK : ∀ w', R w' → K (a.put o.dst v) w') :
 if Region.wanted o (yielded ops a.tmps) = true then Oper.wp P o a w K Q else E := by
 have hw : Region.wanted o (yielded ops a.tmps) = true := by simp [Region.wanted, hg]
 rw [if_pos hw]
 unfold Oper.wp
 rw [hr, Oper.upon_enter]
 exact hC.mono fun e w' ⟨h1, h2⟩ => by subst h1; exact hK w' h2
theorem own_row_ty {w : World} {e : TypeId} {sz n : Nat} {v : Value} {xs : List Value} {g : Nat} (h : w.ownsRow 0 e sz v n xs) (hg : v.ownBlock = some g) : ∃ c, w.heap[g]? = some (.cells c e (0, 0)) := by
 rcases h.2 with ⟨rfl, _⟩ | ⟨b, cap, cur, rfl, _, h3, _⟩
 ·cases hg
 ·cases hg
  exact ⟨_, h3⟩
theorem heap_ty {w : World} {a b : Nat} {c d : Array Value} {e f : TypeId} {y z : Nat × Nat} (h : w.heap[a]? = some (.cells c e y)) (k : w.heap[b]? = some (.cells d f z)) (he : e ≠ f) : a ≠ b := by
 rintro rfl
 rw [h] at k
 simp only [Option.some.injEq, Obj.cells.injEq] at k
 exact he k.2.1
theorem heap_set_eq {b k : Nat} {c : Array Value} {e : TypeId} {z : Nat × Nat} {v : Value} (h : w.heap[b]? = some (.cells c e z)) : (w.setCell ⟨b, k, none⟩ v).heap[b]? = some (.cells (c.setIfInBounds k v) e z) := by
 rw [heap_setCell_eq h]
structure RTh where
 k : Nat
 pc : Nat
 n0 : Int
 n1 : Int
 n2 : Int
 n3 : Int
 n4 : Int
 ans : List (Bool × Int)
def RTh.fin (t : RTh) (a : Bool × Int) : RTh := { t with k := t.k + 1, pc := 0, ans := t.ans ++ [a] }
def thC (op : Value) (t : RTh) (ov : Value) (en : Bool) : Array Value := #[op, .int .i64 t.k, .int .i64 t.pc, .int .i64 t.n0, .int .i64 t.n1, .int .i64 t.n2, .int .i64 t.n3, .int .i64 t.n4, .int .i64 0, .int .i64 0, .int .i64 0, .slice none 0 0, ov, .bool en]
structure TAt (w : World) (tb : Nat) (op : Value) (t : RTh) (ov : Value) (en : Bool) : Prop where
 o : w.heap[tb]? = some (.cells (thC op t ov en) 158 (0, 0))
 row : w.ownsRow 0 44 3 ov t.ans.length (ansC t.ans)
theorem TAt.lt {tb : Nat} {op ov : Value} {t : RTh} {en : Bool} (h : TAt w tb op t ov en) : tb < w.heap.size := (Array.getElem?_eq_some_iff.1 h.o).1
theorem TAt.same {tb : Nat} {op ov : Value} {t : RTh} {en : Bool} (h : TAt w tb op t ov en) (h1 : w'.heap[tb]? = w.heap[tb]?) (h2 : ∀ r, some r = ov.ownBlock → w'.heap[r]? = w.heap[r]?) : TAt w' tb op t ov en :=
 ⟨h1.trans h.o, ownsRow_same2 h.row fun b hb _ => h2 b hb.symm⟩
theorem TAt.heap {tb : Nat} {op ov : Value} {t : RTh} {en : Bool} (h : TAt w tb op t ov en) (e : w'.heap = w.heap) : TAt w' tb op t ov en := h.same (by rw [e]) fun r _ => by rw [e]
theorem TAt.ne {tb : Nat} {op ov : Value} {t : RTh} {en : Bool} (h : TAt w tb op t ov en) : some tb ≠ ov.ownBlock := own_type h.row h.o (by decide)
structure Kpt (w w' : World) (tb : Nat) (ov ov' : Value) : Prop where
 size : w.heap.size ≤ w'.heap.size
 old : ∀ r, r < w.heap.size → r ≠ tb → some r ≠ ov.ownBlock → w'.heap[r]? = w.heap[r]?
 fo : ov'.ownBlock = ov.ownBlock ∨ ∃ g, ov'.ownBlock = some g ∧ w.heap.size ≤ g
theorem Kpt.refl (w : World) (tb : Nat) (ov : Value) : Kpt w w tb ov ov := ⟨Nat.le_refl _, fun _ _ _ _ => rfl, .inl rfl⟩
theorem Kpt.trans {u v : World} {tb : Nat} {ov ov1 ov2 : Value} (h : Kpt w u tb ov ov1) (k : Kpt u v tb ov1 ov2) : Kpt w v tb ov ov2 := by
 have hs := h.size
 refine ⟨Nat.le_trans hs k.size, fun r h1 h2 h3 => (k.old r (by omega) h2 ?_).trans (h.old r h1 h2 h3), ?_⟩
 ·rcases h.fo with e | ⟨g, e, hg⟩
  ·rw [e]; exact h3
  ·rw [e]; intro e2; cases e2; omega
 ·rcases k.fo with e | ⟨g, e, hg⟩
  ·rw [e]; exact h.fo
  ·exact .inr ⟨g, e, by omega⟩
theorem Kpt.heap {u : World} {tb : Nat} {ov ov1 : Value} (h : Kpt w u tb ov ov1) (e : w'.heap = u.heap) : Kpt w w' tb ov ov1 := ⟨by rw [e]; exact h.size, fun r a b c => by rw [e]; exact h.old r a b c, h.fo⟩
theorem infoB44 : ∃ i z, Try.prog.info? 44 = some i ∧ i.zero = some z ∧ i.size = 3 ∧ i.bytes = 40 ∧ z.cells.size = 3 := by
 have h : (Try.prog.info? 44).map (fun i => (i.zero.map (·.cells.size), i.size, i.bytes)) = some (some 3, 3, 40) := by kernel_rfl
 obtain ⟨i, hi, h1⟩ := Option.map_eq_some_iff.1 h
 simp only [Prod.mk.injEq] at h1
 obtain ⟨z, hz, h2⟩ := Option.map_eq_some_iff.1 h1.1
 exact ⟨i, z, hi, hz, h1.2.1, h1.2.2, h2⟩
section
variable {tb : Nat} {op ov : Value} {t : RTh} {en : Bool}
structure TFx (w : World) (tb : Nat) (op : Value) (t : RTh) (ov : Value) (en : Bool) : Prop where
 c0 : w.cell? ⟨tb, 0, none⟩ = some op
 c1 : w.cell? ⟨tb, 1, none⟩ = some (.int .i64 t.k)
 c2 : w.cell? ⟨tb, 2, none⟩ = some (.int .i64 t.pc)
 c3 : w.cell? ⟨tb, 3, none⟩ = some (.int .i64 t.n0)
 c4 : w.cell? ⟨tb, 4, none⟩ = some (.int .i64 t.n1)
 c5 : w.cell? ⟨tb, 5, none⟩ = some (.int .i64 t.n2)
 c6 : w.cell? ⟨tb, 6, none⟩ = some (.int .i64 t.n3)
 c7 : w.cell? ⟨tb, 7, none⟩ = some (.int .i64 t.n4)
 c11 : w.cell? ⟨tb, 11, none⟩ = some (.slice none 0 0)
 c12 : w.cell? ⟨tb, 12, none⟩ = some ov
 c13 : w.cell? ⟨tb, 13, none⟩ = some (.bool en)
 z : ∀ j, w.frozen? ⟨tb, j, none⟩ = false
theorem TAt.fx (h : TAt w tb op t ov en) : TFx w tb op t ov en := by
 have ho := h.o
 constructor <;> first | (simp [World.cell?, ho, thC]; done) | (intro j; simp [World.frozen?, ho]; done)
theorem fin_at {w3 u : World} {v' : Value} {a : Bool × Int} (hT : TAt w tb op t ov en) (hown : w3.ownsRow 0 44 3 v' (t.ans.length + 1) (ansC t.ans ++ [.bool a.1, .int .i64 a.2, .slice none 0 0]))
 (hold : ∀ r, r < w.heap.size → some r ≠ ov.ownBlock → w3.heap[r]? = w.heap[r]?) (hsz : w.heap.size ≤ w3.heap.size) (hfr : v'.ownBlock = ov.ownBlock ∨ ∃ g, v'.ownBlock = some g ∧ w.heap.size ≤ g)
 (hu : u.heap = ((((w3.setCell ⟨tb, 12, none⟩ v').setCell ⟨tb, 1, none⟩ (.int .i64 (t.k + 1 : Nat))).setCell ⟨tb, 2, none⟩ (.int .i64 0)).setCell ⟨tb, 11, none⟩ (.slice none 0 0)).heap) :
 TAt u tb op (t.fin a) v' en ∧ Kpt w u tb ov v' := by
 have T1 := (hold tb hT.lt hT.ne).trans hT.o
 have hou : ∀ r, r ≠ tb → u.heap[r]? = w3.heap[r]? := fun r hr => by
  rw [hu, heap_setCell_ne _ _ _ hr, heap_setCell_ne _ _ _ hr, heap_setCell_ne _ _ _ hr, heap_setCell_ne _ _ _ hr]
 have hsu : u.heap.size = w3.heap.size := by rw [hu]; simp
 have hlt := hT.lt
 have hvt : v'.ownBlock ≠ some tb := by
  rcases hfr with e | ⟨g, e, hg⟩
  ·rw [e]; exact fun h => hT.ne h.symm
  ·rw [e]; intro h; cases h; omega
 refine ⟨⟨?_, ?_⟩, by omega, fun r h1 h2 h3 => (hou r h2).trans (hold r h1 h3), hfr⟩
 ·rw [hu, heap_set_eq (heap_set_eq (heap_set_eq (heap_set_eq T1)))]
  rfl
 ·have e1 : ansC (t.ans ++ [a]) = ansC t.ans ++ [.bool a.1, .int .i64 a.2, .slice none 0 0] := by simp [ansC]
  simp only [RTh.fin]
  rw [e1, List.length_append]
  exact ownsRow_same2 hown fun b hb _ => hou b (fun e => hvt (e ▸ hb))
theorem end_calls {a : Bool × Int} (hT : TAt w tb op t ov en) (hl : t.ans.length < 100000000) (hk : t.k < 100000000) :
 Calls Try.prog 93 #[.pointer (some ⟨tb, 0, none⟩), .agg #[.bool a.1, .int .i64 a.2, .slice none 0 0]] w fun e w' => e = .returned (.tuple #[]) ∧ ∃ ov', TAt w' tb op (t.fin a) ov' en ∧ Kpt w w' tb ov ov' := by
 obtain ⟨i0, z0, hi, hz0, hz1, hz2, hz3⟩ := infoB44
 have hlt := hT.lt
 have hne := hT.ne
 have T0 : Aside (TAt w tb op t ov en ∧ tb < w.heap.size ∧ some tb ≠ ov.ownBlock) := ⟨hT, hlt, hne⟩
 have hw1 : (w.alloc (.cells #[.bool a.1, .int .i64 a.2, .slice none 0 0] 44)).heap[w.heap.size]? = some (.cells #[.bool a.1, .int .i64 a.2, .slice none 0 0] 44 (0, 0)) := heap_alloc_new _ _
 have hsame : ∀ r, r < w.heap.size → (w.alloc (.cells #[.bool a.1, .int .i64 a.2, .slice none 0 0] 44)).heap[r]? = w.heap[r]? := fun r hr => heap_alloc_lt _ _ hr
 have hsz1 : (w.alloc (.cells #[.bool a.1, .int .i64 a.2, .slice none 0 0] 44)).heap.size = w.heap.size + 1 := by simp
 have hrow1 : (w.alloc (.cells #[.bool a.1, .int .i64 a.2, .slice none 0 0] 44)).ownsRow 0 44 3 ov t.ans.length (ansC t.ans) := hT.row.alloc _
 have hwr : IntKind.i64.wrap ((t.k : Int) + 1) = (t.k : Int) + 1 := IntWalk.i64_in _ (by omega)
 have hbo : w.heap.size < w.heap.size + 1 := by omega
 clear hT
 go_enter Try.func93, Try.ntmps93
 go_wp2
 generalize w.alloc (.cells #[.bool a.1, .int .i64 a.2, .slice none 0 0] 44) = W at hw1 hsame hsz1 hrow1 ⊢
 have hT := T0.out.1.same (hsame tb hlt) fun r hr => hsame r (by
  obtain ⟨c, hc⟩ := own_row_ty T0.out.1.row hr.symm
  exact (alt hc))
 obtain ⟨c0, c1, c2, c3, c4, c5, c6, c7, c11, c12, c13, z⟩ := hT.fx
 have z1 := z 1
 have z2 := z 2
 have z11 := z 11
 have z12 := z 12
 have b0 : W.cell? ⟨w.heap.size, 0, none⟩ = some (.bool a.1) := by simp [World.cell?, hw1]
 have b1 : W.cell? ⟨w.heap.size, 1, none⟩ = some (.int .i64 a.2) := by simp [World.cell?, hw1]
 have b2 : W.cell? ⟨w.heap.size, 2, none⟩ = some (.slice none 0 0) := by simp [World.cell?, hw1]
 have p12 := (cellB_alloc c12 (.cells #[.bool a.1, .int .i64 a.2, .slice none 0 0] 44)).1
 have H : Aside (TAt W tb op t ov en ∧ W.heap.size = w.heap.size + 1 ∧ ∀ r, r < w.heap.size → W.heap[r]? = w.heap[r]?) := ⟨hT, hsz1, hsame⟩
 have hltW := hT.lt
 clear z hT c0 c3 c4 c5 c6 c7 c13 hsame hw1
 go_region_law (refine step_append_fresh rfl (.tmp 8) (.tmp 10) 42 rfl 44 i0 z0 3 40 Try.underlying42 hi hz0 hz1 hz2 hz3 (by decide) ov t.ans.length (ansC t.ans) (by simp [Act.eval, Act.put]) ((show W.drew.ownsRow 0 44 3 _ _ _ from hrow1).alloc _) ⟨W.heap.size, 0, none⟩ 1 1 [.bool a.1, .int .i64 a.2, .slice none 0 0] (by simp [Act.eval, Act.put]) rfl (new_cells (X := W.drew) (l := [.bool a.1, .int .i64 a.2, .slice none 0 0]) rfl) (by intro u hu; simp at hu; rcases hu with rfl | rfl | rfl <;> rfl) (by unfold maxLen; omega) (by omega) ?_; intro v' w3 hown hgrow hfr; obtain ⟨g, cap, rfl⟩ := own_slice hown; have hk1 := grown_old (W := W.drew) hgrow (r := tb) hltW hne; have k0 := (cell_heap (j := 12) hk1).1.trans c12; have k1' := (cell_heap (j := 12) hk1).2.trans z12; have m1 := (cell_heap (j := 1) hk1).1.trans c1; have m2 := (cell_heap (j := 1) hk1).2.trans z1; have n1 := (cell_heap (j := 2) hk1).1.trans c2; have n2 := (cell_heap (j := 2) hk1).2.trans z2; have o1 := (cell_heap (j := 11) hk1).1.trans c11; have o2 := (cell_heap (j := 11) hk1).2.trans z11; have F : Aside ((∀ r, r < W.heap.size → some r ≠ ov.ownBlock → w3.heap[r]? = W.heap[r]?) ∧ W.heap.size ≤ w3.heap.size ∧ ((Value.slice (some ⟨g, 0, none⟩) (t.ans.length + 1) cap).ownBlock = ov.ownBlock ∨ ∃ g', (Value.slice (some ⟨g, 0, none⟩) (t.ans.length + 1) cap).ownBlock = some g' ∧ W.heap.size ≤ g')) := ⟨fun r hr hn => grown_old (W := W.drew) hgrow hr hn, Nat.le_trans (by simp [World.drew]) hgrow.size, hfr.imp id fun ⟨g', h1, h2⟩ => ⟨g', h1, Nat.le_trans (by simp [World.drew]) h2⟩⟩; clear hgrow hfr hk1)
 all_goals go_wp2
 all_goals (
  go_end0
  obtain ⟨f1, f2, f3⟩ := F.out
  obtain ⟨h1, h2, h3⟩ := H.out
  obtain ⟨r1, r2⟩ := fin_at h1 hown f1 f2 f3 rfl
  exact ⟨rfl, _, r1, Nat.le_trans (by omega) r2.size, fun r a1 a2 a3 => (r2.old r (by omega) a2 a3).trans (h3 r a1), r2.fo.imp id fun ⟨g, e1, e2⟩ => ⟨g, e1, by omega⟩⟩)
end
end
section
variable {w w' : World}
theorem RRow.olds {a : Option Addr} {xs : List Value} (h : RRow w a xs) (hk : ∀ r, r < w.heap.size → w'.heap[r]? = w.heap[r]?) : RRow w' a xs :=
 ⟨fun k x hx => by
  obtain ⟨b, o, h1, h2⟩ := h.c k x hx
  obtain ⟨c, e, z, ho⟩ := cell_block h2
  have := hk b (alt ho)
  exact ⟨b, o, h1, by rw [← h2]; unfold World.cell?; simp only [this]⟩⟩
theorem same32_nil : Calls Try.prog 32 #[.slice none 0 0, .slice none 0 0] w fun x w' => x = .returned (.bool true) ∧ w' = w := by
 go_enter Try.func32, Try.ntmps32
 go_wp2
 go_loopg [5] 1 (fun g i wr => i = .int .i64 0 ∧ wr = w)
 case atStart => exact ⟨rfl, rfl⟩
 case round =>
  obtain ⟨rfl, rfl⟩ := hrel
  go_wp2
  go_ret
  exact ⟨rfl, rfl⟩
theorem same63 {aa ab : Option Addr} {ca cb : Nat} {xs : List (Bool × Int)} (hl : xs.length < 100000000) (hA : RRow w aa (ansC xs)) (hB : RRow w ab (ansC xs)) :
 Calls Try.prog 63 #[.slice aa xs.length ca, .slice ab xs.length cb] w fun x w' => x = .returned (.bool true) ∧ w'.heap = w.heap := by
 have E : Aside (RRow w aa (ansC xs) ∧ RRow w ab (ansC xs)) := ⟨hA, hB⟩
 clear hA hB
 go_enter Try.func63, Try.ntmps63
 go_wp2
 go_loopg [5] xs.length (fun g i wr => ∃ k : Nat, k ≤ xs.length ∧ i = .int .i64 k ∧ g = xs.length - k ∧ wr.heap = w.heap)
 case atStart => exact ⟨0, Nat.zero_le _, rfl, rfl, rfl⟩
 case round =>
  obtain ⟨k, hk, rfl, rfl, hw⟩ := hrel
  rcases Nat.lt_or_ge k xs.length with hlt | hge
  ·obtain ⟨g1, g2, g3⟩ := ans_get xs k
   rw [List.getElem?_eq_getElem hlt] at g1 g2 g3
   generalize xs[k] = x at g1 g2 g3
   obtain ⟨b, n⟩ := x
   obtain ⟨b1, o1, rfl, f0⟩ := (E.out.1.heap hw).c (k * 3) _ g1
   obtain ⟨_, _, e1, f1⟩ := (E.out.1.heap hw).c (k * 3 + 1) _ g2
   cases e1
   obtain ⟨_, _, e1, f2⟩ := (E.out.1.heap hw).c (k * 3 + 2) _ g3
   cases e1
   obtain ⟨b2, o2, rfl, h0⟩ := (E.out.2.heap hw).c (k * 3) _ g1
   obtain ⟨_, _, e1, h1⟩ := (E.out.2.heap hw).c (k * 3 + 1) _ g2
   cases e1
   obtain ⟨_, _, e1, h2⟩ := (E.out.2.heap hw).c (k * 3 + 2) _ g3
   cases e1
   rw [← Nat.add_assoc] at f1 f2 h1 h2
   have H : Aside (∀ m, Calls Try.prog 32 #[.slice none 0 0, .slice none 0 0] (wr.drewN m) fun x w' => x = .returned (.bool true) ∧ w' = wr.drewN m) := fun m => same32_nil
   have hwr : IntKind.i64.wrap ((k : Int) + 1) = (k : Int) + 1 := IntWalk.i64_in _ (by omega)
   have W : Aside (wr.heap = w.heap) := hw
   clear g1 g2 g3 hw
   cases b
   all_goals (
    go_wp2
    go_quiet ((go_at_call 32; exact Calls.quiet_of_same (H.out _)))
    go_wp2
    go_roundg (xs.length - (k + 1))
    case measure => omega
    case rel => exact ⟨k + 1, hlt, rfl, rfl, W.out⟩)
  ·have : k = xs.length := by omega
   subst this
   go_wp2
   go_ret
   exact ⟨rfl, hw⟩
theorem callableX63 : Callable 63 := callable Try.func63 rfl rfl
theorem same33 {aa ba oa oa' sa sa' : Option Addr} {n ac bc oc oc' sc sc' : Nat} {st : Bool} {os ss : List Int} {X : Nat → List (Bool × Int)} {va vb : Nat → Option Addr} {ca cb : Nat → Nat} (hn : n ≤ 64) (hos : os.length < 10000000) (hss : ss.length < 20000000) (hX : ∀ i, i < n → (X i).length < 10000000)
 (h1 : RRow w oa (os.map fun v => .int .i64 v)) (h1' : RRow w oa' (os.map fun v => .int .i64 v)) (h2 : RRow w sa (ss.map fun v => .int .i64 v)) (h2' : RRow w sa' (ss.map fun v => .int .i64 v))
 (h3 : RRow w aa ((List.range n).map fun i => .slice (va i) (X i).length (ca i))) (h3' : RRow w ba ((List.range n).map fun i => .slice (vb i) (X i).length (cb i))) (h4 : ∀ i, i < n → RRow w (va i) (ansC (X i))) (h4' : ∀ i, i < n → RRow w (vb i) (ansC (X i))) :
 CallsB Try.prog Try.f33 #[.agg #[.slice aa n ac, .slice oa os.length oc, .slice sa ss.length sc, .bool st], .agg #[.slice ba n bc, .slice oa' os.length oc', .slice sa' ss.length sc', .bool st]] w fun v w' => v = .bool true ∧ ∀ r, r < w.heap.size → w'.heap[r]? = w.heap[r]? := by
 have A : Aside (RRow w oa (os.map fun v => .int .i64 v) ∧ RRow w oa' (os.map fun v => .int .i64 v) ∧ RRow w sa (ss.map fun v => .int .i64 v) ∧ RRow w sa' (ss.map fun v => .int .i64 v)) := ⟨h1, h1', h2, h2'⟩
 have B : Aside (RRow w aa ((List.range n).map fun i => .slice (va i) (X i).length (ca i)) ∧ RRow w ba ((List.range n).map fun i => .slice (vb i) (X i).length (cb i)) ∧ (∀ i, i < n → RRow w (va i) (ansC (X i))) ∧ (∀ i, i < n → RRow w (vb i) (ansC (X i))) ∧ ∀ i, i < n → (X i).length < 10000000) := ⟨h3, h3', h4, h4', hX⟩
 clear h1 h1' h2 h2' h3 h3' h4 h4' hX
 refine callsB_of rfl ?_
 simp only [Try.ntmps33, List.size_toArray, List.length_cons, List.length_nil, Nat.reduceAdd, Nat.reduceSub, Array.replicate_succ, Array.replicate_zero, List.push_toArray, List.append_toArray, List.nil_append, List.cons_append]
 go_wp2_with (fail)
 generalize hW : (w.alloc (.cells #[.slice aa n ac, .slice oa os.length oc, .slice sa ss.length sc, .bool st] 31)).alloc (.cells #[.slice ba n bc, .slice oa' os.length oc', .slice sa' ss.length sc', .bool st] 31) = W2
 have hWo : ∀ r, r < w.heap.size → W2.heap[r]? = w.heap[r]? := fun r hr => by rw [← hW, heap_alloc_lt _ _ (by simp; omega), heap_alloc_lt _ _ hr]
 have b2 : W2.heap[w.heap.size]? = some (.cells #[.slice aa n ac, .slice oa os.length oc, .slice sa ss.length sc, .bool st] 31 (0, 0)) := by rw [← hW, heap_alloc_lt _ _ (by simp)]; exact heap_alloc_new _ _
 have b3 : W2.heap[w.heap.size + 1]? = some (.cells #[.slice ba n bc, .slice oa' os.length oc', .slice sa' ss.length sc', .bool st] 31 (0, 0)) := by rw [← hW]; exact new_at (by simp) _
 have f2 : ∀ u : World, u.heap = W2.heap → u.cell? ⟨w.heap.size, 0, none⟩ = some (.slice aa n ac) ∧ u.cell? ⟨w.heap.size, 1, none⟩ = some (.slice oa os.length oc) := fun u hu => by simp [World.cell?, hu, b2]
 have f3 : ∀ u : World, u.heap = W2.heap → u.cell? ⟨w.heap.size + 1, 0, none⟩ = some (.slice ba n bc) ∧ u.cell? ⟨w.heap.size + 1, 1, none⟩ = some (.slice oa' os.length oc') := fun u hu => by simp [World.cell?, hu, b3]
 have C : Aside ((∀ r, r < w.heap.size → W2.heap[r]? = w.heap[r]?) ∧ (∀ u : World, u.heap = W2.heap → u.cell? ⟨w.heap.size, 0, none⟩ = some (.slice aa n ac) ∧ u.cell? ⟨w.heap.size, 1, none⟩ = some (.slice oa os.length oc)) ∧ ∀ u : World, u.heap = W2.heap → u.cell? ⟨w.heap.size + 1, 0, none⟩ = some (.slice ba n bc) ∧ u.cell? ⟨w.heap.size + 1, 1, none⟩ = some (.slice oa' os.length oc')) := ⟨hWo, f2, f3⟩
 clear hW hWo b2 b3 f2 f3
 go_at_call 32
 refine (same32 (by omega) (A.out.2.2.1.olds C.out.1) (A.out.2.2.2.olds C.out.1)).mono ?_
 rintro e w3 ⟨rfl, hw3⟩
 have W3 : Aside (w3.heap = W2.heap) := hw3
 clear hw3
 go_wp2
 go_loopg [5] n (fun g i wr => ∃ k : Nat, k ≤ n ∧ i = .int .i64 k ∧ g = n - k ∧ wr.heap = W2.heap)
 case atStart => exact ⟨0, Nat.zero_le _, rfl, rfl, W3.out⟩
 case round =>
  obtain ⟨k, hk, rfl, rfl, hw⟩ := hrel
  have WR : Aside (wr.heap = W2.heap) := hw
  obtain ⟨g1, g1'⟩ := C.out.2.1 wr hw
  obtain ⟨g2, g2'⟩ := C.out.2.2 wr hw
  rcases Nat.lt_or_ge k n with hlt | hge
  ·clear g1' g2'
   obtain ⟨h3, h3', h4, h4', hX⟩ := B.out
   obtain ⟨b1, o1, rfl, e1⟩ := ((h3.olds C.out.1).heap hw).c k (.slice (va k) (X k).length (ca k)) (by simp [hlt])
   obtain ⟨b2, o2, rfl, e2⟩ := ((h3'.olds C.out.1).heap hw).c k (.slice (vb k) (X k).length (cb k)) (by simp [hlt])
   have hwr : IntKind.i64.wrap ((k : Int) + 1) = (k : Int) + 1 := IntWalk.i64_in _ (by omega)
   have H : Aside (Calls Try.prog 63 #[.slice (va k) (X k).length (ca k), .slice (vb k) (X k).length (cb k)] wr.drew fun x w' => x = .returned (.bool true) ∧ w'.heap = W2.heap) :=
    (same63 (w := wr.drew) (by have := hX k hlt; omega) (((h4 k hlt).olds C.out.1).heap (show wr.drew.heap = W2.heap from hw)) (((h4' k hlt).olds C.out.1).heap (show wr.drew.heap = W2.heap from hw))).mono fun x w' h => ⟨h.1, h.2.trans hw⟩
   clear h3 h3' h4 h4' hX hw
   go_wp2
   go_region_law (refine step_call rfl 63 #[.slice (va k) (X k).length (ca k), .slice (vb k) (X k).length (cb k)] (.bool true) (by simp [execOp, Act.eval, Act.put, resolve, invoke, Deferred.ofValue, callableX63.run]) H.out ?_; intro w4 hw4; have W4 : Aside (w4.heap = W2.heap) := hw4; clear hw4)
   all_goals go_wp2
   all_goals (
    go_roundg (n - (k + 1))
    case measure => omega
    case rel => exact ⟨k + 1, hlt, rfl, rfl, W4.out⟩)
  ·have : k = n := by omega
   subst this
   clear hw
   have hge2 : ¬ (k : Int) < (k : Int) := by omega
   go_wp2
   clear g1 g2 g1' g2'
   go_loopg [6] os.length (fun g i wr => ∃ j : Nat, j ≤ os.length ∧ i = .int .i64 j ∧ g = os.length - j ∧ wr.heap = W2.heap)
   case atStart => exact ⟨0, Nat.zero_le _, rfl, rfl, WR.out⟩
   case round =>
    obtain ⟨j, hj, rfl, rfl, hw⟩ := hrel
    have WR2 : Aside (wr.heap = W2.heap) := hw
    obtain ⟨_, g1⟩ := C.out.2.1 wr hw
    obtain ⟨_, g2⟩ := C.out.2.2 wr hw
    rcases Nat.lt_or_ge j os.length with hlt | hge
    ·obtain ⟨b1, o1, rfl, e1⟩ := ((A.out.1.olds C.out.1).heap hw).c j (.int .i64 os[j]) (by simp [hlt])
     obtain ⟨b2, o2, rfl, e2⟩ := ((A.out.2.1.olds C.out.1).heap hw).c j (.int .i64 os[j]) (by simp [hlt])
     have hwr : IntKind.i64.wrap ((j : Int) + 1) = (j : Int) + 1 := IntWalk.i64_in _ (by omega)
     clear hw
     go_wp2
     go_quiet (fail)
     go_wp2
     go_roundg (os.length - (j + 1))
     case measure => omega
     case rel => exact ⟨j + 1, hlt, rfl, rfl, WR2.out⟩
    ·have : j = os.length := by omega
     subst this
     have hge3 : ¬ (os.length : Int) < (os.length : Int) := by omega
     clear hw
     go_wp2
     go_ret
     exact ⟨_, rfl, rfl, fun r hr => by rw [WR2.out]; exact C.out.1 r hr⟩
end
noncomputable section
variable {F : Fz} {w w' : World} {kb st : Nat}
def ktkIt (ph : Nat) : List Item := match ph with
 | 1 => [.inRegion (oC ktkr1) [1], .code ktks3, .inBlock 1, .inLoop ktkb1, .inBlock 0]
 | 2 => [.inRegion (oC ktkr6) [1], .code ktks9, .inBlock 1, .inLoop ktkb1, .inBlock 0]
 | _ => [.inRegion (oC ktkr8) [1], .code ktks11, .inBlock 1, .inLoop ktkb1, .inBlock 0]
def kgvIt (ph : Nat) : List Item := match ph with
 | 1 => [.inRegion (oC kgvr0) [1], .code kgvs2, .inBlock 1, .inLoop kgvb1, .inBlock 0]
 | 2 => [.inRegion (oC kgvr2) [1], .code kgvs4, .inBlock 1, .inLoop kgvb1, .inBlock 0]
 | _ => [.inRegion (oC kgvr4) [1], .code kgvs6, .inBlock 1, .inLoop kgvb1, .inBlock 0]
def kpuIt (ph : Nat) : List Item := match ph with
 | 1 => [.inRegion (oC kpur3) [5, 6, 7, 8, 9, 10], .code kpus5]
 | 2 => [.inRegion (oC kpur6) [1], .code kpus9]
 | _ => [.inRegion (oC kpur8) [6], .code kpus11]
def kpoIt (ph : Nat) : List Item := match ph with
 | 1 => [.inRegion (oC kpor3) [5, 6, 7, 8, 9, 10], .code kpos5]
 | 2 => [.inRegion (oC kpor6) [1], .code kpos9]
 | _ => [.inRegion (oC kpor8) [6], .code kpos11]
def kpeIt (ph : Nat) : List Item := match ph with
 | 1 => [.inRegion (oC kper3) [1], .code kpes5]
 | 2 => [.inRegion (oC kper6) [1], .code kpes11, .inBlock 1, .inLoop kpes8, .inBlock 0, .code kpes17]
 | _ => [.inRegion (oC kper8) [1], .code kpes13, .inBlock 1, .inLoop kpes8, .inBlock 0, .code kpes17]
def kemIt (ph : Nat) : List Item := match ph with
 | _ => [.inRegion (oC kemr3) [1], .code kems5]
def kdoIt (ph : Nat) : List Item := match ph with
 | 1 => [.inRegion (oC kdor3) [4, 5, 6], .code .ret, .inBlock 0, .code kdos13]
 | 2 => [.inRegion (oC kdor5) [2, 3, 4, 5, 6, 7], .code kdos7, .inBlock 0, .code kdos13]
 | 3 => [.inRegion (oC kdor8) [2, 3, 4, 5, 6, 7], .code kdos10, .inBlock 0, .code kdos13]
 | _ => [.inRegion (oC kdor11) [2, 3, 4], .code .ret, .inBlock 0, .code kdos13]
structure KC where
 c : KCl
 A : Array Value
 A1 : Array Value
 A2 : Array Value
 ab : Nat
def KC.tk (c : KC) (ph : Nat) : Frame := (Go.Conc.base 78).at ⟨c.A, []⟩ (ktkIt ph)
def KC.gv (c : KC) (ph : Nat) : Frame := (Go.Conc.base 80).at ⟨c.A, []⟩ (kgvIt ph)
def KC.pu (c : KC) (ph : Nat) : Frame := (Go.Conc.base 45).at ⟨c.A1, []⟩ (kpuIt ph)
def KC.po (c : KC) (ph : Nat) : Frame := (Go.Conc.base 43).at ⟨c.A1, []⟩ (kpoIt ph)
def KC.pe (c : KC) (ph : Nat) : Frame := (Go.Conc.base 44).at ⟨c.A1, []⟩ (kpeIt ph)
def KC.em (c : KC) : Frame := (Go.Conc.base 46).at ⟨c.A1, []⟩ (kemIt 1)
def KC.do (c : KC) (ph : Nat) : Frame := (Go.Conc.base 64).at ⟨c.A2, []⟩ (kdoIt ph)
def KC.fr (c : KC) : List Frame := match c.c.pc with
 | 10 => [c.tk 1, c.pu 1, c.do 1]
 | 11 => [c.tk 2, c.pu 1, c.do 1]
 | 12 => [c.tk 3, c.pu 1, c.do 1]
 | 13 => [c.pu 2, c.do 1]
 | 14 => [c.gv 1, c.pu 3, c.do 1]
 | 15 => [c.gv 2, c.pu 3, c.do 1]
 | 16 => [c.gv 3, c.pu 3, c.do 1]
 | 20 => [c.tk 1, c.po 1, c.do 2]
 | 21 => [c.tk 2, c.po 1, c.do 2]
 | 22 => [c.tk 3, c.po 1, c.do 2]
 | 23 => [c.po 2, c.do 2]
 | 24 => [c.gv 1, c.po 3, c.do 2]
 | 25 => [c.gv 2, c.po 3, c.do 2]
 | 26 => [c.gv 3, c.po 3, c.do 2]
 | 30 => [c.pe 1, c.do 3]
 | 31 => [c.pe 2, c.do 3]
 | 32 => [c.pe 3, c.do 3]
 | _ => [c.em, c.do 4]
def kptr (kb : Nat) : Value := .pointer (some ⟨kb, 0, none⟩)
def ktS0 (kb st hx : Nat) : List (Nat × Value) := [(0, kptr kb), (1, stepperV st), (2, .pointer (some ⟨kb, hx, none⟩))]
def ktS1 (kb st hx : Nat) (c : KCl) : List (Nat × Value) := [(0, kptr kb), (1, stepperV st), (2, .pointer (some ⟨kb, hx, none⟩)), (8, .int .u64 (pk (c.n0, c.n1))), (9, .int .i64 c.n0)]
def ktS2 (kb st hx : Nat) (c : KCl) : List (Nat × Value) := [(0, kptr kb), (1, stepperV st), (2, .pointer (some ⟨kb, hx, none⟩)), (8, .int .u64 (pk (c.n0, c.n1))), (9, .int .i64 c.n0), (10, .int .i64 c.n2)]
def kgS0 (kb st hx : Nat) (c : KCl) : List (Nat × Value) := [(0, kptr kb), (1, stepperV st), (2, .pointer (some ⟨kb, hx, none⟩)), (3, .int .i64 c.n4)]
def kgS1 (kb st hx : Nat) (c : KCl) : List (Nat × Value) := [(0, kptr kb), (1, stepperV st), (2, .pointer (some ⟨kb, hx, none⟩)), (3, .int .i64 c.n4), (8, .int .u64 (pk (c.n0, c.n1)))]
def kuS0 (kb st : Nat) (c : KCl) : List (Nat × Value) := [(0, kptr kb), (1, stepperV st), (2, .int .i64 c.a)]
def kuS1 (kb st : Nat) (c : KCl) : List (Nat × Value) := [(0, kptr kb), (1, stepperV st), (2, .int .i64 c.a), (7, .int .i64 c.n4)]
def koS0 (kb st : Nat) : List (Nat × Value) := [(0, kptr kb), (1, stepperV st)]
def koS1 (kb st : Nat) (c : KCl) : List (Nat × Value) := [(0, kptr kb), (1, stepperV st), (6, .int .i64 c.n4)]
def koS2 (kb st : Nat) (c : KCl) : List (Nat × Value) := [(0, kptr kb), (1, stepperV st), (6, .int .i64 c.n4), (8, .int .i64 c.n3)]
def keS1 (kb st : Nat) (c : KCl) : List (Nat × Value) := [(0, kptr kb), (1, stepperV st), (6, .int .u64 (pk (c.n0, c.n1)))]
def keS2 (kb st : Nat) (c : KCl) : List (Nat × Value) := [(0, kptr kb), (1, stepperV st), (6, .int .u64 (pk (c.n0, c.n1))), (7, .int .i64 c.n3)]
def KSl (kb st : Nat) (c : KC) : Prop := match c.c.pc with
 | 10 => Slots 37 c.A (ktS0 kb st 1) ∧ Slots 40 c.A1 (kuS0 kb st c.c)
 | 11 => Slots 37 c.A (ktS1 kb st 1 c.c) ∧ Slots 40 c.A1 (kuS0 kb st c.c)
 | 12 => Slots 37 c.A (ktS2 kb st 1 c.c) ∧ Slots 40 c.A1 (kuS0 kb st c.c)
 | 13 => Slots 40 c.A1 (kuS1 kb st c.c)
 | 14 => Slots 32 c.A (kgS0 kb st 0 c.c) ∧ Slots 40 c.A1 (kuS1 kb st c.c)
 | 15 => Slots 32 c.A (kgS1 kb st 0 c.c) ∧ Slots 40 c.A1 (kuS1 kb st c.c)
 | 16 => Slots 32 c.A (kgS1 kb st 0 c.c) ∧ Slots 40 c.A1 (kuS1 kb st c.c)
 | 20 => Slots 37 c.A (ktS0 kb st 0) ∧ Slots 40 c.A1 (koS0 kb st)
 | 21 => Slots 37 c.A (ktS1 kb st 0 c.c) ∧ Slots 40 c.A1 (koS0 kb st)
 | 22 => Slots 37 c.A (ktS2 kb st 0 c.c) ∧ Slots 40 c.A1 (koS0 kb st)
 | 23 => Slots 40 c.A1 (koS1 kb st c.c)
 | 24 => Slots 32 c.A (kgS0 kb st 1 c.c) ∧ Slots 40 c.A1 (koS2 kb st c.c)
 | 25 => Slots 32 c.A (kgS1 kb st 1 c.c) ∧ Slots 40 c.A1 (koS2 kb st c.c)
 | 26 => Slots 32 c.A (kgS1 kb st 1 c.c) ∧ Slots 40 c.A1 (koS2 kb st c.c)
 | 30 => Slots 42 c.A1 (koS0 kb st)
 | 31 => Slots 42 c.A1 (keS1 kb st c.c)
 | 32 => Slots 42 c.A1 (keS2 kb st c.c)
 | _ => Slots 15 c.A1 (koS0 kb st)
structure KV (m : Nat) (c : KCl) : Prop where
 pc : c.pc ∈ [10, 11, 12, 13, 14, 15, 16, 20, 21, 22, 23, 24, 25, 26, 30, 31, 32, 40]
 n0 : -1 ≤ c.n0 ∧ c.n0 < m
 n1 : 0 ≤ c.n1 ∧ c.n1 < 2147483648
 n2 : -1 ≤ c.n2 ∧ c.n2 < m
 n4 : 0 ≤ c.n4 ∧ c.n4 < m
 pos : c.pc ∈ [11, 12, 21, 22, 31, 32] → 0 ≤ c.n0
structure KJ (kb st m : Nat) (c : KC) : Prop where
 v : KV m c.c
 s : KSl kb st c
 a : Slots 52 c.A2 [(8, .pointer (some ⟨c.ab, 0, none⟩))]
def KLay (kb : Nat) : Lay where
 S := KS
 C := KC
 A := Bool × Int
 SU := KU kb
 SR := KR kb
 CU := fun c w => Ans w c.ab
 CR := fun c r => r = c.ab
 AV := fun a => ⟨a.1, a.2, none, 0, 0⟩
 AU := fun _ _ => True
 AR := fun _ _ => False
 cf := fun st c => stepFr stK ⟨st, 0, none⟩ :: c.fr
 df := 64
 first := #[.pointer (some ⟨kb, 0, none⟩)]
 capt := #[]
 beg := fun s _ o y => y.1.nb = s.nb ∧ (y.1.k, (match y.2 with | .inl c => .inl c.c | .inr a => .inr a : KRs)) = s.k.begin o
 stp := fun s c y => y.1.nb = s.nb ∧ (y.1.k, (match y.2 with | .inl c => .inl c.c | .inr a => .inr a : KRs)) = s.k.step c.c
 J := fun st s c => KJ kb st s.m c
theorem k_live {s : KS} {c c' : KC} {k' : KSt} {cs : List Frame} (hU : KU kb ⟨k', s.nb⟩ w') (hr : (k', .inl c'.c) = s.k.step c.c) (hab : c'.ab = c.ab) (hJ : KJ kb st k'.nx.length c') (hcu : Ans w c.ab) (hdis : ¬ KR kb s c.ab) (hsame : ∀ r, ¬ KR kb s r → w'.heap[r]? = w.heap[r]?) (d : Nat) :
 (KLay kb).Out st s (fun r => r = c.ab) ((KLay kb).stp s c) w cs (G (Frame.enter Try.prog 133 #[.pointer (some ⟨st, 0, none⟩)] .normal) ((KLay kb).cf st c' ++ cs)) (w'.at d) := by
 refine ⟨⟨k', s.nb⟩, .inl c', ⟨rfl, hr⟩, hU.same fun _ _ => rfl, fun q h => .inl h, hJ, ?_, fun q h => .inl (h.trans hab), fun q h h2 => hdis (by rw [← hab, ← show q = c'.ab from h]; exact h2), rfl⟩
 show Ans (w'.at d) c'.ab
 rw [hab]
 exact ans_same hcu (hsame _ hdis)
theorem k_ans {s : KS} {c : KC} {k' : KSt} {an : Bool × Int} {cs : List Frame} (hU : KU kb ⟨k', s.nb⟩ w') (hr : (k', .inr an) = s.k.step c.c) (hdis : ¬ KR kb s c.ab) (d : Nat) :
 (KLay kb).Out st s (fun r => r = c.ab) ((KLay kb).stp s c) w cs (back (.agg #[.bool an.1, .int .i64 an.2, .slice none 0 0]) cs) ((ansW w' c.ab an.1 an.2).at d) := by
 refine ⟨⟨k', s.nb⟩, .inr an, ⟨rfl, hr⟩, (hU.same fun r hr => ansW_same fun e => hdis (by rw [← e]; exact hr)).same fun _ _ => rfl, fun q h => .inl h, trivial, fun q h => h.elim, fun q h => h.elim, rfl⟩
end
section
variable {F : Fz} {w w' : World} {kb st : Nat}
theorem KWf.nxt_ok {s : KSt} (h : KWf s) (i : Nat) : -1 ≤ s.nx.getD i 0 ∧ s.nx.getD i 0 < s.nx.length := by
 have := h.n2
 by_cases e : i < s.nx.length
 ·rw [List.getD_eq_getElem?_getD, List.getElem?_eq_getElem e]
  exact h.nx _ (List.getElem_mem e)
 ·rw [List.getD_eq_getElem?_getD, List.getElem?_eq_none (by omega)]
  simp only [Option.getD_none]
  omega
section
variable {s : KS} {n0 n1 n2 n3 n4 a : Int} {A A1 A2 : Array Value} {ab : Nat}
theorem ks_10 (hJ : KJ kb st s.m ⟨⟨10, n0, n1, n2, n3, n4, a⟩, A, A1, A2, ab⟩) (hs : KU kb s w) (hc : Ans w ab) (hdis : ¬ KR kb s ab) (hF : ∀ r, KR kb s r ∨ r = ab → F r = none) (b : Frame) (cs : List Frame) :
 Own Try.prog false F ((KLay kb).Out st s (fun r => r = ab) ((KLay kb).stp s ⟨⟨10, n0, n1, n2, n3, n4, a⟩, A, A1, A2, ab⟩) w (b :: cs)) (back (.tuple #[]) ((KLay kb).cf st ⟨⟨10, n0, n1, n2, n3, n4, a⟩, A, A1, A2, ab⟩ ++ b :: cs)) w := by
 have hkb : F kb = none := hF _ (.inl (.inl rfl))
 have hnb : F s.nb = none := hF _ (.inl (.inr rfl))
 have hans : ∀ k, ¬ held F ⟨ab, k, none⟩ := fun k => not_heldB (hF _ (.inr rfl)) k
 have hm := hs.wf.n3
 have hmm : s.m = s.k.nx.length := rfl
 have hS := hJ.s
 obtain ⟨_, v0, v1, v2, v4, vp⟩ := hJ.v
 simp only at v0 v1 v2 v4 vp
 refine own_step_back (K := stK) (sa := ⟨st, 0, none⟩) ?_
 obtain ⟨h1, h2, h3, h4⟩ := hs.wf.fr
 by_cases hneg : s.k.fr.1 < 0
 ·refine tk_1a (sv := stepperV st) (hx := 1) (n := s.k.fr.1) (t := s.k.fr.2) ⟨h1, by omega⟩ ⟨h3, h4⟩ hneg hs.c1 hS.1 ?_
  refine pu_1a (sv := stepperV st) hS.2 ?_
  exact kdo_pu1 hc hans hJ.a (.stop fun d => k_ans (c := ⟨⟨10, n0, n1, n2, n3, n4, a⟩, A, A1, A2, ab⟩) (an := (false, 0)) (k' := s.k) hs (by simp [KSt.step, hneg]) hdis d)
 ·refine tk_1b (sv := stepperV st) (hx := 1) (n := s.k.fr.1) (t := s.k.fr.2) ⟨h1, by omega⟩ ⟨h3, h4⟩ hneg hs.c1 hS.1 fun A' hA' => own_step_call (K := stK) (.stop fun d => k_live (c := ⟨⟨10, n0, n1, n2, n3, n4, a⟩, A, A1, A2, ab⟩) (c' := ⟨⟨11, s.k.fr.1, s.k.fr.2, n2, n3, n4, a⟩, A', A1, A2, ab⟩) (k' := s.k) hs (by simp [KSt.step, hneg]) rfl ⟨⟨by simp, ⟨h1, h2⟩, ⟨h3, h4⟩, v2, v4, fun _ => by simp only; omega⟩, ⟨hA', hS.2⟩, hJ.a⟩ hc hdis (fun r _ => rfl) d)
theorem ks_11 (hJ : KJ kb st s.m ⟨⟨11, n0, n1, n2, n3, n4, a⟩, A, A1, A2, ab⟩) (hs : KU kb s w) (hc : Ans w ab) (hdis : ¬ KR kb s ab) (hF : ∀ r, KR kb s r ∨ r = ab → F r = none) (b : Frame) (cs : List Frame) :
 Own Try.prog false F ((KLay kb).Out st s (fun r => r = ab) ((KLay kb).stp s ⟨⟨11, n0, n1, n2, n3, n4, a⟩, A, A1, A2, ab⟩) w (b :: cs)) (back (.tuple #[]) ((KLay kb).cf st ⟨⟨11, n0, n1, n2, n3, n4, a⟩, A, A1, A2, ab⟩ ++ b :: cs)) w := by
 have hkb : F kb = none := hF _ (.inl (.inl rfl))
 have hnb : F s.nb = none := hF _ (.inl (.inr rfl))
 have hans : ∀ k, ¬ held F ⟨ab, k, none⟩ := fun k => not_heldB (hF _ (.inr rfl)) k
 have hm := hs.wf.n3
 have hmm : s.m = s.k.nx.length := rfl
 have hS := hJ.s
 obtain ⟨_, v0, v1, v2, v4, vp⟩ := hJ.v
 simp only at v0 v1 v2 v4 vp
 refine own_step_back (K := stK) (sa := ⟨st, 0, none⟩) ?_
 have hpos := vp (by simp)
 obtain ⟨i, rfl⟩ : ∃ i : Nat, n0 = i := ⟨n0.toNat, by omega⟩
 have hi : i < s.m := by omega
 refine tk_2 (sv := stepperV st) (hx := 1) (i := i) (t := n1) (to := s.k.nx.getD i 0) hi hs.c2 (hs.nc hi).1 hS.1 fun A' hA' => own_step_call (K := stK) (.stop fun d => k_live (c := ⟨⟨11, (i : Nat), n1, n2, n3, n4, a⟩, A, A1, A2, ab⟩) (c' := ⟨⟨12, (i : Nat), n1, (s.k.nx.getD i 0), n3, n4, a⟩, A', A1, A2, ab⟩) (k' := s.k) hs (by simp [KSt.step, KSt.nxt]) rfl ⟨⟨by simp, v0, v1, hs.wf.nxt_ok i, v4, fun _ => by simp only; omega⟩, ⟨hA', hS.2⟩, hJ.a⟩ hc hdis (fun r _ => rfl) d)
theorem ks_12 (hJ : KJ kb st s.m ⟨⟨12, n0, n1, n2, n3, n4, a⟩, A, A1, A2, ab⟩) (hs : KU kb s w) (hc : Ans w ab) (hdis : ¬ KR kb s ab) (hF : ∀ r, KR kb s r ∨ r = ab → F r = none) (b : Frame) (cs : List Frame) :
 Own Try.prog false F ((KLay kb).Out st s (fun r => r = ab) ((KLay kb).stp s ⟨⟨12, n0, n1, n2, n3, n4, a⟩, A, A1, A2, ab⟩) w (b :: cs)) (back (.tuple #[]) ((KLay kb).cf st ⟨⟨12, n0, n1, n2, n3, n4, a⟩, A, A1, A2, ab⟩ ++ b :: cs)) w := by
 have hkb : F kb = none := hF _ (.inl (.inl rfl))
 have hnb : F s.nb = none := hF _ (.inl (.inr rfl))
 have hans : ∀ k, ¬ held F ⟨ab, k, none⟩ := fun k => not_heldB (hF _ (.inr rfl)) k
 have hm := hs.wf.n3
 have hmm : s.m = s.k.nx.length := rfl
 have hS := hJ.s
 obtain ⟨_, v0, v1, v2, v4, vp⟩ := hJ.v
 simp only at v0 v1 v2 v4 vp
 refine own_step_back (K := stK) (sa := ⟨st, 0, none⟩) ?_
 have hpos := vp (by simp)
 obtain ⟨i, rfl⟩ : ∃ i : Nat, n0 = i := ⟨n0.toNat, by omega⟩
 obtain ⟨t1, t2⟩ := tag_ok s.k.tg n1
 have hq := (pk_eq hs.wf (n := (i : Nat)) v1).2
 by_cases e : s.k.fr = ((i : Int), n1)
 ·rw [decide_eq_true e] at hq
  refine tk_3a (sv := stepperV st) (hx := 1) (tg := s.k.tg) (n := (i : Nat)) (t := n1) (to := n2) (cv := pk s.k.fr) hq hs.c3 ⟨v0.1, by omega⟩ v1 ⟨v2.1, by omega⟩ hs.c1 (hs.z 1) (not_heldB hkb 1) hS.1 ?_
  refine pu_1b (sv := stepperV st) (i := i) hS.2 fun A' hA' => own_step_call (K := stK) (.stop fun d => k_live (c := ⟨⟨12, (i : Nat), n1, n2, n3, n4, a⟩, A, A1, A2, ab⟩) (c' := ⟨⟨13, (i : Nat), n1, n2, n3, (i : Nat), a⟩, A, A', A2, ab⟩) (k' := { s.k with fr := (n2, tagOf s.k.tg n1) }) (hs.setFr ⟨v2.1, v2.2, t1.1, t1.2⟩ t2) (by simp [KSt.step, KSt.turn, e, tagOf]) rfl ⟨⟨by simp, v0, v1, v2, ⟨hpos, v0.2⟩, fun h => by simp at h⟩, hA', hJ.a⟩ hc hdis (fun r hr => heap_setCell_ne _ _ _ (fun e => hr (.inl e))) d)
 ·rw [decide_eq_false e] at hq
  refine tk_3b (sv := stepperV st) (hx := 1) (tg := s.k.tg) (n := (i : Nat)) (t := n1) (to := n2) (cv := pk s.k.fr) hq hs.c3 ⟨v0.1, by omega⟩ v1 ⟨v2.1, by omega⟩ hs.c1 (hs.z 1) (not_heldB hkb 1) hS.1 fun A' hA' => own_step_call (K := stK) (.stop fun d => k_live (c := ⟨⟨12, (i : Nat), n1, n2, n3, n4, a⟩, A, A1, A2, ab⟩) (c' := ⟨⟨10, (i : Nat), n1, n2, n3, n4, a⟩, A', A1, A2, ab⟩) (k' := s.k) hs (by simp [KSt.step, KSt.turn, e]) rfl ⟨⟨by simp, v0, v1, v2, v4, fun h => by simp at h⟩, ⟨hA', hS.2⟩, hJ.a⟩ hc hdis (fun r _ => rfl) d)
theorem ks_13 (hJ : KJ kb st s.m ⟨⟨13, n0, n1, n2, n3, n4, a⟩, A, A1, A2, ab⟩) (hs : KU kb s w) (hc : Ans w ab) (hdis : ¬ KR kb s ab) (hF : ∀ r, KR kb s r ∨ r = ab → F r = none) (b : Frame) (cs : List Frame) :
 Own Try.prog false F ((KLay kb).Out st s (fun r => r = ab) ((KLay kb).stp s ⟨⟨13, n0, n1, n2, n3, n4, a⟩, A, A1, A2, ab⟩) w (b :: cs)) (back (.tuple #[]) ((KLay kb).cf st ⟨⟨13, n0, n1, n2, n3, n4, a⟩, A, A1, A2, ab⟩ ++ b :: cs)) w := by
 have hkb : F kb = none := hF _ (.inl (.inl rfl))
 have hnb : F s.nb = none := hF _ (.inl (.inr rfl))
 have hans : ∀ k, ¬ held F ⟨ab, k, none⟩ := fun k => not_heldB (hF _ (.inr rfl)) k
 have hm := hs.wf.n3
 have hmm : s.m = s.k.nx.length := rfl
 have hS := hJ.s
 obtain ⟨_, v0, v1, v2, v4, vp⟩ := hJ.v
 simp only at v0 v1 v2 v4 vp
 refine own_step_back (K := stK) (sa := ⟨st, 0, none⟩) ?_
 obtain ⟨i, rfl⟩ : ∃ i : Nat, n4 = i := ⟨n4.toNat, by omega⟩
 have hi : i < s.m := by omega
 refine pu_2 (sv := stepperV st) (v := a) (i := i) hi hs.c2 (hs.nc hi).2.1 ((hs.nc hi).2.2 _) (not_heldB hnb _) hS fun A1' hA1' => ?_
 refine gv_0 (sv := stepperV st) (hx := 0) (i := i) fun A' hA' => own_step_call (K := stK) (.stop fun d => k_live (c := ⟨⟨13, n0, n1, n2, n3, (i : Nat), a⟩, A, A1, A2, ab⟩) (c' := ⟨⟨14, n0, n1, n2, n3, (i : Nat), a⟩, A', A1', A2, ab⟩) (k' := { s.k with vl := s.k.vl.set i a }) (hs.setVl hi) (by simp [KSt.step]) rfl ⟨⟨by simp, v0, v1, v2, v4, fun h => by simp at h⟩, ⟨hA', hA1'⟩, hJ.a⟩ hc hdis (fun r hr => heap_setCell_ne _ _ _ (fun e => hr (.inr e))) d)
theorem ks_14 (hJ : KJ kb st s.m ⟨⟨14, n0, n1, n2, n3, n4, a⟩, A, A1, A2, ab⟩) (hs : KU kb s w) (hc : Ans w ab) (hdis : ¬ KR kb s ab) (hF : ∀ r, KR kb s r ∨ r = ab → F r = none) (b : Frame) (cs : List Frame) :
 Own Try.prog false F ((KLay kb).Out st s (fun r => r = ab) ((KLay kb).stp s ⟨⟨14, n0, n1, n2, n3, n4, a⟩, A, A1, A2, ab⟩) w (b :: cs)) (back (.tuple #[]) ((KLay kb).cf st ⟨⟨14, n0, n1, n2, n3, n4, a⟩, A, A1, A2, ab⟩ ++ b :: cs)) w := by
 have hkb : F kb = none := hF _ (.inl (.inl rfl))
 have hnb : F s.nb = none := hF _ (.inl (.inr rfl))
 have hans : ∀ k, ¬ held F ⟨ab, k, none⟩ := fun k => not_heldB (hF _ (.inr rfl)) k
 have hm := hs.wf.n3
 have hmm : s.m = s.k.nx.length := rfl
 have hS := hJ.s
 obtain ⟨_, v0, v1, v2, v4, vp⟩ := hJ.v
 simp only at v0 v1 v2 v4 vp
 refine own_step_back (K := stK) (sa := ⟨st, 0, none⟩) ?_
 obtain ⟨h1, h2, h3, h4⟩ := hs.wf.hd
 obtain ⟨i, rfl⟩ : ∃ i : Nat, n4 = i := ⟨n4.toNat, by omega⟩
 refine gv_1 (sv := stepperV st) (hx := 0) (i := i) (n := s.k.hd.1) (t := s.k.hd.2) hs.c0 hS.1 fun A' hA' => own_step_call (K := stK) (.stop fun d => k_live (c := ⟨⟨14, n0, n1, n2, n3, (i : Nat), a⟩, A, A1, A2, ab⟩) (c' := ⟨⟨15, s.k.hd.1, s.k.hd.2, n2, n3, (i : Nat), a⟩, A', A1, A2, ab⟩) (k' := s.k) hs (by simp [KSt.step]) rfl ⟨⟨by simp, ⟨h1, h2⟩, ⟨h3, h4⟩, v2, v4, fun h => by simp at h⟩, ⟨hA', hS.2⟩, hJ.a⟩ hc hdis (fun r _ => rfl) d)
theorem ks_15 (hJ : KJ kb st s.m ⟨⟨15, n0, n1, n2, n3, n4, a⟩, A, A1, A2, ab⟩) (hs : KU kb s w) (hc : Ans w ab) (hdis : ¬ KR kb s ab) (hF : ∀ r, KR kb s r ∨ r = ab → F r = none) (b : Frame) (cs : List Frame) :
 Own Try.prog false F ((KLay kb).Out st s (fun r => r = ab) ((KLay kb).stp s ⟨⟨15, n0, n1, n2, n3, n4, a⟩, A, A1, A2, ab⟩) w (b :: cs)) (back (.tuple #[]) ((KLay kb).cf st ⟨⟨15, n0, n1, n2, n3, n4, a⟩, A, A1, A2, ab⟩ ++ b :: cs)) w := by
 have hkb : F kb = none := hF _ (.inl (.inl rfl))
 have hnb : F s.nb = none := hF _ (.inl (.inr rfl))
 have hans : ∀ k, ¬ held F ⟨ab, k, none⟩ := fun k => not_heldB (hF _ (.inr rfl)) k
 have hm := hs.wf.n3
 have hmm : s.m = s.k.nx.length := rfl
 have hS := hJ.s
 obtain ⟨_, v0, v1, v2, v4, vp⟩ := hJ.v
 simp only at v0 v1 v2 v4 vp
 refine own_step_back (K := stK) (sa := ⟨st, 0, none⟩) ?_
 obtain ⟨i, rfl⟩ : ∃ i : Nat, n4 = i := ⟨n4.toNat, by omega⟩
 have hi : i < s.m := by omega
 have hl : (s.k.nx.set i n0).length = s.k.nx.length := List.length_set
 refine gv_2 (sv := stepperV st) (hx := 0) (i := i) (n := n0) (t := n1) ⟨v0.1, by omega⟩ v1 hi hs.c2 (hs.nc hi).1 ((hs.nc hi).2.2 _) (not_heldB hnb _) hS.1 fun A' hA' => own_step_call (K := stK) (.stop fun d => k_live (c := ⟨⟨15, n0, n1, n2, n3, (i : Nat), a⟩, A, A1, A2, ab⟩) (c' := ⟨⟨16, n0, n1, n2, n3, (i : Nat), a⟩, A', A1, A2, ab⟩) (k' := { s.k with nx := s.k.nx.set i n0 }) (hs.setNx hi v0) (by simp [KSt.step]) rfl ⟨⟨by simp, by simpa using v0, v1, by simpa using v2, by simpa using v4, fun h => by simp at h⟩, ⟨hA', hS.2⟩, hJ.a⟩ hc hdis (fun r hr => heap_setCell_ne _ _ _ (fun e => hr (.inr e))) d)
theorem ks_16 (hJ : KJ kb st s.m ⟨⟨16, n0, n1, n2, n3, n4, a⟩, A, A1, A2, ab⟩) (hs : KU kb s w) (hc : Ans w ab) (hdis : ¬ KR kb s ab) (hF : ∀ r, KR kb s r ∨ r = ab → F r = none) (b : Frame) (cs : List Frame) :
 Own Try.prog false F ((KLay kb).Out st s (fun r => r = ab) ((KLay kb).stp s ⟨⟨16, n0, n1, n2, n3, n4, a⟩, A, A1, A2, ab⟩) w (b :: cs)) (back (.tuple #[]) ((KLay kb).cf st ⟨⟨16, n0, n1, n2, n3, n4, a⟩, A, A1, A2, ab⟩ ++ b :: cs)) w := by
 have hkb : F kb = none := hF _ (.inl (.inl rfl))
 have hnb : F s.nb = none := hF _ (.inl (.inr rfl))
 have hans : ∀ k, ¬ held F ⟨ab, k, none⟩ := fun k => not_heldB (hF _ (.inr rfl)) k
 have hm := hs.wf.n3
 have hmm : s.m = s.k.nx.length := rfl
 have hS := hJ.s
 obtain ⟨_, v0, v1, v2, v4, vp⟩ := hJ.v
 simp only at v0 v1 v2 v4 vp
 refine own_step_back (K := stK) (sa := ⟨st, 0, none⟩) ?_
 obtain ⟨i, rfl⟩ : ∃ i : Nat, n4 = i := ⟨n4.toNat, by omega⟩
 obtain ⟨t1, t2⟩ := tag_ok s.k.tg n1
 have hq := (pk_eq hs.wf (n := n0) v1).1
 by_cases e : s.k.hd = (n0, n1)
 ·rw [decide_eq_true e] at hq
  refine gv_3a (sv := stepperV st) (hx := 0) (tg := s.k.tg) (i := i) (n := n0) (t := n1) (cv := pk s.k.hd) hq hs.c3 ⟨v0.1, by omega⟩ v1 ⟨by omega, by omega⟩ hs.c0 (hs.z 0) (not_heldB hkb 0) hS.1 ?_
  have hw2 : Ans (w.setCell ⟨kb, 0, none⟩ (.int .u64 (pk ((i : Int), tagOf s.k.tg n1)))) ab := ans_same hc (heap_setCell_ne _ _ _ fun e => hdis (.inl e))
  refine pu_3 (sv := stepperV st) hS.2 ?_
  exact kdo_pu1 hw2 hans hJ.a (.stop fun d => k_ans (c := ⟨⟨16, n0, n1, n2, n3, (i : Nat), a⟩, A, A1, A2, ab⟩) (an := (true, 0)) (k' := { s.k with hd := ((i : Int), tagOf s.k.tg n1) }) (hs.setHd ⟨by simp only; omega, by simp only; omega, t1.1, t1.2⟩ t2) (by simp [KSt.step, KSt.turn, e, tagOf]) hdis d)
 ·rw [decide_eq_false e] at hq
  refine gv_3b (sv := stepperV st) (hx := 0) (tg := s.k.tg) (i := i) (n := n0) (t := n1) (cv := pk s.k.hd) hq hs.c3 ⟨v0.1, by omega⟩ v1 ⟨by omega, by omega⟩ hs.c0 (hs.z 0) (not_heldB hkb 0) hS.1 fun A' hA' => own_step_call (K := stK) (.stop fun d => k_live (c := ⟨⟨16, n0, n1, n2, n3, (i : Nat), a⟩, A, A1, A2, ab⟩) (c' := ⟨⟨14, n0, n1, n2, n3, (i : Nat), a⟩, A', A1, A2, ab⟩) (k' := s.k) hs (by simp [KSt.step, KSt.turn, e]) rfl ⟨⟨by simp, v0, v1, v2, v4, fun h => by simp at h⟩, ⟨hA', hS.2⟩, hJ.a⟩ hc hdis (fun r _ => rfl) d)
theorem ks_20 (hJ : KJ kb st s.m ⟨⟨20, n0, n1, n2, n3, n4, a⟩, A, A1, A2, ab⟩) (hs : KU kb s w) (hc : Ans w ab) (hdis : ¬ KR kb s ab) (hF : ∀ r, KR kb s r ∨ r = ab → F r = none) (b : Frame) (cs : List Frame) :
 Own Try.prog false F ((KLay kb).Out st s (fun r => r = ab) ((KLay kb).stp s ⟨⟨20, n0, n1, n2, n3, n4, a⟩, A, A1, A2, ab⟩) w (b :: cs)) (back (.tuple #[]) ((KLay kb).cf st ⟨⟨20, n0, n1, n2, n3, n4, a⟩, A, A1, A2, ab⟩ ++ b :: cs)) w := by
 have hkb : F kb = none := hF _ (.inl (.inl rfl))
 have hnb : F s.nb = none := hF _ (.inl (.inr rfl))
 have hans : ∀ k, ¬ held F ⟨ab, k, none⟩ := fun k => not_heldB (hF _ (.inr rfl)) k
 have hm := hs.wf.n3
 have hmm : s.m = s.k.nx.length := rfl
 have hS := hJ.s
 obtain ⟨_, v0, v1, v2, v4, vp⟩ := hJ.v
 simp only at v0 v1 v2 v4 vp
 refine own_step_back (K := stK) (sa := ⟨st, 0, none⟩) ?_
 obtain ⟨h1, h2, h3, h4⟩ := hs.wf.hd
 by_cases hneg : s.k.hd.1 < 0
 ·refine tk_1a (sv := stepperV st) (hx := 0) (n := s.k.hd.1) (t := s.k.hd.2) ⟨h1, by omega⟩ ⟨h3, h4⟩ hneg hs.c0 hS.1 ?_
  refine po_1a (sv := stepperV st) hS.2 ?_
  exact kdo_po1 hc hans hJ.a (.stop fun d => k_ans (c := ⟨⟨20, n0, n1, n2, n3, n4, a⟩, A, A1, A2, ab⟩) (an := (false, 0)) (k' := s.k) hs (by simp [KSt.step, hneg]) hdis d)
 ·refine tk_1b (sv := stepperV st) (hx := 0) (n := s.k.hd.1) (t := s.k.hd.2) ⟨h1, by omega⟩ ⟨h3, h4⟩ hneg hs.c0 hS.1 fun A' hA' => own_step_call (K := stK) (.stop fun d => k_live (c := ⟨⟨20, n0, n1, n2, n3, n4, a⟩, A, A1, A2, ab⟩) (c' := ⟨⟨21, s.k.hd.1, s.k.hd.2, n2, n3, n4, a⟩, A', A1, A2, ab⟩) (k' := s.k) hs (by simp [KSt.step, hneg]) rfl ⟨⟨by simp, ⟨h1, h2⟩, ⟨h3, h4⟩, v2, v4, fun _ => by simp only; omega⟩, ⟨hA', hS.2⟩, hJ.a⟩ hc hdis (fun r _ => rfl) d)
theorem ks_21 (hJ : KJ kb st s.m ⟨⟨21, n0, n1, n2, n3, n4, a⟩, A, A1, A2, ab⟩) (hs : KU kb s w) (hc : Ans w ab) (hdis : ¬ KR kb s ab) (hF : ∀ r, KR kb s r ∨ r = ab → F r = none) (b : Frame) (cs : List Frame) :
 Own Try.prog false F ((KLay kb).Out st s (fun r => r = ab) ((KLay kb).stp s ⟨⟨21, n0, n1, n2, n3, n4, a⟩, A, A1, A2, ab⟩) w (b :: cs)) (back (.tuple #[]) ((KLay kb).cf st ⟨⟨21, n0, n1, n2, n3, n4, a⟩, A, A1, A2, ab⟩ ++ b :: cs)) w := by
 have hkb : F kb = none := hF _ (.inl (.inl rfl))
 have hnb : F s.nb = none := hF _ (.inl (.inr rfl))
 have hans : ∀ k, ¬ held F ⟨ab, k, none⟩ := fun k => not_heldB (hF _ (.inr rfl)) k
 have hm := hs.wf.n3
 have hmm : s.m = s.k.nx.length := rfl
 have hS := hJ.s
 obtain ⟨_, v0, v1, v2, v4, vp⟩ := hJ.v
 simp only at v0 v1 v2 v4 vp
 refine own_step_back (K := stK) (sa := ⟨st, 0, none⟩) ?_
 have hpos := vp (by simp)
 obtain ⟨i, rfl⟩ : ∃ i : Nat, n0 = i := ⟨n0.toNat, by omega⟩
 have hi : i < s.m := by omega
 refine tk_2 (sv := stepperV st) (hx := 0) (i := i) (t := n1) (to := s.k.nx.getD i 0) hi hs.c2 (hs.nc hi).1 hS.1 fun A' hA' => own_step_call (K := stK) (.stop fun d => k_live (c := ⟨⟨21, (i : Nat), n1, n2, n3, n4, a⟩, A, A1, A2, ab⟩) (c' := ⟨⟨22, (i : Nat), n1, (s.k.nx.getD i 0), n3, n4, a⟩, A', A1, A2, ab⟩) (k' := s.k) hs (by simp [KSt.step, KSt.nxt]) rfl ⟨⟨by simp, v0, v1, hs.wf.nxt_ok i, v4, fun _ => by simp only; omega⟩, ⟨hA', hS.2⟩, hJ.a⟩ hc hdis (fun r _ => rfl) d)
theorem ks_22 (hJ : KJ kb st s.m ⟨⟨22, n0, n1, n2, n3, n4, a⟩, A, A1, A2, ab⟩) (hs : KU kb s w) (hc : Ans w ab) (hdis : ¬ KR kb s ab) (hF : ∀ r, KR kb s r ∨ r = ab → F r = none) (b : Frame) (cs : List Frame) :
 Own Try.prog false F ((KLay kb).Out st s (fun r => r = ab) ((KLay kb).stp s ⟨⟨22, n0, n1, n2, n3, n4, a⟩, A, A1, A2, ab⟩) w (b :: cs)) (back (.tuple #[]) ((KLay kb).cf st ⟨⟨22, n0, n1, n2, n3, n4, a⟩, A, A1, A2, ab⟩ ++ b :: cs)) w := by
 have hkb : F kb = none := hF _ (.inl (.inl rfl))
 have hnb : F s.nb = none := hF _ (.inl (.inr rfl))
 have hans : ∀ k, ¬ held F ⟨ab, k, none⟩ := fun k => not_heldB (hF _ (.inr rfl)) k
 have hm := hs.wf.n3
 have hmm : s.m = s.k.nx.length := rfl
 have hS := hJ.s
 obtain ⟨_, v0, v1, v2, v4, vp⟩ := hJ.v
 simp only at v0 v1 v2 v4 vp
 refine own_step_back (K := stK) (sa := ⟨st, 0, none⟩) ?_
 have hpos := vp (by simp)
 obtain ⟨i, rfl⟩ : ∃ i : Nat, n0 = i := ⟨n0.toNat, by omega⟩
 obtain ⟨t1, t2⟩ := tag_ok s.k.tg n1
 have hq := (pk_eq hs.wf (n := (i : Nat)) v1).1
 by_cases e : s.k.hd = ((i : Int), n1)
 ·rw [decide_eq_true e] at hq
  refine tk_3a (sv := stepperV st) (hx := 0) (tg := s.k.tg) (n := (i : Nat)) (t := n1) (to := n2) (cv := pk s.k.hd) hq hs.c3 ⟨v0.1, by omega⟩ v1 ⟨v2.1, by omega⟩ hs.c0 (hs.z 0) (not_heldB hkb 0) hS.1 ?_
  refine po_1b (sv := stepperV st) (i := i) hS.2 fun A' hA' => own_step_call (K := stK) (.stop fun d => k_live (c := ⟨⟨22, (i : Nat), n1, n2, n3, n4, a⟩, A, A1, A2, ab⟩) (c' := ⟨⟨23, (i : Nat), n1, n2, n3, (i : Nat), a⟩, A, A', A2, ab⟩) (k' := { s.k with hd := (n2, tagOf s.k.tg n1) }) (hs.setHd ⟨v2.1, v2.2, t1.1, t1.2⟩ t2) (by simp [KSt.step, KSt.turn, e, tagOf]) rfl ⟨⟨by simp, v0, v1, v2, ⟨hpos, v0.2⟩, fun h => by simp at h⟩, hA', hJ.a⟩ hc hdis (fun r hr => heap_setCell_ne _ _ _ (fun e => hr (.inl e))) d)
 ·rw [decide_eq_false e] at hq
  refine tk_3b (sv := stepperV st) (hx := 0) (tg := s.k.tg) (n := (i : Nat)) (t := n1) (to := n2) (cv := pk s.k.hd) hq hs.c3 ⟨v0.1, by omega⟩ v1 ⟨v2.1, by omega⟩ hs.c0 (hs.z 0) (not_heldB hkb 0) hS.1 fun A' hA' => own_step_call (K := stK) (.stop fun d => k_live (c := ⟨⟨22, (i : Nat), n1, n2, n3, n4, a⟩, A, A1, A2, ab⟩) (c' := ⟨⟨20, (i : Nat), n1, n2, n3, n4, a⟩, A', A1, A2, ab⟩) (k' := s.k) hs (by simp [KSt.step, KSt.turn, e]) rfl ⟨⟨by simp, v0, v1, v2, v4, fun h => by simp at h⟩, ⟨hA', hS.2⟩, hJ.a⟩ hc hdis (fun r _ => rfl) d)
theorem ks_23 (hJ : KJ kb st s.m ⟨⟨23, n0, n1, n2, n3, n4, a⟩, A, A1, A2, ab⟩) (hs : KU kb s w) (hc : Ans w ab) (hdis : ¬ KR kb s ab) (hF : ∀ r, KR kb s r ∨ r = ab → F r = none) (b : Frame) (cs : List Frame) :
 Own Try.prog false F ((KLay kb).Out st s (fun r => r = ab) ((KLay kb).stp s ⟨⟨23, n0, n1, n2, n3, n4, a⟩, A, A1, A2, ab⟩) w (b :: cs)) (back (.tuple #[]) ((KLay kb).cf st ⟨⟨23, n0, n1, n2, n3, n4, a⟩, A, A1, A2, ab⟩ ++ b :: cs)) w := by
 have hkb : F kb = none := hF _ (.inl (.inl rfl))
 have hnb : F s.nb = none := hF _ (.inl (.inr rfl))
 have hans : ∀ k, ¬ held F ⟨ab, k, none⟩ := fun k => not_heldB (hF _ (.inr rfl)) k
 have hm := hs.wf.n3
 have hmm : s.m = s.k.nx.length := rfl
 have hS := hJ.s
 obtain ⟨_, v0, v1, v2, v4, vp⟩ := hJ.v
 simp only at v0 v1 v2 v4 vp
 refine own_step_back (K := stK) (sa := ⟨st, 0, none⟩) ?_
 obtain ⟨i, rfl⟩ : ∃ i : Nat, n4 = i := ⟨n4.toNat, by omega⟩
 have hi : i < s.m := by omega
 refine po_2 (sv := stepperV st) (v := s.k.vl.getD i 0) (i := i) hi hs.c2 (hs.nc hi).2.1 hS fun A1' hA1' => ?_
 refine gv_0 (sv := stepperV st) (hx := 1) (i := i) fun A' hA' => own_step_call (K := stK) (.stop fun d => k_live (c := ⟨⟨23, n0, n1, n2, n3, (i : Nat), a⟩, A, A1, A2, ab⟩) (c' := ⟨⟨24, n0, n1, n2, (s.k.vl.getD i 0), (i : Nat), a⟩, A', A1', A2, ab⟩) (k' := s.k) hs (by simp [KSt.step, KSt.val]) rfl ⟨⟨by simp, v0, v1, v2, v4, fun h => by simp at h⟩, ⟨hA', hA1'⟩, hJ.a⟩ hc hdis (fun r _ => rfl) d)
theorem ks_24 (hJ : KJ kb st s.m ⟨⟨24, n0, n1, n2, n3, n4, a⟩, A, A1, A2, ab⟩) (hs : KU kb s w) (hc : Ans w ab) (hdis : ¬ KR kb s ab) (hF : ∀ r, KR kb s r ∨ r = ab → F r = none) (b : Frame) (cs : List Frame) :
 Own Try.prog false F ((KLay kb).Out st s (fun r => r = ab) ((KLay kb).stp s ⟨⟨24, n0, n1, n2, n3, n4, a⟩, A, A1, A2, ab⟩) w (b :: cs)) (back (.tuple #[]) ((KLay kb).cf st ⟨⟨24, n0, n1, n2, n3, n4, a⟩, A, A1, A2, ab⟩ ++ b :: cs)) w := by
 have hkb : F kb = none := hF _ (.inl (.inl rfl))
 have hnb : F s.nb = none := hF _ (.inl (.inr rfl))
 have hans : ∀ k, ¬ held F ⟨ab, k, none⟩ := fun k => not_heldB (hF _ (.inr rfl)) k
 have hm := hs.wf.n3
 have hmm : s.m = s.k.nx.length := rfl
 have hS := hJ.s
 obtain ⟨_, v0, v1, v2, v4, vp⟩ := hJ.v
 simp only at v0 v1 v2 v4 vp
 refine own_step_back (K := stK) (sa := ⟨st, 0, none⟩) ?_
 obtain ⟨h1, h2, h3, h4⟩ := hs.wf.fr
 obtain ⟨i, rfl⟩ : ∃ i : Nat, n4 = i := ⟨n4.toNat, by omega⟩
 refine gv_1 (sv := stepperV st) (hx := 1) (i := i) (n := s.k.fr.1) (t := s.k.fr.2) hs.c1 hS.1 fun A' hA' => own_step_call (K := stK) (.stop fun d => k_live (c := ⟨⟨24, n0, n1, n2, n3, (i : Nat), a⟩, A, A1, A2, ab⟩) (c' := ⟨⟨25, s.k.fr.1, s.k.fr.2, n2, n3, (i : Nat), a⟩, A', A1, A2, ab⟩) (k' := s.k) hs (by simp [KSt.step]) rfl ⟨⟨by simp, ⟨h1, h2⟩, ⟨h3, h4⟩, v2, v4, fun h => by simp at h⟩, ⟨hA', hS.2⟩, hJ.a⟩ hc hdis (fun r _ => rfl) d)
theorem ks_25 (hJ : KJ kb st s.m ⟨⟨25, n0, n1, n2, n3, n4, a⟩, A, A1, A2, ab⟩) (hs : KU kb s w) (hc : Ans w ab) (hdis : ¬ KR kb s ab) (hF : ∀ r, KR kb s r ∨ r = ab → F r = none) (b : Frame) (cs : List Frame) :
 Own Try.prog false F ((KLay kb).Out st s (fun r => r = ab) ((KLay kb).stp s ⟨⟨25, n0, n1, n2, n3, n4, a⟩, A, A1, A2, ab⟩) w (b :: cs)) (back (.tuple #[]) ((KLay kb).cf st ⟨⟨25, n0, n1, n2, n3, n4, a⟩, A, A1, A2, ab⟩ ++ b :: cs)) w := by
 have hkb : F kb = none := hF _ (.inl (.inl rfl))
 have hnb : F s.nb = none := hF _ (.inl (.inr rfl))
 have hans : ∀ k, ¬ held F ⟨ab, k, none⟩ := fun k => not_heldB (hF _ (.inr rfl)) k
 have hm := hs.wf.n3
 have hmm : s.m = s.k.nx.length := rfl
 have hS := hJ.s
 obtain ⟨_, v0, v1, v2, v4, vp⟩ := hJ.v
 simp only at v0 v1 v2 v4 vp
 refine own_step_back (K := stK) (sa := ⟨st, 0, none⟩) ?_
 obtain ⟨i, rfl⟩ : ∃ i : Nat, n4 = i := ⟨n4.toNat, by omega⟩
 have hi : i < s.m := by omega
 have hl : (s.k.nx.set i n0).length = s.k.nx.length := List.length_set
 refine gv_2 (sv := stepperV st) (hx := 1) (i := i) (n := n0) (t := n1) ⟨v0.1, by omega⟩ v1 hi hs.c2 (hs.nc hi).1 ((hs.nc hi).2.2 _) (not_heldB hnb _) hS.1 fun A' hA' => own_step_call (K := stK) (.stop fun d => k_live (c := ⟨⟨25, n0, n1, n2, n3, (i : Nat), a⟩, A, A1, A2, ab⟩) (c' := ⟨⟨26, n0, n1, n2, n3, (i : Nat), a⟩, A', A1, A2, ab⟩) (k' := { s.k with nx := s.k.nx.set i n0 }) (hs.setNx hi v0) (by simp [KSt.step]) rfl ⟨⟨by simp, by simpa using v0, v1, by simpa using v2, by simpa using v4, fun h => by simp at h⟩, ⟨hA', hS.2⟩, hJ.a⟩ hc hdis (fun r hr => heap_setCell_ne _ _ _ (fun e => hr (.inr e))) d)
theorem ks_26 (hJ : KJ kb st s.m ⟨⟨26, n0, n1, n2, n3, n4, a⟩, A, A1, A2, ab⟩) (hs : KU kb s w) (hc : Ans w ab) (hdis : ¬ KR kb s ab) (hF : ∀ r, KR kb s r ∨ r = ab → F r = none) (b : Frame) (cs : List Frame) :
 Own Try.prog false F ((KLay kb).Out st s (fun r => r = ab) ((KLay kb).stp s ⟨⟨26, n0, n1, n2, n3, n4, a⟩, A, A1, A2, ab⟩) w (b :: cs)) (back (.tuple #[]) ((KLay kb).cf st ⟨⟨26, n0, n1, n2, n3, n4, a⟩, A, A1, A2, ab⟩ ++ b :: cs)) w := by
 have hkb : F kb = none := hF _ (.inl (.inl rfl))
 have hnb : F s.nb = none := hF _ (.inl (.inr rfl))
 have hans : ∀ k, ¬ held F ⟨ab, k, none⟩ := fun k => not_heldB (hF _ (.inr rfl)) k
 have hm := hs.wf.n3
 have hmm : s.m = s.k.nx.length := rfl
 have hS := hJ.s
 obtain ⟨_, v0, v1, v2, v4, vp⟩ := hJ.v
 simp only at v0 v1 v2 v4 vp
 refine own_step_back (K := stK) (sa := ⟨st, 0, none⟩) ?_
 obtain ⟨i, rfl⟩ : ∃ i : Nat, n4 = i := ⟨n4.toNat, by omega⟩
 obtain ⟨t1, t2⟩ := tag_ok s.k.tg n1
 have hq := (pk_eq hs.wf (n := n0) v1).2
 by_cases e : s.k.fr = (n0, n1)
 ·rw [decide_eq_true e] at hq
  refine gv_3a (sv := stepperV st) (hx := 1) (tg := s.k.tg) (i := i) (n := n0) (t := n1) (cv := pk s.k.fr) hq hs.c3 ⟨v0.1, by omega⟩ v1 ⟨by omega, by omega⟩ hs.c1 (hs.z 1) (not_heldB hkb 1) hS.1 ?_
  have hw2 : Ans (w.setCell ⟨kb, 1, none⟩ (.int .u64 (pk ((i : Int), tagOf s.k.tg n1)))) ab := ans_same hc (heap_setCell_ne _ _ _ fun e => hdis (.inl e))
  refine po_3 (sv := stepperV st) hS.2 ?_
  exact kdo_po1 hw2 hans hJ.a (.stop fun d => k_ans (c := ⟨⟨26, n0, n1, n2, n3, (i : Nat), a⟩, A, A1, A2, ab⟩) (an := (true, n3)) (k' := { s.k with fr := ((i : Int), tagOf s.k.tg n1) }) (hs.setFr ⟨by simp only; omega, by simp only; omega, t1.1, t1.2⟩ t2) (by simp [KSt.step, KSt.turn, e, tagOf]) hdis d)
 ·rw [decide_eq_false e] at hq
  refine gv_3b (sv := stepperV st) (hx := 1) (tg := s.k.tg) (i := i) (n := n0) (t := n1) (cv := pk s.k.fr) hq hs.c3 ⟨v0.1, by omega⟩ v1 ⟨by omega, by omega⟩ hs.c1 (hs.z 1) (not_heldB hkb 1) hS.1 fun A' hA' => own_step_call (K := stK) (.stop fun d => k_live (c := ⟨⟨26, n0, n1, n2, n3, (i : Nat), a⟩, A, A1, A2, ab⟩) (c' := ⟨⟨24, n0, n1, n2, n3, (i : Nat), a⟩, A', A1, A2, ab⟩) (k' := s.k) hs (by simp [KSt.step, KSt.turn, e]) rfl ⟨⟨by simp, v0, v1, v2, v4, fun h => by simp at h⟩, ⟨hA', hS.2⟩, hJ.a⟩ hc hdis (fun r _ => rfl) d)
theorem ks_30 (hJ : KJ kb st s.m ⟨⟨30, n0, n1, n2, n3, n4, a⟩, A, A1, A2, ab⟩) (hs : KU kb s w) (hc : Ans w ab) (hdis : ¬ KR kb s ab) (hF : ∀ r, KR kb s r ∨ r = ab → F r = none) (b : Frame) (cs : List Frame) :
 Own Try.prog false F ((KLay kb).Out st s (fun r => r = ab) ((KLay kb).stp s ⟨⟨30, n0, n1, n2, n3, n4, a⟩, A, A1, A2, ab⟩) w (b :: cs)) (back (.tuple #[]) ((KLay kb).cf st ⟨⟨30, n0, n1, n2, n3, n4, a⟩, A, A1, A2, ab⟩ ++ b :: cs)) w := by
 have hkb : F kb = none := hF _ (.inl (.inl rfl))
 have hnb : F s.nb = none := hF _ (.inl (.inr rfl))
 have hans : ∀ k, ¬ held F ⟨ab, k, none⟩ := fun k => not_heldB (hF _ (.inr rfl)) k
 have hm := hs.wf.n3
 have hmm : s.m = s.k.nx.length := rfl
 have hS := hJ.s
 obtain ⟨_, v0, v1, v2, v4, vp⟩ := hJ.v
 simp only at v0 v1 v2 v4 vp
 refine own_step_back (K := stK) (sa := ⟨st, 0, none⟩) ?_
 obtain ⟨h1, h2, h3, h4⟩ := hs.wf.hd
 by_cases hneg : s.k.hd.1 < 0
 ·refine pk_1a (sv := stepperV st) (n := s.k.hd.1) (t := s.k.hd.2) ⟨h1, by omega⟩ ⟨h3, h4⟩ hneg hs.c0 hS ?_
  exact kdo_pe1 hc hans hJ.a (.stop fun d => k_ans (c := ⟨⟨30, n0, n1, n2, n3, n4, a⟩, A, A1, A2, ab⟩) (an := (false, 0)) (k' := s.k) hs (by simp [KSt.step, hneg]) hdis d)
 ·obtain ⟨i, hi⟩ : ∃ i : Nat, s.k.hd.1 = i := ⟨s.k.hd.1.toNat, by omega⟩
  have hc0 := hs.c0
  rw [show s.k.hd = ((i : Int), s.k.hd.2) from Prod.ext hi rfl] at hc0
  refine pk_1b (sv := stepperV st) (i := i) (t := s.k.hd.2) ⟨by omega, by omega⟩ ⟨h3, h4⟩ hc0 hS fun A' hA' => own_step_call (K := stK) (.stop fun d => k_live (c := ⟨⟨30, n0, n1, n2, n3, n4, a⟩, A, A1, A2, ab⟩) (c' := ⟨⟨31, (i : Nat), s.k.hd.2, n2, n3, n4, a⟩, A, A', A2, ab⟩) (k' := s.k) hs (by simp [KSt.step, hneg, hi]) rfl ⟨⟨by simp, ⟨by simp only; omega, by simp only; omega⟩, ⟨h3, h4⟩, v2, v4, fun _ => by simp only; omega⟩, hA', hJ.a⟩ hc hdis (fun r _ => rfl) d)
theorem ks_31 (hJ : KJ kb st s.m ⟨⟨31, n0, n1, n2, n3, n4, a⟩, A, A1, A2, ab⟩) (hs : KU kb s w) (hc : Ans w ab) (hdis : ¬ KR kb s ab) (hF : ∀ r, KR kb s r ∨ r = ab → F r = none) (b : Frame) (cs : List Frame) :
 Own Try.prog false F ((KLay kb).Out st s (fun r => r = ab) ((KLay kb).stp s ⟨⟨31, n0, n1, n2, n3, n4, a⟩, A, A1, A2, ab⟩) w (b :: cs)) (back (.tuple #[]) ((KLay kb).cf st ⟨⟨31, n0, n1, n2, n3, n4, a⟩, A, A1, A2, ab⟩ ++ b :: cs)) w := by
 have hkb : F kb = none := hF _ (.inl (.inl rfl))
 have hnb : F s.nb = none := hF _ (.inl (.inr rfl))
 have hans : ∀ k, ¬ held F ⟨ab, k, none⟩ := fun k => not_heldB (hF _ (.inr rfl)) k
 have hm := hs.wf.n3
 have hmm : s.m = s.k.nx.length := rfl
 have hS := hJ.s
 obtain ⟨_, v0, v1, v2, v4, vp⟩ := hJ.v
 simp only at v0 v1 v2 v4 vp
 refine own_step_back (K := stK) (sa := ⟨st, 0, none⟩) ?_
 have hpos := vp (by simp)
 obtain ⟨i, rfl⟩ : ∃ i : Nat, n0 = i := ⟨n0.toNat, by omega⟩
 have hi : i < s.m := by omega
 refine pk_2 (sv := stepperV st) (i := i) (t := n1) (v0 := s.k.vl.getD i 0) ⟨by omega, by omega⟩ v1 hi hs.c2 (hs.nc hi).2.1 hS fun A' hA' => own_step_call (K := stK) (.stop fun d => k_live (c := ⟨⟨31, (i : Nat), n1, n2, n3, n4, a⟩, A, A1, A2, ab⟩) (c' := ⟨⟨32, (i : Nat), n1, n2, (s.k.vl.getD i 0), n4, a⟩, A, A', A2, ab⟩) (k' := s.k) hs (by simp [KSt.step, KSt.val]) rfl ⟨⟨by simp, v0, v1, v2, v4, fun _ => by simp only; omega⟩, hA', hJ.a⟩ hc hdis (fun r _ => rfl) d)
theorem ks_32 (hJ : KJ kb st s.m ⟨⟨32, n0, n1, n2, n3, n4, a⟩, A, A1, A2, ab⟩) (hs : KU kb s w) (hc : Ans w ab) (hdis : ¬ KR kb s ab) (hF : ∀ r, KR kb s r ∨ r = ab → F r = none) (b : Frame) (cs : List Frame) :
 Own Try.prog false F ((KLay kb).Out st s (fun r => r = ab) ((KLay kb).stp s ⟨⟨32, n0, n1, n2, n3, n4, a⟩, A, A1, A2, ab⟩) w (b :: cs)) (back (.tuple #[]) ((KLay kb).cf st ⟨⟨32, n0, n1, n2, n3, n4, a⟩, A, A1, A2, ab⟩ ++ b :: cs)) w := by
 have hkb : F kb = none := hF _ (.inl (.inl rfl))
 have hnb : F s.nb = none := hF _ (.inl (.inr rfl))
 have hans : ∀ k, ¬ held F ⟨ab, k, none⟩ := fun k => not_heldB (hF _ (.inr rfl)) k
 have hm := hs.wf.n3
 have hmm : s.m = s.k.nx.length := rfl
 have hS := hJ.s
 obtain ⟨_, v0, v1, v2, v4, vp⟩ := hJ.v
 simp only at v0 v1 v2 v4 vp
 refine own_step_back (K := stK) (sa := ⟨st, 0, none⟩) ?_
 have hpos := vp (by simp)
 obtain ⟨i, rfl⟩ : ∃ i : Nat, n0 = i := ⟨n0.toNat, by omega⟩
 obtain ⟨h1, h2, h3, h4⟩ := hs.wf.hd
 have hq := (pk_eq hs.wf (n := (i : Nat)) v1).1
 by_cases e : s.k.hd = ((i : Int), n1)
 ·rw [decide_eq_true e] at hq
  refine pk_3a (sv := stepperV st) (i := i) (t := n1) (v := n3) (n := s.k.hd.1) (u := s.k.hd.2) hq hs.c0 hS ?_
  exact kdo_pe1 hc hans hJ.a (.stop fun d => k_ans (c := ⟨⟨32, (i : Nat), n1, n2, n3, n4, a⟩, A, A1, A2, ab⟩) (an := (true, n3)) (k' := s.k) hs (by simp [KSt.step, e]) hdis d)
 ·rw [decide_eq_false e] at hq
  by_cases hneg : s.k.hd.1 < 0
  ·refine pk_3b (sv := stepperV st) (i := i) (t := n1) (v := n3) (n := s.k.hd.1) (u := s.k.hd.2) hq ⟨h1, by omega⟩ ⟨h3, h4⟩ hneg hs.c0 hS ?_
   exact kdo_pe1 hc hans hJ.a (.stop fun d => k_ans (c := ⟨⟨32, (i : Nat), n1, n2, n3, n4, a⟩, A, A1, A2, ab⟩) (an := (false, 0)) (k' := s.k) hs (by simp [KSt.step, e, hneg]) hdis d)
  ·obtain ⟨j, hj⟩ : ∃ j : Nat, s.k.hd.1 = j := ⟨s.k.hd.1.toNat, by omega⟩
   have ej : s.k.hd = ((j : Int), s.k.hd.2) := Prod.ext hj rfl
   have hc0 := hs.c0
   rw [ej] at hc0
   rw [ej] at hq
   refine pk_3c (sv := stepperV st) (i := i) (j := j) (t := n1) (u := s.k.hd.2) (v := n3) hq ⟨by omega, by omega⟩ ⟨h3, h4⟩ hc0 hS fun A' hA' => own_step_call (K := stK) (.stop fun d => k_live (c := ⟨⟨32, (i : Nat), n1, n2, n3, n4, a⟩, A, A1, A2, ab⟩) (c' := ⟨⟨31, (j : Nat), s.k.hd.2, n2, n3, n4, a⟩, A, A', A2, ab⟩) (k' := s.k) hs (by simp [KSt.step, e, hneg, hj]) rfl ⟨⟨by simp, ⟨by simp only; omega, by simp only; omega⟩, ⟨h3, h4⟩, v2, v4, fun _ => by simp only; omega⟩, hA', hJ.a⟩ hc hdis (fun r _ => rfl) d)
theorem ks_40 (hJ : KJ kb st s.m ⟨⟨40, n0, n1, n2, n3, n4, a⟩, A, A1, A2, ab⟩) (hs : KU kb s w) (hc : Ans w ab) (hdis : ¬ KR kb s ab) (hF : ∀ r, KR kb s r ∨ r = ab → F r = none) (b : Frame) (cs : List Frame) :
 Own Try.prog false F ((KLay kb).Out st s (fun r => r = ab) ((KLay kb).stp s ⟨⟨40, n0, n1, n2, n3, n4, a⟩, A, A1, A2, ab⟩) w (b :: cs)) (back (.tuple #[]) ((KLay kb).cf st ⟨⟨40, n0, n1, n2, n3, n4, a⟩, A, A1, A2, ab⟩ ++ b :: cs)) w := by
 have hkb : F kb = none := hF _ (.inl (.inl rfl))
 have hnb : F s.nb = none := hF _ (.inl (.inr rfl))
 have hans : ∀ k, ¬ held F ⟨ab, k, none⟩ := fun k => not_heldB (hF _ (.inr rfl)) k
 have hm := hs.wf.n3
 have hmm : s.m = s.k.nx.length := rfl
 have hS := hJ.s
 obtain ⟨_, v0, v1, v2, v4, vp⟩ := hJ.v
 simp only at v0 v1 v2 v4 vp
 refine own_step_back (K := stK) (sa := ⟨st, 0, none⟩) ?_
 obtain ⟨h1, h2, h3, h4⟩ := hs.wf.hd
 refine em_1 (sv := stepperV st) (n := s.k.hd.1) (t := s.k.hd.2) ⟨h1, by omega⟩ ⟨h3, h4⟩ hs.c0 hS ?_
 exact kdo_em1 hc hans hJ.a (.stop fun d => k_ans (c := ⟨⟨40, n0, n1, n2, n3, n4, a⟩, A, A1, A2, ab⟩) (an := (decide (s.k.hd.1 < 0), 0)) (k' := s.k) hs (by simp [KSt.step]) hdis d)
end
section
variable {s : KS} {a b0 c0 : Int} {i : Nat}
def op2 (w : World) (k a b c : Int) : World := (w.alloc (.cells #[.int .i64 k, .int .i64 a, .int .i64 b, .int .i64 c] 47)).alloc (.cells #[.bool false, .int .i64 0, .slice none 0 0] 44)
theorem op2_old {k a b c : Int} {r : Nat} (h : r < w.heap.size) : (op2 w k a b c).heap[r]? = w.heap[r]? := old2 _ _ _ h
theorem op2_new {k a b c : Int} : (op2 w k a b c).heap[w.heap.size + 1]? = some (.cells #[.bool false, .int .i64 0, .slice none 0 0] 44 (0, 0)) := new2 w _ _ 44
theorem kv_0 (hs : KU kb s w) {pc : Nat} (h : pc ∈ [10, 20, 30, 40]) (a : Int) : KV s.m ⟨pc, 0, 0, 0, 0, 0, a⟩ := by
 have hm : s.m = s.k.nx.length := rfl
 have h2 := hs.wf.n2
 refine ⟨?_, ⟨by simp only; omega, by simp only; omega⟩, ⟨by simp, by simp⟩, ⟨by simp only; omega, by simp only; omega⟩, ⟨by simp, by simp only; omega⟩, fun h => by simp⟩
 simp at h ⊢
 omega
theorem k_beg {c' : KC} {k a b0 c0 : Int} {W : World} {cs : List Frame} (hs : KU kb s w) (hW : W = op2 w k a b0 c0) (hr : (s.k, .inl c'.c) = s.k.begin ⟨k, a, b0, c0⟩) (hab : c'.ab = w.heap.size + 1) (hJ : KJ kb st s.m c') (d : Nat) :
 (KLay kb).Out st s (fun _ => False) ((KLay kb).beg s i ⟨k, a, b0, c0⟩) w cs (G (Frame.enter Try.prog 133 #[.pointer (some ⟨st, 0, none⟩)] .normal) ((KLay kb).cf st c' ++ cs)) (W.at d) := by
 subst hW
 refine ⟨s, .inl c', ⟨rfl, hr⟩, (hs.same fun r hr => op2_old (hs.low hr)).same fun _ _ => rfl, fun q h => .inl h, hJ, ?_, fun q h => .inr (by have h : q = c'.ab := h; omega), fun q h h2 => ?_, rfl⟩
 ·show Ans ((op2 w k a b0 c0).at d) c'.ab
  rw [hab]
  exact ⟨_, _, _, op2_new⟩
 ·have h : q = c'.ab := h
  have := hs.low h2
  omega
theorem kbeg_pu (hs : KU kb s w) (hwf : Wf F w) (b : Frame) (cs : List Frame) :
 Own Try.prog false F ((KLay kb).Out st s (fun _ => False) ((KLay kb).beg s i ⟨1, a, b0, c0⟩) w (b :: cs)) (G (Frame.enter Try.prog 64 #[.pointer (some ⟨kb, 0, none⟩), stepperV st, .int .i64 i, .agg #[.int .i64 1, .int .i64 a, .int .i64 b0, .int .i64 c0]] .normal) (b :: cs)) w :=
 kdo_pu0 (sv := stepperV st) (wf_under hwf) (Nat.le_refl _) fun A2 hA2 => pu_0 (sv := stepperV st) fun A1 hA1 => tk_0 (sv := stepperV st) (hx := 1) fun A hA => own_step_call (K := stK) (.stop fun d =>
  k_beg (c' := ⟨⟨10, 0, 0, 0, 0, 0, a⟩, A, A1, A2, w.heap.size + 1⟩) hs rfl (by simp [KSt.begin]) rfl ⟨kv_0 hs (by simp) a, ⟨hA, hA1⟩, hA2⟩ d)
theorem kbeg_po (hs : KU kb s w) (hwf : Wf F w) (b : Frame) (cs : List Frame) :
 Own Try.prog false F ((KLay kb).Out st s (fun _ => False) ((KLay kb).beg s i ⟨2, a, b0, c0⟩) w (b :: cs)) (G (Frame.enter Try.prog 64 #[.pointer (some ⟨kb, 0, none⟩), stepperV st, .int .i64 i, .agg #[.int .i64 2, .int .i64 a, .int .i64 b0, .int .i64 c0]] .normal) (b :: cs)) w :=
 kdo_po0 (sv := stepperV st) (wf_under hwf) (Nat.le_refl _) fun A2 hA2 => po_0 (sv := stepperV st) fun A1 hA1 => tk_0 (sv := stepperV st) (hx := 0) fun A hA => own_step_call (K := stK) (.stop fun d =>
  k_beg (c' := ⟨⟨20, 0, 0, 0, 0, 0, 0⟩, A, A1, A2, w.heap.size + 1⟩) hs rfl (by simp [KSt.begin]) rfl ⟨kv_0 hs (by simp) 0, ⟨hA, hA1⟩, hA2⟩ d)
theorem kbeg_pe (hs : KU kb s w) (hwf : Wf F w) (b : Frame) (cs : List Frame) :
 Own Try.prog false F ((KLay kb).Out st s (fun _ => False) ((KLay kb).beg s i ⟨3, a, b0, c0⟩) w (b :: cs)) (G (Frame.enter Try.prog 64 #[.pointer (some ⟨kb, 0, none⟩), stepperV st, .int .i64 i, .agg #[.int .i64 3, .int .i64 a, .int .i64 b0, .int .i64 c0]] .normal) (b :: cs)) w :=
 kdo_pe0 (sv := stepperV st) (wf_under hwf) (Nat.le_refl _) fun A2 hA2 => pk_0 (sv := stepperV st) fun A1 hA1 => own_step_call (K := stK) (.stop fun d =>
  k_beg (c' := ⟨⟨30, 0, 0, 0, 0, 0, 0⟩, A1, A1, A2, w.heap.size + 1⟩) hs rfl (by simp [KSt.begin]) rfl ⟨kv_0 hs (by simp) 0, hA1, hA2⟩ d)
theorem kbeg_em (hs : KU kb s w) (hwf : Wf F w) (b : Frame) (cs : List Frame) :
 Own Try.prog false F ((KLay kb).Out st s (fun _ => False) ((KLay kb).beg s i ⟨4, a, b0, c0⟩) w (b :: cs)) (G (Frame.enter Try.prog 64 #[.pointer (some ⟨kb, 0, none⟩), stepperV st, .int .i64 i, .agg #[.int .i64 4, .int .i64 a, .int .i64 b0, .int .i64 c0]] .normal) (b :: cs)) w :=
 kdo_em0 (sv := stepperV st) (wf_under hwf) (Nat.le_refl _) fun A2 hA2 => em_0 (sv := stepperV st) fun A1 hA1 => own_step_call (K := stK) (.stop fun d =>
  k_beg (c' := ⟨⟨40, 0, 0, 0, 0, 0, 0⟩, A1, A1, A2, w.heap.size + 1⟩) hs rfl (by simp [KSt.begin]) rfl ⟨kv_0 hs (by simp) 0, hA1, hA2⟩ d)
theorem kbeg_other {kd : Int} (h1 : kd ≠ 1) (h2 : kd ≠ 2) (h3 : kd ≠ 3) (h4 : kd ≠ 4) (hs : KU kb s w) (hwf : Wf F w) (b : Frame) (cs : List Frame) :
 Own Try.prog false F ((KLay kb).Out st s (fun _ => False) ((KLay kb).beg s i ⟨kd, a, b0, c0⟩) w (b :: cs)) (G (Frame.enter Try.prog 64 #[.pointer (some ⟨kb, 0, none⟩), stepperV st, .int .i64 i, .agg #[.int .i64 kd, .int .i64 a, .int .i64 b0, .int .i64 c0]] .normal) (b :: cs)) w := by
 refine kdo_other (sv := stepperV st) (wf_under hwf) (Nat.le_refl _) (by simpa using h1) (by simpa using h2) (by simpa using h3) (by simpa using h4) (.stop fun d => ?_)
 refine ⟨s, .inr (false, 0), ⟨rfl, by simp [KSt.begin, h1, h2, h3, h4]⟩, hs.same fun r hr => ?_, fun r hr => .inl hr, trivial, fun q h => h.elim, fun q h => h.elim, rfl⟩
 have hlt := hs.low hr
 exact (ansW_same (by omega)).trans (old2 _ _ _ hlt)
end
theorem begin_len (s : KSt) (o : Op4) : (s.begin o).1.nx.length = s.nx.length := by
 unfold KSt.begin
 repeat' split
 all_goals rfl
theorem klay_ok (kb : Nat) : (KLay kb).Ok where
 call := callable64
 jb := fun st s s' c i o r h hb => by
  have e : s'.m = s.m := by
   have := congrArg (fun x : KSt × KRs => x.1.nx.length) hb.2
   exact this.trans (begin_len _ _)
  show KJ kb st s'.m c
  rw [e]
  exact h
 js := fun st s s' c c1 r h hb => by
  have e : s'.m = s.m := by
   have := congrArg (fun x : KSt × KRs => x.1.nx.length) hb.2
   exact this.trans (step_len _ _)
  show KJ kb st s'.m c
  rw [e]
  exact h
 plain := by
  intro st c
  refine ⟨by simp [KLay], fun u hu => ?_⟩
  have hu : u ∈ stepFr stK ⟨st, 0, none⟩ :: c.fr := hu
  rcases List.mem_cons.1 hu with rfl | hu
  ·exact plain_base ⟨_, Try.func79⟩ _ _
  ·unfold KC.fr at hu
   split at hu <;>
   ·simp only [List.mem_cons, List.mem_nil_iff, or_false, List.not_mem_nil] at hu
    repeat' (rcases hu with rfl | hu)
    all_goals first
     | exact plain_base ⟨_, Try.func78⟩ _ _
     | exact plain_base ⟨_, Try.func80⟩ _ _
     | exact plain_base ⟨_, Try.func45⟩ _ _
     | exact plain_base ⟨_, Try.func43⟩ _ _
     | exact plain_base ⟨_, Try.func44⟩ _ _
     | exact plain_base ⟨_, Try.func46⟩ _ _
     | exact plain_base ⟨_, Try.func64⟩ _ _
     | (subst hu
        exact plain_base ⟨_, Try.func64⟩ _ _)
 sS := fun s w w' h _ hs => KU.same h hs
 sC := fun c w w' h _ hs => ans_same h (hs _ rfl)
 sA := fun _ _ _ _ _ _ => trivial
 lS := fun s w r h hr => KU.low h hr
 lC := by
  rintro c w r h rfl
  obtain ⟨_, _, _, h1⟩ := h.o
  exact (alt h1)
 lA := fun _ _ _ _ h => h.elim
 beg := by
  intro s i o st F w c cs hs hwf hF
  obtain ⟨kd, a, b0, c0⟩ := o
  by_cases h1 : kd = 1
  ·subst h1
   exact kbeg_pu hs hwf c cs
  ·by_cases h2 : kd = 2
   ·subst h2
    exact kbeg_po hs hwf c cs
   ·by_cases h3 : kd = 3
    ·subst h3
     exact kbeg_pe hs hwf c cs
    ·by_cases h4 : kd = 4
     ·subst h4
      exact kbeg_em hs hwf c cs
     ·exact kbeg_other h1 h2 h3 h4 hs hwf c cs
 stp := by
  intro s c st F w b cs hJ hs hc hdis hwf hF
  obtain ⟨⟨pc, n0, n1, n2, n3, n4, a⟩, A, A1, A2, ab⟩ := c
  have hJ : KJ kb st s.m ⟨⟨pc, n0, n1, n2, n3, n4, a⟩, A, A1, A2, ab⟩ := hJ
  have hpc := hJ.v.pc
  have hd : ¬ KR kb s ab := hdis ab rfl
  simp only [List.mem_cons, List.not_mem_nil, or_false] at hpc
  rcases hpc with rfl | rfl | rfl | rfl | rfl | rfl | rfl | rfl | rfl | rfl | rfl | rfl | rfl | rfl | rfl | rfl | rfl | rfl
  ·exact ks_10 hJ hs hc hd hF b cs
  ·exact ks_11 hJ hs hc hd hF b cs
  ·exact ks_12 hJ hs hc hd hF b cs
  ·exact ks_13 hJ hs hc hd hF b cs
  ·exact ks_14 hJ hs hc hd hF b cs
  ·exact ks_15 hJ hs hc hd hF b cs
  ·exact ks_16 hJ hs hc hd hF b cs
  ·exact ks_20 hJ hs hc hd hF b cs
  ·exact ks_21 hJ hs hc hd hF b cs
  ·exact ks_22 hJ hs hc hd hF b cs
  ·exact ks_23 hJ hs hc hd hF b cs
  ·exact ks_24 hJ hs hc hd hF b cs
  ·exact ks_25 hJ hs hc hd hF b cs
  ·exact ks_26 hJ hs hc hd hF b cs
  ·exact ks_30 hJ hs hc hd hF b cs
  ·exact ks_31 hJ hs hc hd hF b cs
  ·exact ks_32 hJ hs hc hd hF b cs
  ·exact ks_40 hJ hs hc hd hF b cs
end
section
variable {w w' : World} {kb : Nat}
def KSt.push1 (s : KSt) (v : Int) : KSt :=
 if s.fr.1 < 0 then s else
  { s with fr := (s.nxt s.fr.1, tagOf s.tg s.fr.2), vl := s.vl.set s.fr.1.toNat v, nx := s.nx.set s.fr.1.toNat s.hd.1, hd := (s.fr.1, tagOf s.tg s.hd.2) }
def KSt.pop1 (s : KSt) : KSt :=
 if s.hd.1 < 0 then s else
  { s with hd := (s.nxt s.hd.1, tagOf s.tg s.hd.2), nx := s.nx.set s.hd.1.toNat s.fr.1, fr := (s.hd.1, tagOf s.tg s.fr.2) }
structure Stepr (sv : Value) (main : Bool) (sb : Nat) (X : Nat → World → Prop) : Prop where
 tick : ∀ (m : Nat) (w : World) (c : Frame) (cs : List Frame) (Stop : Goroutine → World → Prop), X m w → m < 4611686018427387904 → (∀ w', X (m + 1) w' → w'.heap.size = w.heap.size → (∀ r, r ≠ sb → w'.heap[r]? = w.heap[r]?) → Own Try.prog main F0 Stop (G (c.finish (.tuple #[])) cs) w') →
  Own Try.prog main F0 Stop (G (Frame.enter Try.prog 79 #[sv] .normal) (c :: cs)) w
 keep : ∀ (m : Nat) (w w' : World), X m w → w'.heap[sb]? = w.heap[sb]? → X m w'
structure AlK (kb sb : Nat) (X : Nat → World → Prop) (w0 : World) (s0 s : KS) (m : Nat) (w : World) : Prop where
 u : KU kb s w
 nb : s.nb = s0.nb
 x : X m w
 sz : w.heap.size = w0.heap.size
 o : ∀ r, r ≠ sb → ¬ KR kb s0 r → w.heap[r]? = w0.heap[r]?
section
variable {sv : Value} {main : Bool} {sb m : Nat} {X : Nat → World → Prop} {w0 : World} {s0 s s' : KS}
theorem AlK.tick (h : AlK kb sb X w0 s0 s m w) (hsb : ¬ KR kb s0 sb) (hx : X (m + 1) w') (hs : w'.heap.size = w.heap.size) (ho : ∀ r, r ≠ sb → w'.heap[r]? = w.heap[r]?) : AlK kb sb X w0 s0 s (m + 1) w' :=
 ⟨h.u.same fun r hr => ho r fun e => hsb (by subst e; rcases hr with hr | hr; exact .inl hr; exact .inr (hr.trans h.nb)), h.nb, hx, hs.trans h.sz, fun r hr hk => (ho r hr).trans (h.o r hr hk)⟩
theorem AlK.set (S : Stepr sv main sb X) (h : AlK kb sb X w0 s0 s m w) (hsb : ¬ KR kb s0 sb) {ad : Addr} {v : Value} (hu : KU kb s' (w.setCell ad v)) (hn : s'.nb = s0.nb) (ha : ad.block = kb ∨ ad.block = s.nb) : AlK kb sb X w0 s0 s' m (w.setCell ad v) := by
 have hk : KR kb s0 ad.block := by
  rcases ha with h1 | h1
  ·exact .inl h1
  ·exact .inr (h1.trans h.nb)
 exact ⟨hu, hn, S.keep m _ _ h.x (heap_setCell_ne _ _ _ fun e => hsb (by rw [e]; exact hk)), by rw [World.size_setCell]; exact h.sz, fun r hr hkr => (heap_setCell_ne _ _ _ fun e => hkr (by rw [e]; exact hk)).trans (h.o r hr hkr)⟩
theorem notF0 (a : Addr) : ¬ held F0 a := fun h => by obtain ⟨z, hz, _⟩ := h; cases hz
theorem own_push {v : Int} (S : Stepr sv main sb X) (hU : KU kb s w) (hX : X m w) (hm : m + 7 < 4611686018427387904) (hsb : ¬ KR kb s sb) {c : Frame} {cs : List Frame} {Stop : Goroutine → World → Prop}
 (K : ∀ w', AlK kb sb X w s ⟨s.k.push1 v, s.nb⟩ (m + if s.k.fr.1 < 0 then 1 else 7) w' → Own Try.prog main F0 Stop (G (c.finish (.bool (decide (¬ s.k.fr.1 < 0)))) cs) w') :
 Own Try.prog main F0 Stop (G (Frame.enter Try.prog 45 #[.pointer (some ⟨kb, 0, none⟩), sv, .int .i64 v] .normal) (c :: cs)) w := by
 have a0 : AlK kb sb X w s s m w := ⟨hU, rfl, hX, rfl, fun _ _ _ => rfl⟩
 refine pu_0 fun A1 hA1 => tk_0 fun A hA => S.tick _ _ _ _ _ a0.x (by omega) fun w1 hx hz ho => ?_
 have a1 := a0.tick hsb hx hz ho
 clear hx hz ho
 obtain ⟨h1, h2, h3, h4⟩ := hU.wf.fr
 have hmx := hU.wf.n3
 have hmm : s.m = s.k.nx.length := rfl
 by_cases hneg : s.k.fr.1 < 0
 ·refine tk_1a (hx := 1) (n := s.k.fr.1) (t := s.k.fr.2) ⟨h1, by omega⟩ ⟨h3, h4⟩ hneg a1.u.c1 hA ?_
  refine pu_1a (sv := sv) hA1 ?_
  have k := K w1 (by simp only [KSt.push1, if_pos hneg]; exact a1)
  simpa [hneg] using k
 obtain ⟨i, ei⟩ : ∃ i : Nat, s.k.fr.1 = i := ⟨s.k.fr.1.toNat, by omega⟩
 have hi : i < s.m := by omega
 refine tk_1b (hx := 1) (n := s.k.fr.1) (t := s.k.fr.2) ⟨h1, by omega⟩ ⟨h3, h4⟩ hneg a1.u.c1 hA fun A hA => S.tick _ _ _ _ _ a1.x (by omega) fun w2 hx hz ho => ?_
 have a2 := a1.tick hsb hx hz ho
 clear hx hz ho
 rw [ei] at hA
 refine tk_2 (hx := 1) (i := i) (t := s.k.fr.2) (to := s.k.nx.getD i 0) hi a2.u.c2 (a2.u.nc hi).1 hA fun A hA => S.tick _ _ _ _ _ a2.x (by omega) fun w3 hx hz ho => ?_
 have a3 := a2.tick hsb hx hz ho
 clear hx hz ho
 obtain ⟨n1, n2⟩ := hU.wf.nxt_ok i
 obtain ⟨t1, t2⟩ := tag_ok s.k.tg s.k.fr.2
 have ex : s.k.fr = ((i : Int), s.k.fr.2) := Prod.ext ei rfl
 have hcx := a3.u.c1
 rw [ex] at hcx
 refine tk_3a (hx := 1) (tg := s.k.tg) (n := (i : Nat)) (t := s.k.fr.2) (to := s.k.nx.getD i 0) (cv := pk ((i : Int), s.k.fr.2)) (by simp) a3.u.c3 ⟨by omega, by omega⟩ ⟨h3, h4⟩ ⟨n1, by omega⟩ hcx (a3.u.z 1) (notF0 _) hA ?_
 have a4 := a3.set S hsb (s' := ⟨{ s.k with fr := (s.k.nx.getD i 0, tagOf s.k.tg s.k.fr.2) }, s.nb⟩) (a3.u.setFr ⟨n1, n2, t1.1, t1.2⟩ t2) rfl (.inl rfl)
 refine pu_1b (sv := sv) (i := i) hA1 fun A1 hA1 => S.tick _ _ _ _ _ a4.x (by omega) fun w5 hx hz ho => ?_
 have a5 := a4.tick hsb hx hz ho
 clear hx hz ho
 refine pu_2 (v := v) (i := i) hi a5.u.c2 (a5.u.nc hi).2.1 ((a5.u.nc hi).2.2 _) (notF0 _) hA1 fun A1 hA1 => ?_
 have a6 := a5.set S hsb (s' := ⟨{ s.k with fr := (s.k.nx.getD i 0, tagOf s.k.tg s.k.fr.2), vl := s.k.vl.set i v }, s.nb⟩) (a5.u.setVl hi) rfl (.inr rfl)
 refine gv_0 (hx := 0) (i := i) fun A hA => S.tick _ _ _ _ _ a6.x (by omega) fun w7 hx hz ho => ?_
 have a7 := a6.tick hsb hx hz ho
 clear hx hz ho
 obtain ⟨g1, g2, g3, g4⟩ := hU.wf.hd
 refine gv_1 (hx := 0) (i := i) (n := s.k.hd.1) (t := s.k.hd.2) a7.u.c0 hA fun A hA => S.tick _ _ _ _ _ a7.x (by omega) fun w8 hx hz ho => ?_
 have a8 := a7.tick hsb hx hz ho
 clear hx hz ho
 refine gv_2 (hx := 0) (i := i) (n := s.k.hd.1) (t := s.k.hd.2) ⟨g1, by omega⟩ ⟨g3, g4⟩ hi a8.u.c2 (a8.u.nc hi).1 ((a8.u.nc hi).2.2 _) (notF0 _) hA fun A hA => ?_
 have a9 := a8.set S hsb (s' := ⟨{ s.k with fr := (s.k.nx.getD i 0, tagOf s.k.tg s.k.fr.2), vl := s.k.vl.set i v, nx := s.k.nx.set i s.k.hd.1 }, s.nb⟩) (a8.u.setNx hi ⟨g1, g2⟩) rfl (.inr rfl)
 refine S.tick _ _ _ _ _ a9.x (by omega) fun w9 hx hz ho => ?_
 have b1 := a9.tick hsb hx hz ho
 clear hx hz ho
 obtain ⟨u1, u2⟩ := tag_ok s.k.tg s.k.hd.2
 refine gv_3a (hx := 0) (tg := s.k.tg) (i := i) (n := s.k.hd.1) (t := s.k.hd.2) (cv := pk s.k.hd) (by simp) b1.u.c3 ⟨g1, by omega⟩ ⟨g3, g4⟩ ⟨by omega, by omega⟩ b1.u.c0 (b1.u.z 0) (notF0 _) hA ?_
 have hsm : ((i : Nat) : Int) < (KS.m ⟨{ s.k with fr := (s.k.nx.getD i 0, tagOf s.k.tg s.k.fr.2), vl := s.k.vl.set i v, nx := s.k.nx.set i s.k.hd.1 }, s.nb⟩ : Nat) := by simp [KS.m]; omega
 have b2 := b1.set S hsb (s' := ⟨{ s.k with fr := (s.k.nx.getD i 0, tagOf s.k.tg s.k.fr.2), vl := s.k.vl.set i v, nx := s.k.nx.set i s.k.hd.1, hd := ((i : Int), tagOf s.k.tg s.k.hd.2) }, s.nb⟩) (b1.u.setHd ⟨by omega, hsm, u1.1, u1.2⟩ u2) rfl (.inl rfl)
 refine pu_3 (sv := sv) hA1 ?_
 have k := K _ (by
  simp only [KSt.push1, if_neg hneg, KSt.nxt, ei, Int.toNat_natCast]
  exact b2)
 have hni : ¬ ((i : Nat) : Int) < 0 := by omega
 simpa [hneg, KSt.val, ei, hni] using k
theorem own_pop (S : Stepr sv main sb X) (hU : KU kb s w) (hX : X m w) (hm : m + 7 < 4611686018427387904) (hsb : ¬ KR kb s sb) {c : Frame} {cs : List Frame} {Stop : Goroutine → World → Prop}
 (K : ∀ w', AlK kb sb X w s ⟨s.k.pop1, s.nb⟩ (m + if s.k.hd.1 < 0 then 1 else 7) w' → Own Try.prog main F0 Stop (G (c.finish (.tuple #[.int .i64 (if s.k.hd.1 < 0 then 0 else s.k.val s.k.hd.1), .bool (decide (¬ s.k.hd.1 < 0))])) cs) w') :
 Own Try.prog main F0 Stop (G (Frame.enter Try.prog 43 #[.pointer (some ⟨kb, 0, none⟩), sv] .normal) (c :: cs)) w := by
 have a0 : AlK kb sb X w s s m w := ⟨hU, rfl, hX, rfl, fun _ _ _ => rfl⟩
 refine po_0 fun A1 hA1 => tk_0 fun A hA => S.tick _ _ _ _ _ a0.x (by omega) fun w1 hx hz ho => ?_
 have a1 := a0.tick hsb hx hz ho
 clear hx hz ho
 obtain ⟨h1, h2, h3, h4⟩ := hU.wf.hd
 have hmx := hU.wf.n3
 have hmm : s.m = s.k.nx.length := rfl
 by_cases hneg : s.k.hd.1 < 0
 ·refine tk_1a (hx := 0) (n := s.k.hd.1) (t := s.k.hd.2) ⟨h1, by omega⟩ ⟨h3, h4⟩ hneg a1.u.c0 hA ?_
  refine po_1a (sv := sv) hA1 ?_
  have k := K w1 (by simp only [KSt.pop1, if_pos hneg]; exact a1)
  simpa [hneg] using k
 obtain ⟨i, ei⟩ : ∃ i : Nat, s.k.hd.1 = i := ⟨s.k.hd.1.toNat, by omega⟩
 have hi : i < s.m := by omega
 refine tk_1b (hx := 0) (n := s.k.hd.1) (t := s.k.hd.2) ⟨h1, by omega⟩ ⟨h3, h4⟩ hneg a1.u.c0 hA fun A hA => S.tick _ _ _ _ _ a1.x (by omega) fun w2 hx hz ho => ?_
 have a2 := a1.tick hsb hx hz ho
 clear hx hz ho
 rw [ei] at hA
 refine tk_2 (hx := 0) (i := i) (t := s.k.hd.2) (to := s.k.nx.getD i 0) hi a2.u.c2 (a2.u.nc hi).1 hA fun A hA => S.tick _ _ _ _ _ a2.x (by omega) fun w3 hx hz ho => ?_
 have a3 := a2.tick hsb hx hz ho
 clear hx hz ho
 obtain ⟨n1, n2⟩ := hU.wf.nxt_ok i
 obtain ⟨t1, t2⟩ := tag_ok s.k.tg s.k.hd.2
 have ex : s.k.hd = ((i : Int), s.k.hd.2) := Prod.ext ei rfl
 have hcx := a3.u.c0
 rw [ex] at hcx
 refine tk_3a (hx := 0) (tg := s.k.tg) (n := (i : Nat)) (t := s.k.hd.2) (to := s.k.nx.getD i 0) (cv := pk ((i : Int), s.k.hd.2)) (by simp) a3.u.c3 ⟨by omega, by omega⟩ ⟨h3, h4⟩ ⟨n1, by omega⟩ hcx (a3.u.z 0) (notF0 _) hA ?_
 have a4 := a3.set S hsb (s' := ⟨{ s.k with hd := (s.k.nx.getD i 0, tagOf s.k.tg s.k.hd.2) }, s.nb⟩) (a3.u.setHd ⟨n1, n2, t1.1, t1.2⟩ t2) rfl (.inl rfl)
 refine po_1b (sv := sv) (i := i) hA1 fun A1 hA1 => S.tick _ _ _ _ _ a4.x (by omega) fun w5 hx hz ho => ?_
 have a5 := a4.tick hsb hx hz ho
 clear hx hz ho
 refine po_2 (v := s.k.vl.getD i 0) (i := i) hi a5.u.c2 (a5.u.nc hi).2.1 hA1 fun A1 hA1 => ?_
 have a6 := a5
 refine gv_0 (hx := 1) (i := i) fun A hA => S.tick _ _ _ _ _ a6.x (by omega) fun w7 hx hz ho => ?_
 have a7 := a6.tick hsb hx hz ho
 clear hx hz ho
 obtain ⟨g1, g2, g3, g4⟩ := hU.wf.fr
 refine gv_1 (hx := 1) (i := i) (n := s.k.fr.1) (t := s.k.fr.2) a7.u.c1 hA fun A hA => S.tick _ _ _ _ _ a7.x (by omega) fun w8 hx hz ho => ?_
 have a8 := a7.tick hsb hx hz ho
 clear hx hz ho
 refine gv_2 (hx := 1) (i := i) (n := s.k.fr.1) (t := s.k.fr.2) ⟨g1, by omega⟩ ⟨g3, g4⟩ hi a8.u.c2 (a8.u.nc hi).1 ((a8.u.nc hi).2.2 _) (notF0 _) hA fun A hA => ?_
 have a9 := a8.set S hsb (s' := ⟨{ s.k with hd := (s.k.nx.getD i 0, tagOf s.k.tg s.k.hd.2), nx := s.k.nx.set i s.k.fr.1 }, s.nb⟩) (a8.u.setNx hi ⟨g1, g2⟩) rfl (.inr rfl)
 refine S.tick _ _ _ _ _ a9.x (by omega) fun w9 hx hz ho => ?_
 have b1 := a9.tick hsb hx hz ho
 clear hx hz ho
 obtain ⟨u1, u2⟩ := tag_ok s.k.tg s.k.fr.2
 refine gv_3a (hx := 1) (tg := s.k.tg) (i := i) (n := s.k.fr.1) (t := s.k.fr.2) (cv := pk s.k.fr) (by simp) b1.u.c3 ⟨g1, by omega⟩ ⟨g3, g4⟩ ⟨by omega, by omega⟩ b1.u.c1 (b1.u.z 1) (notF0 _) hA ?_
 have hsm : ((i : Nat) : Int) < (KS.m ⟨{ s.k with hd := (s.k.nx.getD i 0, tagOf s.k.tg s.k.hd.2), nx := s.k.nx.set i s.k.fr.1 }, s.nb⟩ : Nat) := by simp [KS.m]; omega
 have b2 := b1.set S hsb (s' := ⟨{ s.k with hd := (s.k.nx.getD i 0, tagOf s.k.tg s.k.hd.2), nx := s.k.nx.set i s.k.fr.1, fr := ((i : Int), tagOf s.k.tg s.k.fr.2) }, s.nb⟩) (b1.u.setFr ⟨by omega, hsm, u1.1, u1.2⟩ u2) rfl (.inl rfl)
 refine po_3 (sv := sv) hA1 ?_
 have k := K _ (by
  simp only [KSt.pop1, if_neg hneg, KSt.nxt, ei, Int.toNat_natCast]
  exact b2)
 have hni : ¬ ((i : Nat) : Int) < 0 := by omega
 simpa [hneg, KSt.val, ei, hni] using k
end
end
noncomputable section
variable {F : Fz} {w : World}
@[go_sem] theorem neq_nn (w : World) : (binOp .neq 105 .nilIface .nilIface).run Try.prog w = .ok (.bool false) w := by kernel_rfl
@[go_sem] theorem neq_nnE (w : World) (es : Array Event) : (binOp .neq 105 .nilIface .nilIface).events Try.prog w es = es := by kernel_rfl
theorem own_step_nil {c : Frame} {cs : List Frame} {main : Bool} {Stop : Goroutine → World → Prop} (h : Own Try.prog main F Stop (G (c.finish (.tuple #[])) cs) w) :
 Own Try.prog main F Stop (G (Frame.enter Try.prog 79 #[.nilIface] .normal) (c :: cs)) w := by
 rw [enter_qst]
 walk_nrm
 refine ogSR qsts0' qstr0' ?_
 simp only [qstr0, qstBody, Try.f79, zz, Nat.reduceAdd]
 iterate 2 (refine oW fun dd K hK => ?_; go_simp; refine qT hK ?_; clear hK K)
 refine ogE ?_
 rw [qstc3']
 refine ogF ?_
 simp only [Bool.false_eq_true, if_false]
 refine ogK ?_
 refine own_go rfl (fun d => stepG_end) ?_
 refine own_go rfl (fun d => stepG_leave (fn := Try.f79) (v := .tuple #[]) rfl rfl Try.func79 (by simp [results, Try.f79]) (by simp [results, Try.f79, go_sem])) ?_
 exact h
theorem nilS (main : Bool) (sb : Nat) : Stepr .nilIface main sb fun _ _ => True :=
 ⟨fun m w c cs Stop _ _ K => own_step_nil (K w trivial rfl fun _ _ => rfl), fun _ _ _ _ _ => trivial⟩
def kszBody : Code := Try.f40.body.getD .skip
def kszs0 := pC [] kszBody
def kszr0 := pC [zt] kszBody
def kszs1 := pC [zf] kszBody
def kszs2 := pC [zf,zt] kszBody
def kszr1 := pC [zf,zt,zt] kszBody
def kszc4 := pC [zf,zt,zf] kszBody
def kszs3 := pC [zf,zt,zf,zt] kszBody
def kszs4 := pC [zf,zf] kszBody
def kszr3 := pC [zf,zf,zt] kszBody
theorem kszs0' : kszs0 = .seq kszr0 kszs1 := by kernel_rfl
theorem kszr0' : kszr0 = .region 0 (oC kszr0) false := by kernel_rfl
theorem kszs1' : kszs1 = .seq kszs2 kszs4 := by kernel_rfl
theorem kszs2' : kszs2 = .seq kszr1 kszc4 := by kernel_rfl
theorem kszr1' : kszr1 = .region 1 (oC kszr1) false := by kernel_rfl
theorem kszc4' : kszc4 = .cond (.tmp 4) kszs3 .skip := by kernel_rfl
theorem kszs4' : kszs4 = .seq kszr3 .ret := by kernel_rfl
theorem kszr3' : kszr3 = .region 3 (oC kszr3) false := by kernel_rfl
theorem enter_ksz (args : Array Value) : Frame.enter Try.prog 40 args .normal = (Go.Conc.base 40).at { tmps := args ++ Array.replicate (10 - args.size) undef, defers := [] } [.code kszs0] := enter_at args Try.func40 rfl
theorem callable40 : Callable 40 := callable Try.func40 rfl rfl
theorem own_size {kb : Nat} {s : KS} (hU : KU kb s w) {v : Int} (hv : ((s.m : Nat) : Int) = v) {c : Frame} {cs : List Frame} {main : Bool} {Stop : Goroutine → World → Prop} (h : Own Try.prog main F Stop (G (c.finish (.int .i64 v)) cs) w) :
 Own Try.prog main F Stop (G (Frame.enter Try.prog 40 #[.pointer (some ⟨kb, 0, none⟩)] .normal) (c :: cs)) w := by
 have c2 := hU.c2.c2
 clear hU
 subst hv
 rw [enter_ksz]
 walk_nrm
 refine ogSR kszs0' kszr0' ?_
 simp only [kszr0, kszBody, Try.f40, zz, Nat.reduceAdd]
 (refine oW fun dd K hK => ?_; go_simp; refine qT hK ?_; clear hK K)
 refine ogE ?_
 refine ogSE kszs1' ?_
 refine ogSR kszs2' kszr1' ?_
 simp only [kszr1, kszBody, Try.f40, zz, Nat.reduceAdd]
 iterate 2 (refine oW fun dd K hK => ?_; go_simp; refine qT hK ?_; clear hK K)
 refine ogE ?_
 rw [kszc4']
 refine ogF ?_
 simp only [Bool.false_eq_true, if_false]
 refine ogK ?_
 refine ogSR kszs4' kszr3' ?_
 simp only [kszr3, kszBody, Try.f40, zz, Nat.reduceAdd]
 iterate 3 (refine oW fun dd K hK => ?_; go_simp; refine qT hK ?_; clear hK K)
 (refine oW fun dd K hK => ?_; go_simp; refine qL hK ?_; clear hK K)
 iterate 2 (refine oW fun dd K hK => ?_; go_simp; refine qT hK ?_; clear hK K)
 refine ogE ?_
 refine ogX ?_
 refine own_go rfl (fun d => stepG_leave (fn := Try.f40) (v := .int .i64 (s.m : Nat)) rfl rfl Try.func40 (by simp [results, Try.f40]) (by simp [results, Try.f40, go_sem])) ?_
 exact h
end
noncomputable section
variable {cs : List Frame} {main : Bool} {Stop : Goroutine → World → Prop}
variable {F : Fz} {w : World}
def diBody : Code := Try.f81.body.getD .skip
def dis0 := pC [] diBody
def dir0 := pC [zt] diBody
def dis1 := pC [zf] diBody
def dir1 := pC [zf,zt] diBody
def dis2 := pC [zf,zf] diBody
def dir2 := pC [zf,zf,zt] diBody
def dis3 := pC [zf,zf,zf] diBody
def dir3 := pC [zf,zf,zf,zt] diBody
def dis4 := pC [zf,zf,zf,zf] diBody
def dis5 := pC [zf,zf,zf,zf,zt] diBody
def dir4 := pC [zf,zf,zf,zf,zt,zt] diBody
def dib0 := pC [zf,zf,zf,zf,zt,zf] diBody
def dil6 := pC [zf,zf,zf,zf,zt,zf,zt] diBody
def dis7 := pC [zf,zf,zf,zf,zt,zf,zt,zt] diBody
def dir5 := pC [zf,zf,zf,zf,zt,zf,zt,zt,zt] diBody
def dis8 := pC [zf,zf,zf,zf,zt,zf,zt,zt,zf] diBody
def dic18 := pC [zf,zf,zf,zf,zt,zf,zt,zt,zf,zt] diBody
def dis9 := pC [zf,zf,zf,zf,zt,zf,zt,zt,zf,zf] diBody
def dib1 := pC [zf,zf,zf,zf,zt,zf,zt,zt,zf,zf,zt] diBody
def dis10 := pC [zf,zf,zf,zf,zt,zf,zt,zt,zf,zf,zt,zt] diBody
def dir6 := pC [zf,zf,zf,zf,zt,zf,zt,zt,zf,zf,zt,zt,zt] diBody
def dis11 := pC [zf,zf,zf,zf,zt,zf,zt,zt,zf,zf,zt,zt,zf] diBody
def dir7 := pC [zf,zf,zf,zf,zt,zf,zt,zt,zf,zf,zt,zt,zf,zt] diBody
def dir8 := pC [zf,zf,zf,zf,zt,zf,zt,zt,zf,zf,zt,zt,zf,zf] diBody
def dir9 := pC [zf,zf,zf,zf,zt,zf,zt,zt,zf,zf,zf] diBody
def dis12 := pC [zf,zf,zf,zf,zf] diBody
def dir10 := pC [zf,zf,zf,zf,zf,zt] diBody
theorem dis0' : dis0 = .seq dir0 dis1 := by kernel_rfl
theorem dir0' : dir0 = .region 0 (oC dir0) false := by kernel_rfl
theorem dis1' : dis1 = .seq dir1 dis2 := by kernel_rfl
theorem dir1' : dir1 = .region 1 (oC dir1) false := by kernel_rfl
theorem dis2' : dis2 = .seq dir2 dis3 := by kernel_rfl
theorem dir2' : dir2 = .region 2 (oC dir2) false := by kernel_rfl
theorem dis3' : dis3 = .seq dir3 dis4 := by kernel_rfl
theorem dir3' : dir3 = .region 3 (oC dir3) false := by kernel_rfl
theorem dis4' : dis4 = .seq dis5 dis12 := by kernel_rfl
theorem dis5' : dis5 = .seq dir4 dib0 := by kernel_rfl
theorem dir4' : dir4 = .region 4 (oC dir4) false := by kernel_rfl
theorem dib0' : dib0 = .block 0 dil6 := by kernel_rfl
theorem dil6' : dil6 = .loop dis7 := by kernel_rfl
theorem dis7' : dis7 = .seq dir5 dis8 := by kernel_rfl
theorem dir5' : dir5 = .region 5 (oC dir5) false := by kernel_rfl
theorem dis8' : dis8 = .seq dic18 dis9 := by kernel_rfl
theorem dic18' : dic18 = .cond (.tmp 18) .skip (.exit 0) := by kernel_rfl
theorem dis9' : dis9 = .seq dib1 dir9 := by kernel_rfl
theorem dib1' : dib1 = .block 1 dis10 := by kernel_rfl
theorem dis10' : dis10 = .seq dir6 dis11 := by kernel_rfl
theorem dir6' : dir6 = .region 6 (oC dir6) false := by kernel_rfl
theorem dis11' : dis11 = .seq dir7 dir8 := by kernel_rfl
theorem dir7' : dir7 = .region 7 (oC dir7) true := by kernel_rfl
theorem dir8' : dir8 = .region 8 (oC dir8) false := by kernel_rfl
theorem dir9' : dir9 = .region 9 (oC dir9) false := by kernel_rfl
theorem dis12' : dis12 = .seq dir10 .ret := by kernel_rfl
theorem dir10' : dir10 = .region 10 (oC dir10) true := by kernel_rfl
theorem enter_di (args : Array Value) : Frame.enter Try.prog 81 args .normal = (Go.Conc.base 81).at { tmps := args ++ Array.replicate (38 - args.size) undef, defers := [] } [.code dis0] := enter_at args Try.func81 rfl
theorem callable81 : Callable 81 := callable Try.func81 rfl rfl
def diT (s : Nat → Value) : Array Value := #[s 0, s 1, s 2, s 3, s 4, s 5, s 6, s 7, s 8, s 9, s 10, s 11, s 12, s 13, s 14, s 15, s 16, s 17, s 18, s 19, s 20, s 21, s 22, s 23, s 24, s 25, s 26, s 27, s 28, s 29, s 30, s 31, s 32, s 33, s 34, s 35, s 36, s 37]
theorem diT_of {A : Array Value} (h : A.size = 38) : ∃ s, A = diT s := by
 obtain ⟨s, hs, _⟩ := arr_lit A h
 exact ⟨s, hs⟩
theorem info42 : ∃ i, Try.prog.info? 42 = some i ∧ i.zero = some (.slice none 0 0) ∧ i.size = 1 ∧ i.bytes = 24 := by
 have h : (Try.prog.info? 42).map (fun i => (i.size, i.bytes)) = some (1, 24) := by kernel_rfl
 have h0 : (Try.prog.info? 42).bind (·.zero) = some (.slice none 0 0) := by kernel_rfl
 obtain ⟨i, hi, h1⟩ := Option.map_eq_some_iff.1 h
 rw [hi] at h0
 simp only [Prod.mk.injEq] at h1
 exact ⟨i, hi, h0, h1.1, h1.2⟩
section
variable {n : Nat} {es : Array Event}
@[go_sem] theorem mkSlice29 (h : n ≤ 64) : (Instr.makeSlice 29 (.int .i64 n) (.int .i64 n)).run Try.prog w = .ok (.slice (some ⟨w.heap.size, 0, none⟩) n n) (w.alloc (.cells (madeCells #[.slice none 0 0] n) 42)) := by
 obtain ⟨i, hi, hz, hs, hb⟩ := info42
 have := run_make (P := Try.prog) w 29 42 i (.slice none 0 0) Try.underlying29 hi hz .i64 .i64 n n (by omega) (by omega) (by rw [hb]; omega) (by omega)
 rw [hs] at this
 simpa [Value.cells] using this
@[go_sem] theorem mkSlice29e (h : n ≤ 64) : (Instr.makeSlice 29 (.int .i64 n) (.int .i64 n)).events Try.prog w es = es := by
 obtain ⟨i, hi, hz, hs, hb⟩ := info42
 exact events_make (P := Try.prog) w 29 42 i (.slice none 0 0) Try.underlying29 hi hz .i64 .i64 n n (by omega) (by omega) (by rw [hb]; omega) (by omega) (by rw [hb]; omega) es
end
theorem set_new27 (X : World) (u v : Value) : (X.alloc (.cells #[u] 29)).setCell ⟨X.heap.size, 0, none⟩ v = X.alloc (.cells #[v] 29) := by go_simp
theorem di_0 {nn : Nat} (hU : Under F nn) (hn : nn ≤ w.heap.size) {ta : Option Addr} {tl tc n df : Nat} {first capt : Array Value} (hn1 : min tl 64 = n)
 (h : ∀ A, Slots 38 A [(0, .slice ta tl tc), (3, .pointer (some ⟨w.heap.size, 0, none⟩)), (6, .int .i64 n)] → Own Try.prog main F Stop (G ((Go.Conc.base 81).at ⟨A, []⟩ [.code dis2]) cs) (w.alloc (.cells #[.func (.func df) first capt] 98))) :
 Own Try.prog main F Stop (G (Frame.enter Try.prog 81 #[.slice ta tl tc, .func (.func df) first capt] .normal) cs) w := by
 have hn2 : (if (64 : Int) < (tl : Int) then (64 : Int) else tl) = (n : Int) := by split <;> omega
 rw [enter_di]
 walk_nrm
 refine ogSR dis0' dir0' ?_
 simp only [dir0, diBody, Try.f81, zz, Nat.reduceAdd]
 (refine oW fun dd K hK => ?_; go_simp; refine qA hK hU ?_; clear hK K)
 iterate 2 (refine oW fun dd K hK => ?_; go_simp; refine qT hK ?_; clear hK K)
 refine ogE ?_
 refine ogSR dis1' dir1' ?_
 simp only [dir1, diBody, Try.f81, zz, Nat.reduceAdd]
 iterate 4 (refine oW fun dd K hK => ?_; go_simp; refine qT hK ?_; clear hK K)
 refine ogE ?_
 refine h _ ?_
 exact ⟨rfl, rfl, rfl, rfl, trivial⟩
theorem di_1 {nn : Nat} (hU : Under F nn) (hn : nn ≤ w.heap.size) {ta : Option Addr} {tl tc n db : Nat} (hn64 : n ≤ 64) {A : Array Value} (hA : Slots 38 A [(0, .slice ta tl tc), (3, .pointer (some ⟨db, 0, none⟩)), (6, .int .i64 n)])
 (h : ∀ A, Slots 38 A [(0, .slice ta tl tc), (3, .pointer (some ⟨db, 0, none⟩)), (6, .int .i64 n), (7, .pointer (some ⟨w.heap.size + 1, 0, none⟩)), (8, .slice none 0 0), (16, .int .i64 n), (17, .int .i64 (0 : Nat))] → Own Try.prog main F Stop (G ((Go.Conc.base 81).at ⟨A, []⟩ [.code dis7, .inLoop dis7, .inBlock 0, .code dis12]) cs) ((w.alloc (.cells (madeCells #[.slice none 0 0] n) 42)).alloc (.cells #[.slice (some ⟨w.heap.size, 0, none⟩) n n] 29))) :
 Own Try.prog main F Stop (G ((Go.Conc.base 81).at ⟨A, []⟩ [.code dis2]) cs) w := by
 obtain ⟨hsz, h0, h3, h6, _⟩ := hA
 obtain ⟨s, rfl⟩ := diT_of hsz
 change s 0 = _ at h0
 change s 3 = _ at h3
 change s 6 = _ at h6
 clear hsz
 simp only [diT, h0, h3, h6]
 clear h0 h3 h6
 refine ogSR dis2' dir2' ?_
 simp only [dir2, diBody, Try.f81, zz, Nat.reduceAdd]
 (refine oW fun dd K hK => ?_; go_simp; refine qT hK ?_; clear hK K)
 (refine oW fun dd K hK => ?_; go_simp; refine hK _ _ ⟨⟨⟨0, grew_alloc hU (by first | (simp [go_sem]; done) | (simp [go_sem]; omega)) _⟩, fun e he => by (have hm := mem_listed he; clear he hK; simp [go_sem, storedEv, mkSlice29e hn64] at hm)⟩, ?_⟩; clear hK K; rw [alloc_at']; refine Own.at ?_ dd)
 (refine oW fun dd K hK => ?_; go_simp; refine qA hK hU ?_; clear hK K)
 (refine oW fun dd K hK => ?_; go_simp; refine qS hK hU ?_; clear hK K)
 have e1 := set_new27 (w.alloc (.cells (madeCells #[.slice none 0 0] n) 42)) (.slice none 0 0) (.slice (some ⟨w.heap.size, 0, none⟩) n n)
 simp only [World.size_alloc] at e1
 rw [e1]
 clear e1
 refine ogE ?_
 refine ogSR dis3' dir3' ?_
 simp only [dir3, diBody, Try.f81, zz, Nat.reduceAdd]
 (refine oW fun dd K hK => ?_; go_simp; refine qT hK ?_; clear hK K)
 refine ogE ?_
 refine ogSE dis4' ?_
 refine ogSR dis5' dir4' ?_
 simp only [dir4, diBody, Try.f81, zz, Nat.reduceAdd]
 iterate 2 (refine oW fun dd K hK => ?_; go_simp; refine qT hK ?_; clear hK K)
 refine ogE ?_
 rw [dib0']
 refine ogB ?_
 rw [dil6']
 refine ogP ?_
 refine h _ ?_
 exact ⟨rfl, rfl, rfl, rfl, rfl, rfl, rfl, rfl, trivial⟩
theorem di_5 {ta : Option Addr} {tl tc n db av : Nat} {l : Value} {A : Array Value} (hA : Slots 38 A [(0, .slice ta tl tc), (3, .pointer (some ⟨db, 0, none⟩)), (6, .int .i64 n), (7, .pointer (some ⟨av, 0, none⟩)), (8, l), (16, .int .i64 n), (17, .int .i64 n)])
 (h : ∀ A, Slots 38 A [(0, .slice ta tl tc), (3, .pointer (some ⟨db, 0, none⟩)), (6, .int .i64 n), (7, .pointer (some ⟨av, 0, none⟩)), (8, l), (16, .int .i64 n), (17, .int .i64 n)] → Own Try.prog main F Stop (G ((Go.Conc.base 81).at ⟨A, []⟩ [.code dir10, .code .ret]) cs) w) :
 Own Try.prog main F Stop (G ((Go.Conc.base 81).at ⟨A, []⟩ [.code dis7, .inLoop dis7, .inBlock 0, .code dis12]) cs) w := by
 obtain ⟨hsz, h0, h3, h6, h7, h8, h16, h17, _⟩ := hA
 obtain ⟨s, rfl⟩ := diT_of hsz
 change s 0 = _ at h0
 change s 3 = _ at h3
 change s 6 = _ at h6
 change s 7 = _ at h7
 change s 8 = _ at h8
 change s 16 = _ at h16
 change s 17 = _ at h17
 clear hsz
 simp only [diT, h0, h3, h6, h7, h8, h16, h17]
 clear h0 h3 h6 h7 h8 h16 h17
 have hlt : decide ((n : Int) < (n : Int)) = false := by simp
 refine ogSR dis7' dir5' ?_
 simp only [dir5, diBody, Try.f81, zz, Nat.reduceAdd]
 (refine oW fun dd K hK => ?_; go_simp; refine qT hK ?_; clear hK K)
 refine ogE ?_
 refine ogSE dis8' ?_
 rw [dic18']
 refine ogF ?_
 simp only [Bool.false_eq_true, if_false]
 refine own_go rfl (fun d => stepG_exit rfl) ?_
 refine ogSE dis12' ?_
 refine h _ ?_
 exact ⟨rfl, rfl, rfl, rfl, rfl, rfl, rfl, rfl, trivial⟩
theorem di_2 {nn : Nat} (hU : Under F nn) (hn : nn ≤ w.heap.size) {ta : Option Addr} {tl tc n db av k : Nat} {l : Value} (hk : k < n) {A : Array Value} (hA : Slots 38 A [(0, .slice ta tl tc), (3, .pointer (some ⟨db, 0, none⟩)), (6, .int .i64 n), (7, .pointer (some ⟨av, 0, none⟩)), (8, l), (16, .int .i64 n), (17, .int .i64 k)])
 (h : ∀ A, Slots 38 A ((9, .pointer (some ⟨w.heap.size, 0, none⟩)) :: [(0, .slice ta tl tc), (3, .pointer (some ⟨db, 0, none⟩)), (6, .int .i64 n), (7, .pointer (some ⟨av, 0, none⟩)), (8, l), (16, .int .i64 n), (17, .int .i64 k)]) → Own Try.prog main F Stop (G ((Go.Conc.base 81).at ⟨A, []⟩ [.code dis11, .inBlock 1, .code dir9, .inLoop dis7, .inBlock 0, .code dis12]) cs) (w.alloc (.cells #[.int .i64 k] 3))) :
 Own Try.prog main F Stop (G ((Go.Conc.base 81).at ⟨A, []⟩ [.code dis7, .inLoop dis7, .inBlock 0, .code dis12]) cs) w := by
 obtain ⟨hsz, h0, h3, h6, h7, h8, h16, h17, _⟩ := hA
 obtain ⟨s, rfl⟩ := diT_of hsz
 change s 0 = _ at h0
 change s 3 = _ at h3
 change s 6 = _ at h6
 change s 7 = _ at h7
 change s 8 = _ at h8
 change s 16 = _ at h16
 change s 17 = _ at h17
 clear hsz
 simp only [diT, h0, h3, h6, h7, h8, h16, h17]
 clear h0 h3 h6 h7 h8 h16 h17
 have hlt : decide ((k : Int) < (n : Int)) = true := by simp; omega
 have hlt2 : decide (k < n) = true := by simp; omega
 refine ogSR dis7' dir5' ?_
 simp only [dir5, diBody, Try.f81, zz, Nat.reduceAdd]
 (refine oW fun dd K hK => ?_; go_simp; refine qT hK ?_; clear hK K)
 refine ogE ?_
 refine ogSE dis8' ?_
 rw [dic18']
 refine ogT ?_
 simp only [if_true]
 refine ogK ?_
 refine ogSE dis9' ?_
 rw [dib1']
 refine ogB ?_
 refine ogSR dis10' dir6' ?_
 simp only [dir6, diBody, Try.f81, zz, Nat.reduceAdd]
 (refine oW fun dd K hK => ?_; go_simp; refine qT hK ?_; clear hK K)
 (refine oW fun dd K hK => ?_; go_simp; refine qA hK hU ?_; clear hK K)
 (refine oW fun dd K hK => ?_; go_simp; refine qS hK hU ?_; clear hK K)
 rw [set_new]
 refine ogE ?_
 refine h _ ?_
 exact ⟨rfl, rfl, rfl, rfl, rfl, rfl, rfl, rfl, rfl, trivial⟩
end
section
variable {F : Fz} {w : World}
structure SD (nn ib tb o k ol oc : Nat) (oa : Option Addr) (u : World) : Prop where
 top : nn ≤ u.heap.size
 il : ib < u.heap.size
 tl : tb < u.heap.size
 ci : u.cell? ⟨ib, 0, none⟩ = some (.int .i64 k)
 zi : u.frozen? ⟨ib, 0, none⟩ = false
 ct : u.cell? ⟨tb, o + k, none⟩ = some (.slice oa ol oc)
 zt : u.frozen? ⟨tb, o + k, none⟩ = false
section
variable {nn ib tb o k ol oc : Nat} {oa : Option Addr} {u : World}
theorem SD.at (h : SD nn ib tb o k ol oc oa u) (d : Nat) : SD nn ib tb o k ol oc oa (u.at d) := ⟨h.top, h.il, h.tl, h.ci, h.zi, h.ct, h.zt⟩
theorem SD.alloc (h : SD nn ib tb o k ol oc oa u) (ob : Obj) : SD nn ib tb o k ol oc oa (u.alloc ob) := by
 have e1 : (u.alloc ob).heap[ib]? = u.heap[ib]? := heap_alloc_lt _ _ h.il
 have e2 : (u.alloc ob).heap[tb]? = u.heap[tb]? := heap_alloc_lt _ _ h.tl
 refine ⟨by simp; have := h.top; omega, by simp; have := h.il; omega, by simp; have := h.tl; omega, ?_, ?_, ?_, ?_⟩
 ·rw [← h.ci]; unfold World.cell?; simp only [e1]
 ·rw [← h.zi]; unfold World.frozen?; simp only [e1]
 ·rw [← h.ct]; unfold World.cell?; simp only [e2]
 ·rw [← h.zt]; unfold World.frozen?; simp only [e2]
end
theorem set_new32 (X : World) (u v : Value) : (X.alloc (.cells #[u] 34)).setCell ⟨X.heap.size, 0, none⟩ v = X.alloc (.cells #[v] 34) := by go_simp
theorem info47 : ∃ i, Try.prog.info? 47 = some i ∧ i.size = 4 := by
 have h : (Try.prog.info? 47).map (fun i => i.size) = some 4 := by kernel_rfl
 obtain ⟨i, hi, h1⟩ := Option.map_eq_some_iff.1 h
 exact ⟨i, hi, h1⟩
theorem slice_h {w : World} {a : Option Addr} {ol oc m : Nat} (hmc : m ≤ oc) : (Instr.sliceAt 34 (.slice a ol oc) none (some (.int .i64 m)) none).run Try.prog w = .ok (.slice a m oc) w := by
 obtain ⟨i, hi, hs⟩ := info47
 have hu : Try.prog.underlying 34 = some (.slice 47) := Try.underlying34
 have e : a.map (fun x : Addr => x.add 0) = a := by
  cases a with
  | none => rfl
  | some x => simp [Addr.add]
 have hm : (m : Int) ≤ oc := by omega
 simp [Instr.sliceAt, Instr.slice, run_underlying hu, Instr.sliceBounds, run_sliceBound, sizeOf, typeInfo, hi, hs, hmc, hm, e]
theorem slice_he {w : World} {es : Array Event} {a : Option Addr} {ol oc m : Nat} (hmc : m ≤ oc) : (Instr.sliceAt 34 (.slice a ol oc) none (some (.int .i64 m)) none).events Try.prog w es = es := by
 obtain ⟨i, hi, hs⟩ := info47
 have hu : Try.prog.underlying 34 = some (.slice 47) := Try.underlying34
 have hm : (m : Int) ≤ oc := by omega
 simp [Instr.sliceAt, Instr.slice, run_underlying hu, Instr.sliceBounds, Instr.sliceBound, asIntOf, run_sliceBound, sizeOf, typeInfo, hi, hs, hmc, hm]
theorem di_3 {nn : Nat} (hU : Under F nn) {tb o tl tc n db av ib k ol oc m : Nat} {oa : Option Addr} {l : Value} (hkt : k < tl) (hm0 : min ol 65536 = m) (hoc : ol ≤ oc) (hs : SD nn ib tb o k ol oc oa w) {A : Array Value} (hA : Slots 38 A ((9, .pointer (some ⟨ib, 0, none⟩)) :: [(0, .slice (some ⟨tb, o, none⟩) tl tc), (3, .pointer (some ⟨db, 0, none⟩)), (6, .int .i64 n), (7, .pointer (some ⟨av, 0, none⟩)), (8, l), (16, .int .i64 n), (17, .int .i64 k)])) {cs : List Frame} {main : Bool} {Stop : Goroutine → World → Prop} {kk : List Item}
 (h : ∀ A, Slots 38 A ((9, .pointer (some ⟨ib, 0, none⟩)) :: (10, .pointer (some ⟨w.heap.size, 0, none⟩)) :: [(0, .slice (some ⟨tb, o, none⟩) tl tc), (3, .pointer (some ⟨db, 0, none⟩)), (6, .int .i64 n), (7, .pointer (some ⟨av, 0, none⟩)), (8, l), (16, .int .i64 n), (17, .int .i64 k)]) → Own Try.prog main F Stop (G ((Go.Conc.base 81).at ⟨A, []⟩ kk) cs) (w.alloc (.cells #[.slice oa m oc] 34))) :
 Own Try.prog main F Stop (G ((Go.Conc.base 81).at ⟨A, []⟩ (.code dir7 :: kk)) cs) w := by
 obtain ⟨hsz, h9, h0, h3, h6, h7, h8, h16, h17, _⟩ := hA
 obtain ⟨s, rfl⟩ := diT_of hsz
 change s 9 = _ at h9
 change s 0 = _ at h0
 change s 3 = _ at h3
 change s 6 = _ at h6
 change s 7 = _ at h7
 change s 8 = _ at h8
 change s 16 = _ at h16
 change s 17 = _ at h17
 clear hsz
 simp only [diT, h9, h0, h3, h6, h7, h8, h16, h17]
 clear h9 h0 h3 h6 h7 h8 h16 h17
 have hmc : m ≤ oc := by omega
 have hm2 : (if (65536 : Int) < (ol : Int) then (65536 : Int) else ol) = (m : Int) := by split <;> omega
 have hS : ∀ u d, SD nn ib tb o k ol oc oa u → SD nn ib tb o k ol oc oa (World.at u d) := fun u d h => h.at d
 rw [dir7']
 refine own_drawnM (SD nn ib tb o k ol oc oa) (last := 12) run_mixed (ll_of (by kernel_rfl)) (by decide) ?_
 simp only [dir7, diBody, Try.f81, zz, Nat.reduceAdd]
 have hZ : ∀ a u d, Own Try.prog main F Stop (G ((Go.Conc.base 81).at a (.inRegion (oC dir7) [12] :: kk)) cs) u → Own Try.prog main F Stop (G ((Go.Conc.base 81).at a (.inRegion (oC dir7) [12] :: kk)) cs) (World.at u d) := fun a u d h => h.at d
 simp only [dir7, diBody, Try.f81, zz, Nat.reduceAdd] at hZ
 refine anyM_take hS hZ (i := 0) (v := .slice (some ⟨tb, o, none⟩) tl tc) hs rfl rfl (by kernel_rfl) (by kernel_rfl) (by kernel_rfl) (fun u hu => .inl ⟨rfl, fun d => ⟨by simp [go_sem, execOp, Act.eval], fun e he => by have hm := mem_listed he; simp [go_sem, execOp, Act.eval] at hm⟩⟩) ?_
 walk_nrm
 refine anyM_take hS hZ (i := 1) (v := .int .i64 k) hs rfl rfl (by kernel_rfl) (by kernel_rfl) (by kernel_rfl) (fun u hu => .inl ⟨rfl, fun d => ⟨by simp [go_sem, execOp, Act.eval, hu.ci, hu.zi], fun e he => by have hm := mem_listed he; simp [go_sem, execOp, Act.eval, hu.ci, hu.zi] at hm; subst hm; exact evT_read _ _⟩⟩) ?_
 walk_nrm
 refine anyM_take hS hZ (i := 2) (v := .pointer (some ⟨tb, o + k, none⟩)) hs rfl rfl (by kernel_rfl) (by kernel_rfl) (by kernel_rfl) (fun u hu => .inl ⟨rfl, fun d => ⟨by simp [go_sem, execOp, Act.eval, hkt], fun e he => by have hm := mem_listed he; simp [go_sem, execOp, Act.eval, hkt] at hm⟩⟩) ?_
 walk_nrm
 refine anyM_take hS hZ (i := 3) (v := .slice oa ol oc) hs rfl rfl (by kernel_rfl) (by kernel_rfl) (by kernel_rfl) (fun u hu => .inl ⟨rfl, fun d => ⟨by simp [go_sem, execOp, Act.eval, hu.ct, hu.zt], fun e he => by have hm := mem_listed he; simp [go_sem, execOp, Act.eval, hu.ct, hu.zt] at hm; subst hm; exact evT_read _ _⟩⟩) ?_
 walk_nrm
 refine anyM_take hS hZ (i := 4) (v := .slice (some ⟨tb, o, none⟩) tl tc) hs rfl rfl (by kernel_rfl) (by kernel_rfl) (by kernel_rfl) (fun u hu => .inl ⟨rfl, fun d => ⟨by simp [go_sem, execOp, Act.eval], fun e he => by have hm := mem_listed he; simp [go_sem, execOp, Act.eval] at hm⟩⟩) ?_
 walk_nrm
 refine anyM_take hS hZ (i := 5) (v := .int .i64 k) hs rfl rfl (by kernel_rfl) (by kernel_rfl) (by kernel_rfl) (fun u hu => .inl ⟨rfl, fun d => ⟨by simp [go_sem, execOp, Act.eval, hu.ci, hu.zi], fun e he => by have hm := mem_listed he; simp [go_sem, execOp, Act.eval, hu.ci, hu.zi] at hm; subst hm; exact evT_read _ _⟩⟩) ?_
 walk_nrm
 refine anyM_take hS hZ (i := 6) (v := .pointer (some ⟨tb, o + k, none⟩)) hs rfl rfl (by kernel_rfl) (by kernel_rfl) (by kernel_rfl) (fun u hu => .inl ⟨rfl, fun d => ⟨by simp [go_sem, execOp, Act.eval, hkt], fun e he => by have hm := mem_listed he; simp [go_sem, execOp, Act.eval, hkt] at hm⟩⟩) ?_
 walk_nrm
 refine anyM_take hS hZ (i := 7) (v := .slice oa ol oc) hs rfl rfl (by kernel_rfl) (by kernel_rfl) (by kernel_rfl) (fun u hu => .inl ⟨rfl, fun d => ⟨by simp [go_sem, execOp, Act.eval, hu.ct, hu.zt], fun e he => by have hm := mem_listed he; simp [go_sem, execOp, Act.eval, hu.ct, hu.zt] at hm; subst hm; exact evT_read _ _⟩⟩) ?_
 walk_nrm
 refine anyM_take hS hZ (i := 8) (v := .int .i64 ol) hs rfl rfl (by kernel_rfl) (by kernel_rfl) (by kernel_rfl) (fun u hu => .inl ⟨rfl, fun d => ⟨by simp [go_sem, execOp, Act.eval], fun e he => by have hm := mem_listed he; simp [go_sem, execOp, Act.eval] at hm⟩⟩) ?_
 walk_nrm
 refine anyM_take hS hZ (i := 9) (v := .int .i64 m) hs rfl rfl (by kernel_rfl) (by kernel_rfl) (by kernel_rfl) (fun u hu => .inl ⟨rfl, fun d => ⟨by simp [go_sem, execOp, Act.eval, hm2], fun e he => by have hm := mem_listed he; simp [go_sem, execOp, Act.eval, hm2] at hm⟩⟩) ?_
 walk_nrm
 refine anyM_take hS hZ (i := 10) (v := .slice oa m oc) hs rfl rfl (by kernel_rfl) (by kernel_rfl) (by kernel_rfl) (fun u hu => .inl ⟨rfl, fun d => ⟨by simp [go_sem, execOp, Act.eval, slice_h hmc, slice_he hmc], fun e he => by have hm := mem_listed he; simp [go_sem, execOp, Act.eval, slice_h hmc, slice_he hmc] at hm⟩⟩) ?_
 walk_nrm
 refine anyM_all (r := [11]) (by kernel_rfl) (by kernel_rfl) (fun i hi hil => ?_)
 simp only [List.mem_cons, List.not_mem_nil, or_false] at hi
 subst hi
 refine opm_k rfl rfl (fun d K' hK' => ?_)
 go_simp
 refine hK' _ _ ⟨⟨⟨0, grew_alloc hU (show nn ≤ (w.at d).heap.size from hs.top) _⟩, fun e he => by (have hm := mem_listed he; simp [go_sem] at hm)⟩, (hs.at d).alloc _, ?_⟩
 clear hK' K'
 rw [alloc_at']
 refine anyM_at hS hZ _ _ _ _ ?_ d
 refine anyM_end (by kernel_rfl) ?_ _
 have hn := hs.top
 (refine oW fun dd K hK => ?_; go_simp; refine qS hK hU ?_; clear hK K)
 rw [set_new32]
 refine ogE ?_
 refine h _ ?_
 exact ⟨rfl, rfl, rfl, rfl, rfl, rfl, rfl, rfl, rfl, rfl, trivial⟩
end
section
variable {w : World}
theorem mask_F0 (w : World) : mask F0 w = w := by
 have e : (mask F0 w).heap = w.heap := by
  apply Array.ext_getElem?
  intro r
  rw [mask_get]
  cases h : w.heap[r]? with
  | none => rfl
  | some o => cases o <;> rfl
 calc mask F0 w = { w with heap := (mask F0 w).heap } := rfl
  _ = w := by rw [e]
theorem under_F0 : Under F0 0 := fun r z h => by cases h
theorem wf_F0 (w : World) : Wf F0 w := ⟨fun r z h => by cases h⟩
theorem info112 : ∃ i, Try.prog.info? 112 = some i ∧ i.zero = some .nilFunc ∧ i.size = 1 ∧ i.bytes = 8 := by
 have h : (Try.prog.info? 112).map (fun i => (i.size, i.bytes)) = some (1, 8) := by kernel_rfl
 have h0 : (Try.prog.info? 112).bind (·.zero) = some .nilFunc := by kernel_rfl
 obtain ⟨i, hi, h1⟩ := Option.map_eq_some_iff.1 h
 rw [hi] at h0
 simp only [Prod.mk.injEq] at h1
 exact ⟨i, hi, h0, h1.1, h1.2⟩
def cl68 (ob db ib av : Nat) : Value := .func (.func 99) #[] #[.pointer (some ⟨ob, 0, none⟩), .pointer (some ⟨db, 0, none⟩), .pointer (some ⟨ib, 0, none⟩), .pointer (some ⟨av, 0, none⟩)]
theorem di_4 {ta : Option Addr} {tl tc n db av ib ob k base : Nat} {l : Value} {xs : List Value} (hk : k < 64) (hb : base ≤ w.heap.size) (hrow : w.ownsRow base 112 1 l k xs) {A : Array Value} (hA : Slots 38 A ((9, .pointer (some ⟨ib, 0, none⟩)) :: (10, .pointer (some ⟨ob, 0, none⟩)) :: [(0, .slice ta tl tc), (3, .pointer (some ⟨db, 0, none⟩)), (6, .int .i64 n), (7, .pointer (some ⟨av, 0, none⟩)), (8, l), (16, .int .i64 n), (17, .int .i64 k)])) {cs : List Frame} {main : Bool} {Stop : Goroutine → World → Prop}
 (h : ∀ (w' : World) (l' : Value) (A : Array Value), w'.ownsRow base 112 1 l' (k + 1) (xs ++ [cl68 ob db ib av]) → w.heap.size ≤ w'.heap.size → (∀ r, r < w.heap.size → some r ≠ Value.ownBlock l → w'.heap[r]? = w.heap[r]?) → Slots 38 A [(0, .slice ta tl tc), (3, .pointer (some ⟨db, 0, none⟩)), (6, .int .i64 n), (7, .pointer (some ⟨av, 0, none⟩)), (8, l'), (16, .int .i64 n), (17, .int .i64 (k + 1 : Nat))] → Own Try.prog main F0 Stop (G ((Go.Conc.base 81).at ⟨A, []⟩ [.code dis7, .inLoop dis7, .inBlock 0, .code dis12]) cs) w') :
 Own Try.prog main F0 Stop (G ((Go.Conc.base 81).at ⟨A, []⟩ [.code dir8, .inBlock 1, .code dir9, .inLoop dis7, .inBlock 0, .code dis12]) cs) w := by
 have hU := under_F0
 have hn : 0 ≤ w.heap.size := Nat.zero_le _
 have hk64 : IntKind.i64.wrap ((k : Int) + 1) = (k : Int) + 1 := IntWalk.i64_in _ (by omega)
 obtain ⟨hsz, h9, h10, h0, h3, h6, h7, h8, h16, h17, _⟩ := hA
 obtain ⟨s, rfl⟩ := diT_of hsz
 change s 9 = _ at h9
 change s 10 = _ at h10
 change s 0 = _ at h0
 change s 3 = _ at h3
 change s 6 = _ at h6
 change s 7 = _ at h7
 change s 8 = _ at h8
 change s 16 = _ at h16
 change s 17 = _ at h17
 clear hsz
 simp only [diT, h9, h10, h0, h3, h6, h7, h8, h16, h17]
 clear h9 h10 h0 h3 h6 h7 h8 h16 h17
 rw [dir8']
 refine ogR ?_
 simp only [dir8, diBody, Try.f81, zz, Nat.reduceAdd]
 iterate 2 (refine oW fun dd K hK => ?_; go_simp; refine qT hK ?_; clear hK K)
 (refine oW fun dd K hK => ?_; go_simp; refine qA hK hU ?_; clear hK K)
 have hrow2 := hrow.alloc (.cells #[cl68 ob db ib av] 112)
 have hcell := cell_one_new w (cl68 ob db ib av) 112
 have hsz : (w.alloc (.cells #[cl68 ob db ib av] 112)).heap.size = w.heap.size + 1 := by simp
 have hold : ∀ r, r < w.heap.size → (w.alloc (.cells #[cl68 ob db ib av] 112)).heap[r]? = w.heap[r]? := fun r hr => heap_alloc_lt _ _ hr
 change Own _ _ _ _ _ (w.alloc (.cells #[cl68 ob db ib av] 112))
 generalize w.alloc (.cells #[cl68 ob db ib av] 112) = W at hrow2 hcell hsz hold ⊢
 obtain ⟨i0, hi0, hz0, hz1, hz2⟩ := info112
 refine own_opm (by decide) ?_
 refine opm_lift (S' := fun _ => false) (px := false) (ready0.shut false) (by simp) rfl rfl rfl (wf_F0 _) (fun d => ?_)
 rw [mask_F0]
 obtain ⟨l', u, hr, hown, hgrow, _⟩ := run_append_own (P := Try.prog) (W.at d) base 139 139 112 i0 _ 1 8 Try.underlying139 hi0 hz0 hz1 hz2 rfl (by decide) l k xs hrow2 ⟨w.heap.size, 0, none⟩ 1 1 [cl68 ob db ib av] rfl
  hcell (fun q hq => by simp at hq; subst hq; rfl) (by unfold maxLen; omega) (by omega) (by show base ≤ W.heap.size; omega)
 refine ⟨l', u, run_append_op (.tmp 31) (.tmp 33) 139 rfl rfl rfl hr, fun w' hu hg hwf' => ?_⟩
 rw [mask_F0] at hu
 subst hu
 have hsz2 : W.heap.size ≤ u.heap.size := hgrow.size
 have hold2 : ∀ r, r < w.heap.size → some r ≠ Value.ownBlock l → u.heap[r]? = w.heap[r]? := fun r h1 h2 => (hgrow.block r (by show r < W.heap.size; omega) h2).trans (hold r h1)
 have hsz3 : w.heap.size ≤ u.heap.size := by omega
 clear hrow2 hcell hsz hold hr hgrow hsz2 hg hwf' hz0 hz1 hz2 hi0
 walk_nrm
 (refine oW fun dd K hK => ?_; go_simp; refine qT hK ?_; clear hK K)
 refine ogE ?_
 refine ogI ?_
 rw [dir9']
 refine ogR ?_
 simp only [dir9, diBody, Try.f81, zz, Nat.reduceAdd]
 iterate 2 (refine oW fun dd K hK => ?_; go_simp; refine qT hK ?_; clear hK K)
 refine ogE ?_
 refine ogL ?_
 refine h _ l' _ hown hsz3 hold2 ?_
 exact ⟨rfl, rfl, rfl, rfl, rfl, rfl, rfl, rfl, trivial⟩
end
section
variable {w : World}
structure SV (av : Nat) (v : Value) (u : World) : Prop where
 c : u.cell? ⟨av, 0, none⟩ = some v
 z : u.frozen? ⟨av, 0, none⟩ = false
theorem di_6 {ta : Option Addr} {tl tc n db av : Nat} {l x : Value} (hs : SV av x w) {A : Array Value} (hA : Slots 38 A [(0, .slice ta tl tc), (3, .pointer (some ⟨db, 0, none⟩)), (6, .int .i64 n), (7, .pointer (some ⟨av, 0, none⟩)), (8, l), (16, .int .i64 n), (17, .int .i64 n)]) {c : Frame} {cs : List Frame} {Stop : Goroutine → World → Prop}
 (h : Own Try.prog true F0 Stop (G (c.finish (.tuple #[l, x])) cs) w) :
 Own Try.prog true F0 Stop (G ((Go.Conc.base 81).at ⟨A, []⟩ [.code dir10, .code .ret]) (c :: cs)) w := by
 obtain ⟨hsz, h0, h3, h6, h7, h8, h16, h17, _⟩ := hA
 obtain ⟨s, rfl⟩ := diT_of hsz
 change s 0 = _ at h0
 change s 3 = _ at h3
 change s 6 = _ at h6
 change s 7 = _ at h7
 change s 8 = _ at h8
 change s 16 = _ at h16
 change s 17 = _ at h17
 clear hsz
 simp only [diT, h0, h3, h6, h7, h8, h16, h17]
 clear h0 h3 h6 h7 h8 h16 h17
 have hS : ∀ u d, SV av x u → SV av x (World.at u d) := fun u d h => ⟨h.c, h.z⟩
 rw [dir10']
 refine own_drawnM (SV av x) (last := 3) run_mixed (ll_of (by kernel_rfl)) (by decide) ?_
 simp only [dir10, diBody, Try.f81, zz, Nat.reduceAdd]
 have hZ : ∀ a u d, Own Try.prog true F0 Stop (G ((Go.Conc.base 81).at a [.inRegion (oC dir10) [3], .code .ret]) (c :: cs)) u → Own Try.prog true F0 Stop (G ((Go.Conc.base 81).at a [.inRegion (oC dir10) [3], .code .ret]) (c :: cs)) (World.at u d) := fun a u d h => h.at d
 simp only [dir10, diBody, Try.f81, zz, Nat.reduceAdd] at hZ
 refine anyM_take hS hZ (i := 0) (v := l) hs rfl rfl (by kernel_rfl) (by kernel_rfl) (by kernel_rfl) (fun u hu => .inl ⟨rfl, fun d => ⟨by simp [go_sem, execOp, Act.eval], fun e he => by have hm := mem_listed he; simp [go_sem, execOp, Act.eval] at hm⟩⟩) ?_
 walk_nrm
 refine anyM_take hS hZ (i := 1) (v := x) hs rfl rfl (by kernel_rfl) (by kernel_rfl) (by kernel_rfl) (fun u hu => .inl ⟨rfl, fun d => ⟨by simp [go_sem, execOp, Act.eval, hu.c, hu.z], fun e he => by have hm := mem_listed he; simp [go_sem, execOp, Act.eval, hu.c, hu.z] at hm; subst hm; exact evT_read _ _⟩⟩) ?_
 walk_nrm
 refine anyM_take hS hZ (i := 2) (v := l) hs rfl rfl (by kernel_rfl) (by kernel_rfl) (by kernel_rfl) (fun u hu => .inl ⟨rfl, fun d => ⟨by simp [go_sem, execOp, Act.eval], fun e he => by have hm := mem_listed he; simp [go_sem, execOp, Act.eval] at hm⟩⟩) ?_
 walk_nrm
 refine anyM_end (by kernel_rfl) ?_ _
 (refine oW fun dd K hK => ?_; go_simp; refine qT hK ?_; clear hK K)
 refine ogE ?_
 refine ogX ?_
 refine own_go rfl (fun d => stepG_leave (fn := Try.f81) (v := .tuple #[l, x]) rfl rfl Try.func81 (by simp [results, Try.f81, go_sem]) (by simp [results, Try.f81, go_sem])) ?_
 exact h
structure DI (w0 : World) (n k db aa av : Nat) (dv : Value) (oa : Nat → Option Addr) (m oc ib ob : Nat → Nat) (l : Value) (w : World) : Prop where
 size : w0.heap.size ≤ w.heap.size
 old : ∀ r, r < w0.heap.size → w.heap[r]? = w0.heap[r]?
 hdb : w.heap[db]? = some (.cells #[dv] 98 (0, 0))
 haa : w.heap[aa]? = some (.cells (madeCells #[.slice none 0 0] n) 42 (0, 0))
 hav : w.heap[av]? = some (.cells #[.slice (some ⟨aa, 0, none⟩) n n] 29 (0, 0))
 hib : ∀ j, j < k → w.heap[ib j]? = some (.cells #[.int .i64 j] 3 (0, 0))
 hob : ∀ j, j < k → w.heap[ob j]? = some (.cells #[.slice (oa j) (m j) (oc j)] 34 (0, 0))
 lo : ∀ j, j < k → w0.heap.size ≤ ib j ∧ w0.heap.size ≤ ob j
 new : w0.heap.size ≤ db ∧ w0.heap.size ≤ aa ∧ w0.heap.size ≤ av
 row : w.ownsRow w0.heap.size 112 1 l k ((List.range k).map fun j => cl68 (ob j) db (ib j) av)
theorem DI.same {w0 w w' : World} {n k db aa av : Nat} {dv : Value} {oa : Nat → Option Addr} {m oc ib ob : Nat → Nat} {l : Value} (h : DI w0 n k db aa av dv oa m oc ib ob l w) (hsz : w.heap.size ≤ w'.heap.size) (hs : ∀ r, r < w.heap.size → w'.heap[r]? = w.heap[r]?) : DI w0 n k db aa av dv oa m oc ib ob l w' := by
 have lt : ∀ {r : Nat} {o : Obj}, w.heap[r]? = some o → w'.heap[r]? = some o := fun hr => (hs _ (alt hr)).trans hr
 exact ⟨Nat.le_trans h.size hsz, fun r hr => (hs r (Nat.lt_of_lt_of_le hr h.size)).trans (h.old r hr), lt h.hdb, lt h.haa, lt h.hav, fun j hj => lt (h.hib j hj), fun j hj => lt (h.hob j hj), h.lo, h.new, ownsRow_same2 h.row fun b hb _ => hs b (h.row.lt b hb).2⟩
theorem own_doing_loop {w0 : World} {tb o tl tc n db aa av : Nat} {dv : Value} (hntl : n ≤ tl) (hn64 : n ≤ 64) {oa : Nat → Option Addr} {ol m oc : Nat → Nat} (htb : 0 < n → tb < w0.heap.size) (hth : ∀ j, j < n → w0.cell? ⟨tb, o + j, none⟩ = some (.slice (oa j) (ol j) (oc j)) ∧ w0.frozen? ⟨tb, o + j, none⟩ = false ∧ ol j ≤ oc j ∧ min (ol j) 65536 = m j) {ta : Option Addr} (hta : 0 < n → ta = some ⟨tb, o, none⟩) {c : Frame} {cs : List Frame} {Stop : Goroutine → World → Prop}
 (K : ∀ w' l ib ob, DI w0 n n db aa av dv oa m oc ib ob l w' → Own Try.prog true F0 Stop (G (c.finish (.tuple #[l, .slice (some ⟨aa, 0, none⟩) n n])) cs) w') :
 ∀ (q k : Nat), k + q = n → ∀ (w : World) (l : Value) (ib ob : Nat → Nat) (A : Array Value), DI w0 n k db aa av dv oa m oc ib ob l w → Slots 38 A [(0, .slice ta tl tc), (3, .pointer (some ⟨db, 0, none⟩)), (6, .int .i64 n), (7, .pointer (some ⟨av, 0, none⟩)), (8, l), (16, .int .i64 n), (17, .int .i64 k)] →
   Own Try.prog true F0 Stop (G ((Go.Conc.base 81).at ⟨A, []⟩ [.code dis7, .inLoop dis7, .inBlock 0, .code dis12]) (c :: cs)) w := by
 intro q
 induction q with
 | zero =>
   intro k hk w l ib ob A hD hA
   obtain rfl : k = n := by omega
   refine di_5 hA fun A2 hA2 => ?_
   refine di_6 (x := .slice (some ⟨aa, 0, none⟩) k k) ⟨by simp [World.cell?, hD.hav], by simp [World.frozen?, hD.hav]⟩ hA2 ?_
   exact K w l ib ob hD
 | succ q ih =>
   intro k hk w l ib ob A hD hA
   have hkn : k < n := by omega
   obtain rfl := hta (by omega)
   obtain ⟨t1, t2, t3, t4⟩ := hth k hkn
   have htl := htb (by omega)
   have htb2 := hD.old tb htl
   have hsz0 := hD.size
   refine di_2 under_F0 (Nat.zero_le _) hkn hA fun A2 hA2 => ?_
   have e1 : ∀ r, r < w.heap.size → (w.alloc (.cells #[.int .i64 k] 3)).heap[r]? = w.heap[r]? := fun r hr => heap_alloc_lt _ _ hr
   have e2 := heap_alloc_new w (.cells #[.int .i64 k] 3)
   have e3 : (w.alloc (.cells #[.int .i64 k] 3)).heap.size = w.heap.size + 1 := by simp
   generalize w.alloc (.cells #[.int .i64 k] 3) = W1 at e1 e2 e3 ⊢
   refine ogSE dis11' ?_
   have htb3 : W1.heap[tb]? = w0.heap[tb]? := (e1 tb (by omega)).trans htb2
   refine di_3 (nn := 0) (m := m k) under_F0 (by omega) t4 t3 ⟨Nat.zero_le _, by omega, by omega, by simp [World.cell?, e2], by simp [World.frozen?, e2], by rw [← t1]; unfold World.cell?; simp only [htb3], by rw [← t2]; unfold World.frozen?; simp only [htb3]⟩ hA2 fun A3 hA3 => ?_
   have f1 : ∀ r, r < W1.heap.size → (W1.alloc (.cells #[.slice (oa k) (m k) (oc k)] 34)).heap[r]? = W1.heap[r]? := fun r hr => heap_alloc_lt _ _ hr
   have f2 := heap_alloc_new W1 (.cells #[.slice (oa k) (m k) (oc k)] 34)
   have f3 : (W1.alloc (.cells #[.slice (oa k) (m k) (oc k)] 34)).heap.size = W1.heap.size + 1 := by simp
   generalize W1.alloc (.cells #[.slice (oa k) (m k) (oc k)] 34) = W2 at f1 f2 f3 ⊢
   have hD2 : DI w0 n k db aa av dv oa m oc ib ob l W2 := hD.same (by omega) fun r hr => (f1 r (by omega)).trans (e1 r hr)
   refine di_4 (base := w0.heap.size) (by omega) (by omega) hD2.row hA3 fun w' l' A4 g1 g2 g3 hA4 => ?_
   have hne : ∀ {r : Nat} {cc : Array Value} {t : TypeId}, W2.heap[r]? = some (.cells cc t (0, 0)) → t ≠ 112 → w'.heap[r]? = some (.cells cc t (0, 0)) := fun hr ht => (g3 _ (alt hr) (own_type hD2.row hr (fun e => ht e.symm))).trans hr
   have hold : ∀ r, r < w0.heap.size → w'.heap[r]? = w0.heap[r]? := fun r hr => (g3 r (by omega) (fun e => by
    have := (hD2.row.lt r e.symm).1; omega)).trans (hD2.old r hr)
   refine ih (k + 1) (by omega) w' l' (fun j => if j = k then w.heap.size else ib j) (fun j => if j = k then W1.heap.size else ob j) A4 ⟨by omega, hold, hne hD2.hdb (by decide), hne hD2.haa (by decide), hne hD2.hav (by decide), fun j hj => ?_, fun j hj => ?_, fun j hj => ?_, hD.new, ?_⟩ hA4
   ·by_cases e : j = k
    ·subst e
     simp only [if_true]
     exact hne ((f1 _ (by omega)).trans e2) (by decide)
    ·simp only [if_neg e]
     exact hne (hD2.hib j (by omega)) (by decide)
   ·by_cases e : j = k
    ·subst e
     simp only [if_true]
     exact hne f2 (by decide)
    ·simp only [if_neg e]
     exact hne (hD2.hob j (by omega)) (by decide)
   ·by_cases e : j = k
    ·subst e
     simp only [if_true]
     omega
    ·simp only [if_neg e]
     exact hD.lo j (by omega)
   ·have e5 : ((List.range (k + 1)).map fun j => cl68 (if j = k then W1.heap.size else ob j) db (if j = k then w.heap.size else ib j) av) = ((List.range k).map fun j => cl68 (ob j) db (ib j) av) ++ [cl68 W1.heap.size db w.heap.size av] := by
     rw [List.range_succ, List.map_append]
     congr 1
     ·apply List.map_congr_left
      intro j hj
      have : j < k := List.mem_range.1 hj
      simp only [if_neg (show ¬ j = k by omega)]
     ·simp
    rw [e5]
    exact g1
theorem own_doing {tb o tl tc n df : Nat} {first capt : Array Value} (hn1 : min tl 64 = n) {oa : Nat → Option Addr} {ol m oc : Nat → Nat} (htb : 0 < n → tb < w.heap.size) (hth : ∀ j, j < n → w.cell? ⟨tb, o + j, none⟩ = some (.slice (oa j) (ol j) (oc j)) ∧ w.frozen? ⟨tb, o + j, none⟩ = false ∧ ol j ≤ oc j ∧ min (ol j) 65536 = m j) {ta : Option Addr} (hta : 0 < n → ta = some ⟨tb, o, none⟩) {c : Frame} {cs : List Frame} {Stop : Goroutine → World → Prop}
 (K : ∀ w' l ib ob db aa av, DI w n n db aa av (.func (.func df) first capt) oa m oc ib ob l w' → Own Try.prog true F0 Stop (G (c.finish (.tuple #[l, .slice (some ⟨aa, 0, none⟩) n n])) cs) w') :
 Own Try.prog true F0 Stop (G (Frame.enter Try.prog 81 #[.slice ta tl tc, .func (.func df) first capt] .normal) (c :: cs)) w := by
 refine di_0 under_F0 (Nat.zero_le _) hn1 fun A hA => ?_
 refine di_1 under_F0 (Nat.zero_le _) (by omega) hA fun A2 hA2 => ?_
 have e1 : ∀ r, r < w.heap.size → (((w.alloc (.cells #[.func (.func df) first capt] 98)).alloc (.cells (madeCells #[.slice none 0 0] n) 42)).alloc (.cells #[.slice (some ⟨(w.alloc (.cells #[.func (.func df) first capt] 98)).heap.size, 0, none⟩) n n] 29)).heap[r]? = w.heap[r]? := fun r hr => by
  rw [heap_alloc_lt _ _ (by simp; omega), heap_alloc_lt _ _ (by simp; omega), heap_alloc_lt _ _ hr]
 refine own_doing_loop (w0 := w) (n := n) (tl := tl) (dv := .func (.func df) first capt) (oa := oa) (ol := ol) (m := m) (oc := oc) (tb := tb) (o := o) (db := w.heap.size) (aa := w.heap.size + 1) (av := w.heap.size + 2) (by omega) (by omega) htb hth hta (fun w' l ib ob hD => K w' l ib ob _ _ _ hD) n 0 (by omega) _ (.slice none 0 0) (fun _ => 0) (fun _ => 0) A2 ⟨by simp; omega, e1, ?_, ?_, ?_, fun j hj => by omega, fun j hj => by omega, fun j hj => by omega, ⟨by omega, by omega, by omega⟩, World.ownsRow_nil _ _ _ _⟩ (by simpa using hA2)
 ·rw [heap_alloc_lt _ _ (by simp; omega), heap_alloc_lt _ _ (by simp)]
  exact heap_alloc_new _ _
 ·have := heap_alloc_new (w.alloc (.cells #[.func (.func df) first capt] 98)) (.cells (madeCells #[.slice none 0 0] n) 42)
  rw [heap_alloc_lt _ _ (by simp)]
  simpa using this
 ·have := heap_alloc_new ((w.alloc (.cells #[.func (.func df) first capt] 98)).alloc (.cells (madeCells #[.slice none 0 0] n) 42)) (.cells #[.slice (some ⟨(w.alloc (.cells #[.func (.func df) first capt] 98)).heap.size, 0, none⟩) n n] 29)
  simpa using this
end
noncomputable section
variable {cs : List Frame} {main : Bool} {Stop : Goroutine → World → Prop}
variable {F : Fz} {w : World}
theorem built29 (a b c : Option Addr) (n m k l : Nat) (s : Bool) : Try.prog.built 31 [(0, .slice a n m), (1, .slice b k l), (3, .bool s)] = some #[.slice a n m, .slice b k l, .slice none 0 0, .bool s] := by kernel_rfl
@[go_sem] theorem run_build29 (a b : Option Addr) (n m k l : Nat) (s : Bool) (w : World) : (Instr.build 31 #[(0, .slice a n m), (1, .slice b k l), (3, .bool s)]).run Try.prog w = .ok (.agg #[.slice a n m, .slice b k l, .slice none 0 0, .bool s]) w := run_build w _ _ _ (built29 a b a n m k l s)
@[go_sem] theorem ev_build29 (a b : Option Addr) (n m k l : Nat) (s : Bool) (w : World) (es : Array Event) : (Instr.build 31 #[(0, .slice a n m), (1, .slice b k l), (3, .bool s)]).events Try.prog w es = es := ev_build w es _ _ _ _ Try.underlying31 (built29 a b a n m k l s)
def trW (w : World) (tb : Nat) (a b c d : Value) : World := (((w.setCell ⟨tb, 0, none⟩ a).setCell ⟨tb, 1, none⟩ b).setCell ⟨tb, 2, none⟩ c).setCell ⟨tb, 3, none⟩ d
structure TrAt (w : World) (tb : Nat) (a b c d : Value) : Prop where
 o : w.heap[tb]? = some (.cells #[a, b, c, d] 31 (0, 0))
section
variable {tb : Nat} {a b c d : Value}
theorem TrAt.at (h : TrAt w tb a b c d) (e : Nat) : TrAt (w.at e) tb a b c d := ⟨h.o⟩
theorem TrAt.c0 (h : TrAt w tb a b c d) : w.cell? ⟨tb, 0, none⟩ = some a := by simp [World.cell?, h.o]
theorem TrAt.c1 (h : TrAt w tb a b c d) : w.cell? ⟨tb, 1, none⟩ = some b := by simp [World.cell?, h.o]
theorem TrAt.c2 (h : TrAt w tb a b c d) : w.cell? ⟨tb, 2, none⟩ = some c := by simp [World.cell?, h.o]
theorem TrAt.c3 (h : TrAt w tb a b c d) : w.cell? ⟨tb, 3, none⟩ = some d := by simp [World.cell?, h.o]
theorem TrAt.z (h : TrAt w tb a b c d) (k : Nat) : w.frozen? ⟨tb, k, none⟩ = false := by simp [World.frozen?, h.o]
theorem TrAt.put (h : TrAt w tb a b c d) (a' b' c' d' : Value) : TrAt (trW w tb a' b' c' d') tb a' b' c' d' := by
 constructor
 unfold trW
 rw [heap_setCell_eq (heap_setCell_eq (heap_setCell_eq (heap_setCell_eq h.o _) _) _) _]
 rfl
end
def opBody : Code := Try.f47.body.getD .skip
def ops0 := pC [] opBody
def opr0 := pC [zt] opBody
def ops1 := pC [zf] opBody
def opr1 := pC [zf,zt] opBody
def ops2 := pC [zf,zf] opBody
def opr2 := pC [zf,zf,zt] opBody
def ops3 := pC [zf,zf,zf] opBody
def opr3 := pC [zf,zf,zf,zt] opBody
theorem ops0' : ops0 = .seq opr0 ops1 := by kernel_rfl
theorem opr0' : opr0 = .region 0 (oC opr0) false := by kernel_rfl
theorem ops1' : ops1 = .seq opr1 ops2 := by kernel_rfl
theorem opr1' : opr1 = .region 1 (oC opr1) false := by kernel_rfl
theorem ops2' : ops2 = .seq opr2 ops3 := by kernel_rfl
theorem opr2' : opr2 = .region 2 (oC opr2) false := by kernel_rfl
theorem ops3' : ops3 = .seq opr3 .ret := by kernel_rfl
theorem opr3' : opr3 = .region 3 (oC opr3) false := by kernel_rfl
theorem enter_op (args : Array Value) : Frame.enter Try.prog 47 args .normal = (Go.Conc.base 47).at { tmps := args ++ Array.replicate (32 - args.size) undef, defers := [] } [.code ops0] := enter_at args Try.func47 rfl
theorem callable47 : Callable 47 := callable Try.func47 rfl rfl
def opT (s : Nat → Value) : Array Value := #[s 0, s 1, s 2, s 3, s 4, s 5, s 6, s 7, s 8, s 9, s 10, s 11, s 12, s 13, s 14, s 15, s 16, s 17, s 18, s 19, s 20, s 21, s 22, s 23, s 24, s 25, s 26, s 27, s 28, s 29, s 30, s 31]
theorem opT_of {A : Array Value} (h : A.size = 32) : ∃ s, A = opT s := by
 obtain ⟨s, hs, _⟩ := arr_lit A h
 exact ⟨s, hs⟩
theorem op_0 {n : Nat} (hU : Under F n) (hn : n ≤ w.heap.size) {ta sa : Option Addr} {tl tc sl sc : Nat} {dv : Value} {mo : Int}
 (h : ∀ A, Slots 32 A [(0, .slice ta tl tc), (1, dv), (2, .slice sa sl sc), (3, .int .i64 mo), (8, .pointer (some ⟨w.heap.size, 0, none⟩))] → Own Try.prog main F Stop (G (Frame.enter Try.prog 81 #[.slice ta tl tc, dv] .normal) (((Go.Conc.base 47).at ⟨A, []⟩ [.inRegion (oC opr1) [2, 3, 4, 5, 6, 7], .code ops2]) :: cs)) (w.alloc (.cells #[.slice none 0 0, .slice none 0 0, .slice none 0 0, .bool false] 31))) :
 Own Try.prog main F Stop (G (Frame.enter Try.prog 47 #[.slice ta tl tc, dv, .slice sa sl sc, .int .i64 mo] .normal) cs) w := by
 rw [enter_op]
 walk_nrm
 refine ogSR ops0' opr0' ?_
 simp only [opr0, opBody, Try.f47, zz, Nat.reduceAdd]
 (refine oW fun dd K hK => ?_; go_simp; refine qA hK hU ?_; clear hK K)
 refine ogE ?_
 refine ogSR ops1' opr1' ?_
 simp only [opr1, opBody, Try.f47, zz, Nat.reduceAdd]
 iterate 2 (refine oW fun dd K hK => ?_; go_simp; refine qT hK ?_; clear hK K)
 refine oc callable81 #[.slice ta tl tc, dv] ?_
 refine h _ ?_
 exact ⟨rfl, rfl, rfl, rfl, rfl, rfl, trivial⟩
theorem op_1 {ta sa : Option Addr} {tl tc sl sc tb : Nat} {dv l an : Value} {mo : Int} {A : Array Value} (hA : Slots 32 A [(0, .slice ta tl tc), (1, dv), (2, .slice sa sl sc), (3, .int .i64 mo), (8, .pointer (some ⟨tb, 0, none⟩))])
 (h : ∀ A, Slots 32 A [(8, .pointer (some ⟨tb, 0, none⟩)), (10, an)] → Own Try.prog main F Stop (G (Frame.enter Try.prog 82 #[l, .slice sa sl sc, .int .i64 mo] .normal) (((Go.Conc.base 47).at ⟨A, []⟩ [.inRegion (oC opr2) [3, 4, 5, 6, 7, 8, 9, 10], .code ops3]) :: cs)) w) :
 Own Try.prog main F Stop (G (((Go.Conc.base 47).at ⟨A, []⟩ [.inRegion (oC opr1) [2, 3, 4, 5, 6, 7], .code ops2]).finish (.tuple #[l, an])) cs) w := by
 obtain ⟨hsz, h0, h1, h2, h3, h8, _⟩ := hA
 obtain ⟨s, rfl⟩ := opT_of hsz
 change s 0 = _ at h0
 change s 1 = _ at h1
 change s 2 = _ at h2
 change s 3 = _ at h3
 change s 8 = _ at h8
 clear hsz
 simp only [opT, h0, h1, h2, h3, h8]
 clear h0 h1 h2 h3 h8
 rw [Frame.finish_at]
 simp only [opr1, opBody, Try.f47, zz, Nat.reduceAdd]
 walk_nrm
 iterate 5 (refine oW fun dd K hK => ?_; go_simp; refine qT hK ?_; clear hK K)
 refine ogE ?_
 refine ogSR ops2' opr2' ?_
 simp only [opr2, opBody, Try.f47, zz, Nat.reduceAdd]
 iterate 3 (refine oW fun dd K hK => ?_; go_simp; refine qT hK ?_; clear hK K)
 refine oc callable82 #[l, .slice sa sl sc, .int .i64 mo] ?_
 refine h _ ?_
 exact ⟨rfl, rfl, rfl, trivial⟩
theorem op_2 {tb : Nat} {x0 x1 x2 x3 : Value} (hT : TrAt w tb x0 x1 x2 x3) (hnh : ∀ k, ¬ held F ⟨tb, k, none⟩) {aa oa : Option Addr} {al ac ol oc : Nat} {st : Bool} {bv : Value} {A : Array Value} (hA : Slots 32 A [(8, .pointer (some ⟨tb, 0, none⟩)), (10, .slice aa al ac)]) {c : Frame}
 (h : Own Try.prog main F Stop (G (c.finish (.agg #[.slice aa al ac, .slice oa ol oc, .slice none 0 0, .bool st])) cs) (trW w tb (.slice aa al ac) (.slice oa ol oc) (.slice none 0 0) (.bool st))) :
 Own Try.prog main F Stop (G (((Go.Conc.base 47).at ⟨A, []⟩ [.inRegion (oC opr2) [3, 4, 5, 6, 7, 8, 9, 10], .code ops3]).finish (.tuple #[.slice oa ol oc, .bool st, bv])) (c :: cs)) w := by
 obtain ⟨hsz, h8, h10, _⟩ := hA
 obtain ⟨s, rfl⟩ := opT_of hsz
 change s 8 = _ at h8
 change s 10 = _ at h10
 clear hsz
 simp only [opT, h8, h10]
 clear h8 h10
 rw [Frame.finish_at]
 simp only [opr2, opBody, Try.f47, zz, Nat.reduceAdd]
 walk_nrm
 iterate 7 (refine oW fun dd K hK => ?_; go_simp; refine qT hK ?_; clear hK K)
 refine ogE ?_
 refine ogSR ops3' opr3' ?_
 simp only [opr3, opBody, Try.f47, zz, Nat.reduceAdd]
 iterate 4 (refine oW fun dd K hK => ?_; go_simp; refine qT hK ?_; clear hK K)
 (refine oW fun dd K hK => ?_; have hc0 := (hT.at dd).c0; have hc1 := (hT.at dd).c1; have hc2 := (hT.at dd).c2; have hc3 := (hT.at dd).c3; have hz0 := (hT.at dd).z; go_simp; refine hK _ _ ⟨⟨⟨0, grew4 (fun k => hnh k) _ _ _ _⟩, fun e he => by (have hm := mem_listed he; clear he hK; simp [go_sem, storedEv, hc0, hc1, hc2, hc3, hz0] at hm; rcases hm with rfl | rfl | rfl | rfl <;> exact evT_write _ _ ((fun k => hnh k) _))⟩, ?_⟩; clear hK K hc0 hc1 hc2 hc3 hz0; simp only [setCell_at']; refine Own.at ?_ dd)
 refine ogE ?_
 refine ogX ?_
 have hT2 := hT.put (.slice aa al ac) (.slice oa ol oc) (.slice none 0 0) (.bool st)
 change Own _ _ _ _ _ (trW w tb (.slice aa al ac) (.slice oa ol oc) (.slice none 0 0) (.bool st))
 generalize trW w tb (.slice aa al ac) (.slice oa ol oc) (.slice none 0 0) (.bool st) = W at hT2 h ⊢
 have hc0 := hT2.c0
 have hc1 := hT2.c1
 have hc2 := hT2.c2
 have hc3 := hT2.c3
 have hz0 := hT2.z
 refine own_leave (fn := Try.f47) (v := .agg #[.slice aa al ac, .slice oa ol oc, .slice none 0 0, .bool st]) rfl rfl Try.func47 (fun d => by simp [results, Try.f47, go_sem, hc0, hc1, hc2, hc3, hz0]) (fun d e he => by simp [results, Try.f47, go_sem, hc0, hc1, hc2, hc3, hz0] at he; rcases he with rfl | rfl | rfl | rfl <;> exact evT_read _ _) ?_
 exact h
end
noncomputable section
variable {w w' : World} {L : Lay}
open Classical in
def IW (w : World) (N : Nat → Prop) : Nat → Option Obj := fun r => if N r then none else match w.heap[r]? with
 | some (.cells c e z) => some (.cells c e z)
 | _ => none
theorem iw_mem {N : Nat → Prop} {r : Nat} (h : N r) : IW w N r = none := if_pos h
theorem iw_cells {N : Nat → Prop} {r : Nat} {c : Array Value} {e : TypeId} {z : Nat × Nat} (h : ¬ N r) (ho : w.heap[r]? = some (.cells c e z)) : IW w N r = some (.cells c e z) := by
 unfold IW
 rw [if_neg h, ho]
theorem iw_some {N : Nat → Prop} {r : Nat} {o : Obj} (h : IW w N r = some o) : ¬ N r ∧ w.heap[r]? = some o ∧ ∃ c e z, o = .cells c e z := by
 unfold IW at h
 split at h
 ·cases h
 ·rename_i hm
  split at h
  ·rename_i c e z ho
   cases h
   exact ⟨hm, ho, c, e, z, rfl⟩
  ·cases h
theorem madeCells_nil (n j : Nat) (h : j < n) : (madeCells #[Value.slice none 0 0] n)[j]? = some (.slice none 0 0) := by
 simp [madeCells, h, Nat.mod_one]
theorem madeCells_size (n : Nat) (v : Value) : (madeCells #[v] n).size = n := by
 simp [madeCells]
def x00 (s0 : L.S) : OX L := ⟨s0, fun _ => ⟨0, none, [], .slice none 0 0⟩⟩
theorem tr00 {r : Nat} : ¬ TR (⟨0, none, [], .slice none 0 0⟩ : Thr L) r := by
 rintro (h | ⟨a, ha, _⟩ | ⟨c, A, ab, h, _⟩)
 ·cases h
 ·cases ha
 ·cases h
def pOf (L : Lay) (s0 : L.S) (W : World) (n db aa av : Nat) (ib ob : Nat → Nat) (oa : Nat → Option Addr) (oc : Nat → Nat) (ops : Nat → List Op4) : Par :=
 ⟨n, aa, av, db, ib, ob, ops, oa, oc, IW W (fun r => r = aa ∨ L.SR s0 r)⟩
theorem pof_cells {s0 : L.S} {W : World} {n db aa av : Nat} {ib ob : Nat → Nat} {oa : Nat → Option Addr} {oc : Nat → Nat} {ops : Nat → List Op4} {r : Nat} {c : Array Value} {e : TypeId} {z : Nat × Nat} (h : ¬ (r = aa ∨ L.SR s0 r)) (ho : W.heap[r]? = some (.cells c e z)) : (pOf L s0 W n db aa av ib ob oa oc ops).I r = some (.cells c e z) := by
 exact iw_cells (w := W) (N := fun r => r = aa ∨ L.SR s0 r) h ho
theorem pof_some {s0 : L.S} {W : World} {n db aa av : Nat} {ib ob : Nat → Nat} {oa : Nat → Option Addr} {oc : Nat → Nat} {ops : Nat → List Op4} {r : Nat} {o : Obj} (h : (pOf L s0 W n db aa av ib ob oa oc ops).I r = some o) : ¬ (r = aa ∨ L.SR s0 r) ∧ W.heap[r]? = some o ∧ ∃ c e z, o = .cells c e z := by
 exact iw_some (w := W) (N := fun r => r = aa ∨ L.SR s0 r) h
theorem pof_mem {s0 : L.S} {W : World} {n db aa av : Nat} {ib ob : Nat → Nat} {oa : Nat → Option Addr} {oc : Nat → Nat} {ops : Nat → List Op4} {r : Nat} (h : r = aa ∨ L.SR s0 r) : (pOf L s0 W n db aa av ib ob oa oc ops).I r = none := by
 exact iw_mem (w := W) (N := fun r => r = aa ∨ L.SR s0 r) h
section
variable {s0 : L.S} {W w0 : World} {n db aa av tb o tl : Nat} {ib ob : Nat → Nat} {oa : Nat → Option Addr} {ol oc m : Nat → Nat} {ops : Nat → List Op4} {ta sa : Option Addr} {S : List Int} {l : Value}
theorem di_type {dv : Value} (hL : L.Ok) (hsu : L.SU s0 w0) (hD : DI w0 n n db aa av dv oa m oc ib ob l W) {r : Nat} {c : Array Value} {e : TypeId} {z : Nat × Nat} (ho : W.heap[r]? = some (.cells c e z)) (h84 : e ≠ 42) (hr : w0.heap.size ≤ r) : ¬ (r = aa ∨ L.SR s0 r) := by
 rintro (rfl | h)
 ·rw [hD.haa] at ho
  cases ho
  exact h84 rfl
 ·have := hL.lS _ _ _ hsu h
  omega
theorem pof_ok (hL : L.Ok) (hsu : L.SU s0 w0) (hI : OpsIn w0 (L.SR s0) n tb o tl ta oa ol oc ops S sa) (hD : DI w0 n n db aa av (.func (.func L.df) L.first L.capt) oa (fun j => (ops j).length) oc ib ob l W) : (pOf L s0 W n db aa av ib ob oa oc ops).Ok L where
 cells := fun r o h => (pof_some h).2.2
 len := fun i hi => by
  have : (ops i).length = min (ol i) 65536 := hI.hlen i hi
  show (ops i).length ≤ 65536
  omega
 inI := ⟨by
  show (pOf L s0 W n db aa av ib ob oa oc ops).I av ≠ none
  rw [pof_cells (di_type hL hsu hD hD.hav (by decide) hD.new.2.2) hD.hav]; simp, fun i hi => by
  show (pOf L s0 W n db aa av ib ob oa oc ops).I (ib i) ≠ none
  rw [pof_cells (di_type hL hsu hD (hD.hib i hi) (by decide) (hD.lo i hi).1) (hD.hib i hi)]; simp⟩
 av := fun u hu => ⟨⟨_, _, hu _ _ (pof_cells (di_type hL hsu hD hD.hav (by decide) hD.new.2.2) hD.hav), rfl⟩, rfl⟩
 db := fun u hu => ⟨⟨_, _, hu _ _ (pof_cells (di_type hL hsu hD hD.hdb (by decide) hD.new.1) hD.hdb), rfl⟩, rfl⟩
 ib := fun u hu i hi => ⟨⟨_, _, hu _ _ (pof_cells (di_type hL hsu hD (hD.hib i hi) (by decide) (hD.lo i hi).1) (hD.hib i hi)), rfl⟩, rfl⟩
 ob := fun u hu i hi => ⟨⟨_, _, hu _ _ (pof_cells (di_type hL hsu hD (hD.hob i hi) (by decide) (hD.lo i hi).2) (hD.hob i hi)), rfl⟩, rfl⟩
 op := fun u hu i hi k x hx => by
  obtain ⟨opb, oo, h1, h2, f0, f1, f2, f3, g0, g1, g2, g3⟩ := hI.hop i hi k x hx
  obtain ⟨c, e, z, ho⟩ := cell_block f0
  simp only at ho
  have hlt := (alt ho)
  have hW := (hD.old opb hlt).trans ho
  have hN : ¬ (opb = aa ∨ L.SR s0 opb) := by
   rintro (h | h)
   ·have := hD.new.2.1; omega
   ·exact h2 h
  have hU := hu _ _ (pof_cells hN hW)
  have e1 : u.heap[opb]? = w0.heap[opb]? := hU.trans ho.symm
  have ec : ∀ k, u.cell? ⟨opb, k, none⟩ = w0.cell? ⟨opb, k, none⟩ := fun k => by unfold World.cell?; simp only [e1]
  have ez : ∀ k, u.frozen? ⟨opb, k, none⟩ = w0.frozen? ⟨opb, k, none⟩ := fun k => by unfold World.frozen?; simp only [e1]
  exact ⟨opb, oo, h1, (ec _).trans f0, (ec _).trans f1, (ec _).trans f2, (ec _).trans f3, (ez _).trans g0, (ez _).trans g1, (ez _).trans g2, (ez _).trans g3⟩
theorem ou_first {g : Gate} (hL : L.Ok) (hsu : L.SU s0 w0) (hD : DI w0 n n db aa av (.func (.func L.df) L.first L.capt) oa (fun j => (ops j).length) oc ib ob l W) : OU L (pOf L s0 W n db aa av ib ob oa oc ops) g (x00 s0) W where
 fix := fun r o h => (pof_some h).2.1
 su := hL.sS _ _ _ hsu hD.size fun r hr => hD.old r (hL.lS _ _ _ hsu hr)
 arr := ⟨_, hD.haa, madeCells_size _ _, fun i hi => madeCells_nil _ _ hi⟩
 thr := fun i hi => ⟨World.ownsRow_nil _ _ _ _, fun a ha => (by cases ha), rfl, Nat.zero_le _, fun a ha => (by cases ha), fun c A ab h => (by cases h)⟩
 ts := fun i hi r hr => absurd hr tr00
 sa := fun h => by
  have := hL.lS _ _ _ hsu h
  have h2 := hD.new.2.1
  show False
  have h3 : (pOf L s0 W n db aa av ib ob oa oc ops).aa = aa := rfl
  omega
 jj := fun i hi c A ab h => (by cases h)
 tt := fun i j hi hj hne r hr => absurd hr tr00
 inone := by
  rintro r (h | h | ⟨i, hi, h⟩)
  ·exact pof_mem (.inr h)
  ·exact pof_mem (.inl h)
  ·exact absurd h tr00
end
end
section
variable {An : Anchor} {w w' : World} {L : Lay}
theorem OpsIn.alloc {N : Nat → Prop} {n tb o tl : Nat} {ta : Option Addr} {oa : Nat → Option Addr} {ol oc : Nat → Nat} {ops : Nat → List Op4} {S : List Int} {sa : Option Addr} (h : OpsIn w N n tb o tl ta oa ol oc ops S sa) (ob : Obj) : OpsIn (w.alloc ob) N n tb o tl ta oa ol oc ops S sa := by
 refine ⟨h.hn, h.hta, fun hp => by have := h.htb hp; simp; omega, fun j hj => ?_, h.hlen, fun j hj k x hx => ?_, h.hsl, fun hp => ?_⟩
 ·obtain ⟨h1, h2, h3⟩ := h.hth j hj
  exact ⟨(cellB_alloc h1 ob).1, (cellB_alloc h1 ob).2.trans h2, h3⟩
 ·obtain ⟨opb, oo, h1, h2, f0, f1, f2, f3, g0, g1, g2, g3⟩ := h.hop j hj k x hx
  exact ⟨opb, oo, h1, h2, (cellB_alloc f0 ob).1, (cellB_alloc f1 ob).1, (cellB_alloc f2 ob).1, (cellB_alloc f3 ob).1, (cellB_alloc f0 ob).2.trans g0, (cellB_alloc f1 ob).2.trans g1, (cellB_alloc f2 ob).2.trans g2, (cellB_alloc f3 ob).2.trans g3⟩
 ·obtain ⟨sb, so, c, e, z, h1, h2, h3, h4⟩ := h.hS hp
  exact ⟨sb, so, c, e, z, h1, h2, (heap_alloc_lt _ _ (alt h3)).trans h3, h4⟩
def Par.re (p : Par) (I : Nat → Option Obj) : Par := ⟨p.n, p.aa, p.av, p.db, p.ib, p.ob, p.ops, p.oa, p.oc, I⟩
theorem ThrU.re {p : Par} {I : Nat → Option Obj} {st i : Nat} {t : Thr L} (h : ThrU L p st i t w) : ThrU L (p.re I) st i t w := ⟨h.row, h.au, h.al, h.kl, h.ar, h.call⟩
theorem OU.re {p : Par} {g : Gate} {x : OX L} (h : OU L p g x w) {I : Nat → Option Obj} (hI : ∀ r o, I r = some o → p.I r = some o) : OU L (p.re I) g x w :=
 ⟨fun r o e => h.fix r o (hI r o e), h.su, h.arr, fun i hi => (h.thr i hi).re, h.ts, h.sa, h.jj, h.tt, fun r hr => by
  cases e : I r with
  | none => exact e
  | some o =>
    have := h.inone r hr
    rw [hI r o e] at this
    cases this⟩
theorem bes_ops (hL : L.Ok) {s0 : L.S} (hsu : L.SU s0 w) {n tb o tl tc sc M : Nat} {mo : Int} {ta sa : Option Addr} {oa : Nat → Option Addr} {ol oc : Nat → Nat} {ops : Nat → List Op4} {S : List Int} (hI : OpsIn w (L.SR s0) n tb o tl ta oa ol oc ops S sa) (hM : min (max mo 0) 1048576 = (M : Int)) {c : Frame} {cs : List Frame} {Stop : Goroutine → World → Prop}
 (hk : ∀ (g : Gate) (p p' : Par) (t : OX L × List Nat) (w' : World) (oa' : Option Addr) (oc' : Nat), g.n = n → p.n = n → p.ops = ops → (opsUsers L p g).Ok g → OverRel (opsUsers L p g) n M S (x00 s0) t → p'.n = n → p'.ops = ops → p'.aa = p.aa → OU L p' g t.1 w' →
   w'.ownsRow w.heap.size 3 1 (.slice oa' t.2.length oc') t.2.length (t.2.map fun i : Nat => Value.int .i64 i) → (∀ y, oa' = some y → ¬ OR L p' t.1 y.block) → w.heap.size ≤ w'.heap.size → (∀ r c e z, w.heap[r]? = some (.cells c e z) → ¬ L.SR s0 r → w'.heap[r]? = some (.cells c e z)) →
   Bes An Try.prog Stop (G (c.finish (.agg #[.slice (some ⟨p.aa, 0, none⟩) n n, .slice oa' t.2.length oc', .slice none 0 0, .bool (decide (0 < cnt ((opsUsers L p g).liv t.1) n))])) cs) w') :
 Bes An Try.prog Stop (G (Frame.enter Try.prog 47 #[.slice ta tl tc, .func (.func L.df) L.first L.capt, .slice sa S.length sc, .int .i64 mo] .normal) (c :: cs)) w := by
 have hw0 : ∀ r, r < w.heap.size → (w.alloc (.cells #[.slice none 0 0, .slice none 0 0, .slice none 0 0, .bool false] 31)).heap[r]? = w.heap[r]? := fun r hr => heap_alloc_lt _ _ hr
 have hs0 : (w.alloc (.cells #[.slice none 0 0, .slice none 0 0, .slice none 0 0, .bool false] 31)).heap.size = w.heap.size + 1 := by simp
 have htr : TrAt (w.alloc (.cells #[.slice none 0 0, .slice none 0 0, .slice none 0 0, .bool false] 31)) w.heap.size (.slice none 0 0) (.slice none 0 0) (.slice none 0 0) (.bool false) := ⟨heap_alloc_new _ _⟩
 have hI0 := hI.alloc (.cells #[.slice none 0 0, .slice none 0 0, .slice none 0 0, .bool false] 31)
 refine bes_own (F := F0) (Stop := fun a u => ∃ A l ib ob db aa av, a = G (Frame.enter Try.prog 82 #[l, .slice sa S.length sc, .int .i64 mo] .normal) (((Go.Conc.base 47).at ⟨A, []⟩ [.inRegion (oC opr2) [3, 4, 5, 6, 7, 8, 9, 10], .code ops3]) :: c :: cs) ∧
  DI (w.alloc (.cells #[.slice none 0 0, .slice none 0 0, .slice none 0 0, .bool false] 31)) n n db aa av (.func (.func L.df) L.first L.capt) oa (fun j => (ops j).length) oc ib ob l u ∧ Slots 32 A [(8, .pointer (some ⟨w.heap.size, 0, none⟩)), (10, .slice (some ⟨aa, 0, none⟩) n n)])
  (op_0 under_F0 (Nat.zero_le _) fun A hA => own_doing hI0.hn hI0.htb (fun j hj => ⟨(hI0.hth j hj).1, (hI0.hth j hj).2.1, (hI0.hth j hj).2.2, (hI0.hlen j hj).symm⟩) hI0.hta fun w1 l ib ob db aa av hD => op_1 hA fun A2 hA2 => .stop fun d => ⟨A2, l, ib, ob, db, aa, av, rfl, hD.same (Nat.le_refl _) fun _ _ => rfl, hA2⟩) fun a W hS => ?_
 obtain ⟨A, l, ib, ob, db, aa, av, rfl, hD, hA⟩ := hS
 generalize w.alloc (.cells #[.slice none 0 0, .slice none 0 0, .slice none 0 0, .bool false] 31) = w0 at hw0 hs0 htr hI0 hD
 have hsu0 : L.SU s0 w0 := hL.sS _ _ _ hsu (by omega) fun r hr => hw0 r (hL.lS _ _ _ hsu hr)
 have hpok := pof_ok hL hsu0 hI0 hD
 have hn64 : n ≤ 64 := by have := hI.hn; omega
 have hU1 : ∀ g, OU L (pOf L s0 W n db aa av ib ob oa oc ops) g (x00 s0) W := fun g => ou_first hL hsu0 hD
 have hsrlt : ∀ r, L.SR s0 r → r < w.heap.size := fun r hr => hL.lS _ _ _ hsu hr
 have hDs := hD.size
 have hDn := hD.new
 obtain ⟨la, lc, rfl, hla⟩ : ∃ la lc, l = .slice la n lc ∧ (0 < n → ∃ lb cur, la = some ⟨lb, 0, none⟩ ∧ w0.heap.size ≤ lb ∧ W.heap[lb]? = some (.cells cur 112 (0, 0)) ∧ cur.toList.take n = (List.range n).map fun j => cl68 (ob j) db (ib j) av) := by
  rcases hD.row.2 with ⟨h1, h2⟩ | ⟨b, cap, cur, h1, h2, h3, h4, h5, h6, h7⟩
  ·exact ⟨none, 0, by rw [h1, h2], fun h => by omega⟩
  ·exact ⟨_, cap, h1, fun _ => ⟨b, cur, rfl, h2, h3, by simpa using h7⟩⟩
 have hnm : ∀ r c e z, W.heap[r]? = some (.cells c e z) → e ≠ 42 → ¬ L.SR s0 r → (pOf L s0 W n db aa av ib ob oa oc ops).I r = some (.cells c e z) := fun r c e z h1 h2 h3 => pof_cells (by
  rintro (rfl | h)
  ·rw [hD.haa] at h1
   cases h1
   exact h2 rfl
  ·exact h3 h) h1
 have hnA : ∀ r c e z, W.heap[r]? = some (.cells c e z) → r ≠ aa → ¬ L.SR s0 r → (pOf L s0 W n db aa av ib ob oa oc ops).I r = some (.cells c e z) := fun r c e z h1 h2 h3 => pof_cells (fun h => h.elim h2 h3) h1
 have hnewS : ∀ r, w0.heap.size ≤ r → ¬ L.SR s0 r := fun r hr h => by have := hsrlt r h; omega
 have hthr : ∃ lb, (0 < n → la = some ⟨lb, 0, none⟩) ∧ ∀ g : Gate, RowIs (opsUsers L (pOf L s0 W n db aa av ib ob oa oc ops) g) lb 0 ((List.range n).map fun j => .func (.func 99) #[] ((opsUsers L (pOf L s0 W n db aa av ib ob oa oc ops) g).cap j)) := by
  by_cases h0 : 0 < n
  ·obtain ⟨lb, cur, h1, h2, h3, h4⟩ := hla h0
   refine ⟨lb, fun _ => h1, fun g => ⟨cur, 112, (0, 0), hnm lb _ _ _ h3 (by decide) (hnewS lb h2), fun k u hku => ⟨?_, by simp⟩⟩⟩
   have hku : ((List.range n).map fun j => cl68 (ob j) db (ib j) av)[k]? = some u := hku
   rw [← h4] at hku
   have hkn : k < n := by
    have := (List.getElem?_eq_some_iff.1 hku).1
    rw [List.length_take] at this
    omega
   rw [List.getElem?_take_of_lt hkn] at hku
   simpa using hku
  ·refine ⟨av, fun h => absurd h h0, fun g => ⟨_, _, _, hnm av _ _ _ hD.hav (by decide) (hnewS av hDn.2.2), fun k u hku => ?_⟩⟩
   have : n = 0 := by omega
   rw [this] at hku
   simp at hku
 obtain ⟨lb, hlb, hrow⟩ := hthr
 have hsch : ∃ sb so, (0 < S.length → sa = some ⟨sb, so, none⟩) ∧ ∀ g : Gate, RowIs (opsUsers L (pOf L s0 W n db aa av ib ob oa oc ops) g) sb so (S.map fun i : Int => Value.int .i64 i) := by
  by_cases h0 : 0 < S.length
  ·obtain ⟨sb, so, cc, e, z, h1, h2, h3, h4⟩ := hI0.hS h0
   have hlt := (alt h3)
   refine ⟨sb, so, fun _ => h1, fun g => ⟨cc, e, z, hnA sb _ _ _ ((hD.old sb hlt).trans h3) (by omega) h2, h4⟩⟩
  ·refine ⟨av, 0, fun h => absurd h h0, fun g => ⟨_, _, _, hnm av _ _ _ hD.hav (by decide) (hnewS av hDn.2.2), fun k u hku => ?_⟩⟩
   have : S = [] := List.length_eq_zero_iff.1 (by omega)
   rw [this] at hku
   simp at hku
 obtain ⟨sb, so, hsb, hsrow⟩ := hsch
 have htrI : (pOf L s0 W n db aa av ib ob oa oc ops).I w.heap.size = some (.cells #[.slice none 0 0, .slice none 0 0, .slice none 0 0, .bool false] 31 (0, 0)) :=
  hnm _ _ _ _ ((hD.old _ (by omega)).trans htr.o) (by decide) fun h => by have := hsrlt _ h; omega
 refine bes_over (Z := fun g => opsUsers L (pOf L s0 W n db aa av ib ob oa oc ops) g) (x0 := fun g => x00 s0) (tb := lb) (so := so) (sb := sb) hn64 hM hI.hsl (fun g hg _ => ops_ok hL hpok hg) (fun g w2 _ h1 h2 => OU.stable hL (hU1 g) h1 fun r hr => ?_) (fun g hg j hj => ⟨rfl, rfl⟩) (fun g r hr => OU.low (g := g) hL (hU1 g) hr) (fun g r hr => ⟨fixed_lt (p := pOf L s0 W n db aa av ib ob oa oc ops) (hU1 g).fix hr, fun h => hr ((hU1 g).inone r h)⟩) hlb (fun g _ => hrow g) hsb (fun g _ => hsrow g) ?_
 ·have hlt : r < W.heap.size := hr.elim (OU.low hL (hU1 g)) (fixed_lt (hU1 g).fix)
  rw [h2 r _ (Array.getElem?_eq_getElem hlt), Array.getElem?_eq_getElem hlt]
 ·intro g t u oa' oc' bv hg hrel hU hord hnR hsz
  have hU : OU L (pOf L s0 W n db aa av ib ob oa oc ops) g t.1 u := hU
  have hT : TrAt u w.heap.size (.slice none 0 0) (.slice none 0 0) (.slice none 0 0) (.bool false) := ⟨hU.fix _ _ htrI⟩
  refine bes_own (F := F0) (Stop := fun a u2 => a = G (c.finish (.agg #[.slice (some ⟨aa, 0, none⟩) n n, .slice oa' t.2.length oc', .slice none 0 0, .bool (decide (0 < cnt ((opsUsers L (pOf L s0 W n db aa av ib ob oa oc ops) g).liv t.1) n))])) cs ∧ ∃ d, u2 = (trW u w.heap.size (.slice (some ⟨aa, 0, none⟩) n n) (.slice oa' t.2.length oc') (.slice none 0 0) (.bool (decide (0 < cnt ((opsUsers L (pOf L s0 W n db aa av ib ob oa oc ops) g).liv t.1) n)))).at d)
   (op_2 hT (fun k h => by obtain ⟨z, hz, _⟩ := h; cases hz) hA (.stop fun d => ⟨rfl, d, rfl⟩)) fun a u2 ⟨ha, d, hu2⟩ => ?_
  subst ha
  subst hu2
  have hne : ∀ r, r ≠ w.heap.size → ((trW u w.heap.size (.slice (some ⟨aa, 0, none⟩) n n) (.slice oa' t.2.length oc') (.slice none 0 0) (.bool (decide (0 < cnt ((opsUsers L (pOf L s0 W n db aa av ib ob oa oc ops) g).liv t.1) n)))).at d).heap[r]? = u.heap[r]? := fun r hr => by
   show (trW _ _ _ _ _ _).heap[r]? = _
   unfold trW
   rw [heap_setCell_ne _ _ _ hr, heap_setCell_ne _ _ _ hr, heap_setCell_ne _ _ _ hr, heap_setCell_ne _ _ _ hr]
  have hsz2 : ((trW u w.heap.size (.slice (some ⟨aa, 0, none⟩) n n) (.slice oa' t.2.length oc') (.slice none 0 0) (.bool (decide (0 < cnt ((opsUsers L (pOf L s0 W n db aa av ib ob oa oc ops) g).liv t.1) n)))).at d).heap.size = u.heap.size := by
   show (trW _ _ _ _ _ _).heap.size = _
   unfold trW
   simp
  generalize (trW u w.heap.size (.slice (some ⟨aa, 0, none⟩) n n) (.slice oa' t.2.length oc') (.slice none 0 0) (.bool (decide (0 < cnt ((opsUsers L (pOf L s0 W n db aa av ib ob oa oc ops) g).liv t.1) n)))).at d = V at hne hsz2 ⊢
  let I' : Nat → Option Obj := fun r => if r = w.heap.size then none else (pOf L s0 W n db aa av ib ob oa oc ops).I r
  have hI' : ∀ r o, I' r = some o → r ≠ w.heap.size ∧ (pOf L s0 W n db aa av ib ob oa oc ops).I r = some o := fun r o h => by
   by_cases e : r = w.heap.size
   ·simp [I', e] at h
   ·exact ⟨e, by simpa [I', e] using h⟩
  have htrR : ¬ OR L (pOf L s0 W n db aa av ib ob oa oc ops) t.1 w.heap.size := fun h => by
   have := hU.inone _ h
   rw [htrI] at this
   cases this
  have hU2 : OU L ((pOf L s0 W n db aa av ib ob oa oc ops).re I') g t.1 u := hU.re fun r o h => (hI' r o h).2
  refine hk g (pOf L s0 W n db aa av ib ob oa oc ops) ((pOf L s0 W n db aa av ib ob oa oc ops).re I') t V oa' oc' hg rfl rfl (ops_ok hL hpok hg) hrel rfl rfl rfl (hU2.stable hL (by omega) fun r hr => hne r ?_) ?_ hnR (by omega) fun r cc e z hr hnS => ?_
  ·rintro rfl
   rcases hr with hr | hr
   ·exact htrR hr
   ·cases e : I' w.heap.size with
    | none => exact hr e
    | some o => exact (hI' _ _ e).1 rfl
  ·refine ownsRow_mono_base (by omega) (ownsRow_same2 hord fun b hb hbn => hne b (by omega))
  ·have hlt := (alt hr)
   rw [hne r (by omega)]
   exact hU.fix _ _ (hnA r _ _ _ ((hD.old r (by omega)).trans ((hw0 r hlt).trans hr)) (by omega) hnS)
end
noncomputable section
variable {cs : List Frame} {main : Bool} {Stop : Goroutine → World → Prop}
variable {F : Fz} {w : World}
theorem callable36 : Callable 36 := callable Try.func36 rfl rfl
theorem callable65 : Callable 65 := callable Try.func65 rfl rfl
theorem tr_newkpl (X : World) (x y z u x' y' z' u' : Value) : ((((X.alloc (.cells #[x, y, z, u] 31)).setCell ⟨X.heap.size, 0, none⟩ x').setCell ⟨X.heap.size, 1, none⟩ y').setCell ⟨X.heap.size, 2, none⟩ z').setCell ⟨X.heap.size, 3, none⟩ u' = X.alloc (.cells #[x', y', z', u'] 31) := by go_simp
def kplBody : Code := Try.f34.body.getD .skip
def kpls0 := pC [] kplBody
def kplr0 := pC [zt] kplBody
def kpls1 := pC [zf] kplBody
def kplr1 := pC [zf,zt] kplBody
def kpls2 := pC [zf,zf] kplBody
def kplr2 := pC [zf,zf,zt] kplBody
def kpls3 := pC [zf,zf,zf] kplBody
def kplr3 := pC [zf,zf,zf,zt] kplBody
def kpls4 := pC [zf,zf,zf,zf] kplBody
def kplr4 := pC [zf,zf,zf,zf,zt] kplBody
theorem kpls0' : kpls0 = .seq kplr0 kpls1 := by kernel_rfl
theorem kplr0' : kplr0 = .region 0 (oC kplr0) false := by kernel_rfl
theorem kpls1' : kpls1 = .seq kplr1 kpls2 := by kernel_rfl
theorem kplr1' : kplr1 = .region 1 (oC kplr1) false := by kernel_rfl
theorem kpls2' : kpls2 = .seq kplr2 kpls3 := by kernel_rfl
theorem kplr2' : kplr2 = .region 2 (oC kplr2) false := by kernel_rfl
theorem kpls3' : kpls3 = .seq kplr3 kpls4 := by kernel_rfl
theorem kplr3' : kplr3 = .region 3 (oC kplr3) false := by kernel_rfl
theorem kpls4' : kpls4 = .seq kplr4 .ret := by kernel_rfl
theorem kplr4' : kplr4 = .region 4 (oC kplr4) false := by kernel_rfl
theorem enter_kpl (args : Array Value) : Frame.enter Try.prog 34 args .normal = (Go.Conc.base 34).at { tmps := args ++ Array.replicate (26 - args.size) undef, defers := [] } [.code kpls0] := enter_at args Try.func34 rfl
theorem callable34 : Callable 34 := callable Try.func34 rfl rfl
def kplT (s : Nat → Value) : Array Value := #[s 0, s 1, s 2, s 3, s 4, s 5, s 6, s 7, s 8, s 9, s 10, s 11, s 12, s 13, s 14, s 15, s 16, s 17, s 18, s 19, s 20, s 21, s 22, s 23, s 24, s 25]
theorem kplT_of {A : Array Value} (h : A.size = 26) : ∃ s, A = kplT s := by
 obtain ⟨s, hs, _⟩ := arr_lit A h
 exact ⟨s, hs⟩
theorem kpl_0 {n : Nat} (hU : Under F n) (hn : n ≤ w.heap.size) {size mo : Int} {tg : Bool} {ta sa : Option Addr} {tl tc sl sc : Nat}
 (h : ∀ A, Slots 26 A [(0, .int .i64 size), (1, .bool tg), (2, .slice ta tl tc), (3, .slice sa sl sc), (4, .int .i64 mo), (10, .pointer (some ⟨w.heap.size, 0, none⟩))] → Own Try.prog main F Stop (G (Frame.enter Try.prog 36 #[.int .i64 size, .bool tg] .normal) (((Go.Conc.base 34).at ⟨A, []⟩ [.inRegion (oC kplr1) [2, 3], .code kpls2]) :: cs)) (w.alloc (.cells #[.slice none 0 0, .slice none 0 0, .slice none 0 0, .bool false] 31))) :
 Own Try.prog main F Stop (G (Frame.enter Try.prog 34 #[.int .i64 size, .bool tg, .slice ta tl tc, .slice sa sl sc, .int .i64 mo] .normal) cs) w := by
 rw [enter_kpl]
 walk_nrm
 refine ogSR kpls0' kplr0' ?_
 simp only [kplr0, kplBody, Try.f34, zz, Nat.reduceAdd]
 (refine oW fun dd K hK => ?_; go_simp; refine qA hK hU ?_; clear hK K)
 refine ogE ?_
 refine ogSR kpls1' kplr1' ?_
 simp only [kplr1, kplBody, Try.f34, zz, Nat.reduceAdd]
 iterate 2 (refine oW fun dd K hK => ?_; go_simp; refine qT hK ?_; clear hK K)
 refine oc callable36 #[.int .i64 size, .bool tg] ?_
 refine h _ ?_
 exact ⟨rfl, rfl, rfl, rfl, rfl, rfl, rfl, trivial⟩
theorem kpl_1 {kb rb : Nat} {size mo : Int} {tg : Bool} {ta sa : Option Addr} {tl tc sl sc : Nat} {A : Array Value} (hA : Slots 26 A [(0, .int .i64 size), (1, .bool tg), (2, .slice ta tl tc), (3, .slice sa sl sc), (4, .int .i64 mo), (10, .pointer (some ⟨rb, 0, none⟩))])
 (h : ∀ A, Slots 26 A [(10, .pointer (some ⟨rb, 0, none⟩)), (11, .pointer (some ⟨kb, 0, none⟩))] → Own Try.prog main F Stop (G (Frame.enter Try.prog 47 #[.slice ta tl tc, .func (.func 64) #[.pointer (some ⟨kb, 0, none⟩)] #[], .slice sa sl sc, .int .i64 mo] .normal) (((Go.Conc.base 34).at ⟨A, []⟩ [.inRegion (oC kplr2) [5, 6, 7], .code kpls3]) :: cs)) w) :
 Own Try.prog main F Stop (G (((Go.Conc.base 34).at ⟨A, []⟩ [.inRegion (oC kplr1) [2, 3], .code kpls2]).finish (.pointer (some ⟨kb, 0, none⟩))) cs) w := by
 obtain ⟨hsz, h0, h1, h2, h3, h4, h10, _⟩ := hA
 obtain ⟨s, rfl⟩ := kplT_of hsz
 change s 0 = _ at h0
 change s 1 = _ at h1
 change s 2 = _ at h2
 change s 3 = _ at h3
 change s 4 = _ at h4
 change s 10 = _ at h10
 clear hsz
 simp only [kplT, h0, h1, h2, h3, h4, h10]
 clear h0 h1 h2 h3 h4 h10
 rw [Frame.finish_at]
 simp only [kplr1, kplBody, Try.f34, zz, Nat.reduceAdd]
 walk_nrm
 (refine oW fun dd K hK => ?_; go_simp; refine qT hK ?_; clear hK K)
 refine ogE ?_
 refine ogSR kpls2' kplr2' ?_
 simp only [kplr2, kplBody, Try.f34, zz, Nat.reduceAdd]
 iterate 5 (refine oW fun dd K hK => ?_; go_simp; refine qT hK ?_; clear hK K)
 refine oc callable47 #[.slice ta tl tc, .func (.func 64) #[.pointer (some ⟨kb, 0, none⟩)] #[], .slice sa sl sc, .int .i64 mo] ?_
 refine h _ ?_
 exact ⟨rfl, rfl, rfl, trivial⟩
theorem kpl_2 {n : Nat} (hU : Under F n) (hn : n ≤ w.heap.size) {kb rb : Nat} {aa oa : Option Addr} {al ac ol oz : Nat} {st : Bool} {A : Array Value} (hA : Slots 26 A [(10, .pointer (some ⟨rb, 0, none⟩)), (11, .pointer (some ⟨kb, 0, none⟩))])
 (h : ∀ A, Slots 26 A [(10, .pointer (some ⟨rb, 0, none⟩)), (12, .pointer (some ⟨w.heap.size, 0, none⟩))] → Own Try.prog main F Stop (G (Frame.enter Try.prog 65 #[.pointer (some ⟨kb, 0, none⟩)] .normal) (((Go.Conc.base 34).at ⟨A, []⟩ [.inRegion (oC kplr3) [1, 2, 3], .code kpls4]) :: cs)) (w.alloc (.cells #[.slice aa al ac, .slice oa ol oz, .slice none 0 0, .bool st] 31))) :
 Own Try.prog main F Stop (G (((Go.Conc.base 34).at ⟨A, []⟩ [.inRegion (oC kplr2) [5, 6, 7], .code kpls3]).finish (.agg #[.slice aa al ac, .slice oa ol oz, .slice none 0 0, .bool st])) cs) w := by
 obtain ⟨hsz, h10, h11, _⟩ := hA
 obtain ⟨s, rfl⟩ := kplT_of hsz
 change s 10 = _ at h10
 change s 11 = _ at h11
 clear hsz
 simp only [kplT, h10, h11]
 clear h10 h11
 rw [Frame.finish_at]
 simp only [kplr2, kplBody, Try.f34, zz, Nat.reduceAdd]
 walk_nrm
 (refine oW fun dd K hK => ?_; go_simp; refine qA hK hU ?_; clear hK K)
 (refine oW fun dd K hK => ?_; go_simp; refine hK _ _ ⟨⟨⟨0, grew4 (fun k => not_held hU (show n ≤ w.heap.size by omega)) _ _ _ _⟩, fun e he => by (have hm := mem_listed he; clear he hK; simp [go_sem, storedEv] at hm; rcases hm with rfl | rfl | rfl | rfl <;> exact evT_write _ _ ((fun k => not_held hU (show n ≤ w.heap.size by omega)) _))⟩, ?_⟩; clear hK K; simp only [setCell_at']; refine Own.at ?_ dd)
 have e1 := tr_newkpl w (.slice none 0 0) (.slice none 0 0) (.slice none 0 0) (.bool false) (.slice aa al ac) (.slice oa ol oz) (.slice none 0 0) (.bool st)
 rw [e1]
 clear e1
 refine ogE ?_
 refine ogSR kpls3' kplr3' ?_
 simp only [kplr3, kplBody, Try.f34, zz, Nat.reduceAdd]
 (refine oW fun dd K hK => ?_; go_simp; refine qT hK ?_; clear hK K)
 refine oc callable65 #[.pointer (some ⟨kb, 0, none⟩)] ?_
 refine h _ ?_
 exact ⟨rfl, rfl, rfl, trivial⟩
theorem kpl_3 {rb tb : Nat} {aa oa : Option Addr} {al ac ol oz xl xc : Nat} {xa : Option Addr} {st : Bool} {y0 y1 y2 y3 : Value} (hne : rb ≠ tb) (hR : TrAt w rb y0 y1 y2 y3) (hT : TrAt w tb (.slice aa al ac) (.slice oa ol oz) (.slice none 0 0) (.bool st)) (hnr : ∀ k, ¬ held F ⟨rb, k, none⟩) (hnt : ∀ k, ¬ held F ⟨tb, k, none⟩) {A : Array Value} (hA : Slots 26 A [(10, .pointer (some ⟨rb, 0, none⟩)), (12, .pointer (some ⟨tb, 0, none⟩))]) {c : Frame}
 (h : Own Try.prog main F Stop (G (c.finish (.agg #[.slice aa al ac, .slice oa ol oz, .slice xa xl xc, .bool st])) cs) (trW (w.setCell ⟨tb, 2, none⟩ (.slice xa xl xc)) rb (.slice aa al ac) (.slice oa ol oz) (.slice xa xl xc) (.bool st))) :
 Own Try.prog main F Stop (G (((Go.Conc.base 34).at ⟨A, []⟩ [.inRegion (oC kplr3) [1, 2, 3], .code kpls4]).finish (.slice xa xl xc)) (c :: cs)) w := by
 obtain ⟨hsz, h10, h12, _⟩ := hA
 obtain ⟨s, rfl⟩ := kplT_of hsz
 change s 10 = _ at h10
 change s 12 = _ at h12
 clear hsz
 simp only [kplT, h10, h12]
 clear h10 h12
 rw [Frame.finish_at]
 simp only [kplr3, kplBody, Try.f34, zz, Nat.reduceAdd]
 walk_nrm
 (refine oW fun dd K hK => ?_; go_simp; refine qT hK ?_; clear hK K)
 (refine oW fun dd K hK => ?_; have hc2 := (hT.at dd).c2; have hz0 := (hT.at dd).z; go_simp; refine hK _ _ ⟨⟨⟨0, grew_setCell rfl (hnt 2) _⟩, fun e he => by (have hm := mem_listed he; clear he hK; simp [go_sem, storedEv, hc2, hz0] at hm; subst hm; exact evT_write _ _ (hnt 2))⟩, ?_⟩; clear hK K hc2 hz0; rw [setCell_at']; refine Own.at ?_ dd)
 have hT2 : TrAt (w.setCell ⟨tb, 2, none⟩ (.slice xa xl xc)) tb (.slice aa al ac) (.slice oa ol oz) (.slice xa xl xc) (.bool st) := ⟨by rw [heap_setCell_eq hT.o]; rfl⟩
 have hR2 : TrAt (w.setCell ⟨tb, 2, none⟩ (.slice xa xl xc)) rb y0 y1 y2 y3 := ⟨(heap_setCell_ne _ _ _ hne).trans hR.o⟩
 generalize w.setCell ⟨tb, 2, none⟩ (.slice xa xl xc) = W at hT2 hR2 h ⊢
 refine ogE ?_
 refine ogSR kpls4' kplr4' ?_
 simp only [kplr4, kplBody, Try.f34, zz, Nat.reduceAdd]
 (refine oW fun dd K hK => ?_; have hc0 := (hT2.at dd).c0; have hc1 := (hT2.at dd).c1; have hc2 := (hT2.at dd).c2; have hc3 := (hT2.at dd).c3; have hz0 := (hT2.at dd).z; go_simp; refine hK _ _ ⟨⟨⟨0, Grew.refl _ _⟩, fun e he => by (have hm := mem_listed he; clear he hK; simp [go_sem, hc0, hc1, hc2, hc3, hz0] at hm; rcases hm with rfl | rfl | rfl | rfl <;> exact evT_read _ _)⟩, Own.at ?_ dd⟩; clear hK K hc0 hc1 hc2 hc3 hz0)
 (refine oW fun dd K hK => ?_; have hc0 := (hR2.at dd).c0; have hc1 := (hR2.at dd).c1; have hc2 := (hR2.at dd).c2; have hc3 := (hR2.at dd).c3; have hz0 := (hR2.at dd).z; go_simp; refine hK _ _ ⟨⟨⟨0, grew4 hnr _ _ _ _⟩, fun e he => by (have hm := mem_listed he; clear he hK; simp [go_sem, storedEv, hc0, hc1, hc2, hc3, hz0] at hm; rcases hm with rfl | rfl | rfl | rfl <;> exact evT_write _ _ (hnr _))⟩, ?_⟩; clear hK K hc0 hc1 hc2 hc3 hz0; simp only [setCell_at']; refine Own.at ?_ dd)
 refine ogE ?_
 refine ogX ?_
 have hT3 := hR2.put (.slice aa al ac) (.slice oa ol oz) (.slice xa xl xc) (.bool st)
 change Own _ _ _ _ _ (trW W rb (.slice aa al ac) (.slice oa ol oz) (.slice xa xl xc) (.bool st))
 generalize (trW W rb (.slice aa al ac) (.slice oa ol oz) (.slice xa xl xc) (.bool st)) = V at hT3 h ⊢
 have hc0 := hT3.c0
 have hc1 := hT3.c1
 have hc2 := hT3.c2
 have hc3 := hT3.c3
 have hz0 := hT3.z
 refine own_leave (fn := Try.f34) (v := .agg #[.slice aa al ac, .slice oa ol oz, .slice xa xl xc, .bool st]) rfl rfl Try.func34 (fun d => by simp [results, Try.f34, go_sem, hc0, hc1, hc2, hc3, hz0]) (fun d e he => by simp [results, Try.f34, go_sem, hc0, hc1, hc2, hc3, hz0] at he; rcases he with rfl | rfl | rfl | rfl <;> exact evT_read _ _) ?_
 exact h
end
section
variable {P : Program}
theorem wf_E0 (w : World) : Wf F0 w := ⟨fun r z h => by cases h⟩
theorem res_any {fn : Func} {t : Array Value} {w : World} {τ : Tape} {e : Nat} {v : Value} (h : (results fn t).run P (retape w τ e) = .ok v (retape w τ e)) (d : Nat) :
 (results fn t).run P (w.at d) = .ok v (w.at d) ∧ ∀ x ∈ (results fn t).events P (w.at d) #[], EvT F0 x := by
 obtain ⟨w1, es, j, hu, r1, e1, t1, g1, hw1, l1⟩ := (results_sims (P := P) (F := F0) fn t (retape w τ e) (wf_E0 _)).ok (by rw [mask_none (fun _ => rfl)]; exact h)
 rw [mask_none (fun _ => rfl)] at hu
 subst hu
 have hj : j = 0 := by
  have := g1.drawn
  omega
 subst hj
 have h2 := l1 (w.at d).tape (w.at d).drawn (by intro i q hi; omega)
 rw [mask_none (fun _ => rfl)] at h2
 have h3 : (results fn t).run P (w.at d) = .ok v (w.at d) := h2
 refine ⟨h3, fun x hx => ?_⟩
 obtain ⟨w2, es2, j2, hu2, r2, e2, t2, g2, hw2, l2⟩ := (results_sims (P := P) (F := F0) fn t (w.at d) (wf_E0 _)).ok (by rw [mask_none (fun _ => rfl)]; exact h3)
 rw [e2] at hx
 exact t2 x (by simpa using hx)
theorem own_callB {S : FuncId → Bool} (hC : Closed P S true) (hE : NoEarly P) {f : Nat} {fn : Func} {c : Code} (hf : P.funcs[f]? = some fn) (hb : fn.body = some c) (hc : codeOk P S true c = true) {args : Array Value} {w : World} {R : Value → World → Prop}
 (H : ∀ τ e, CallsB P fn args (retape w τ e) R) {cl : Frame} {cs : List Frame} {main : Bool} {Stop : Goroutine → World → Prop}
 (K : ∀ v w' τ e, R v (retape w' τ e) → Gd F0 w w' → Own P main F0 Stop (G (cl.finish v) cs) w') : Own P main F0 Stop (G (Frame.enter P f args .normal) (cl :: cs)) w := by
 let b : Frame := { (default : Frame) with fn := f, kind := .normal }
 have henter : Frame.enter P f args .normal = b.at { tmps := args ++ Array.replicate (fn.ntmps - args.size) undef, defers := [] } [.code c] := by
  simp [Frame.enter, Frame.at, hf, hb, b]
 rw [henter]
 have back : ∀ (a' : Act) (w' : World) (t' : List Item) (τ : Tape) (e : Nat), a'.defers = [] → (∃ v, (results fn a'.tmps).run P (retape (mask F0 w') τ e) = .ok v (retape (mask F0 w') τ e) ∧ ∃ v', Ending.returned v = .returned v' ∧ R v' (retape (mask F0 w') τ e)) → Gd F0 w w' →
  Own P main F0 Stop (G { b.at a' t' with mode := .returning } (cl :: cs)) w' := fun a' w' t' τ e hd ⟨v, h1, v', h2, h3⟩ hg => by
  cases h2
  rw [mask_none (fun _ => rfl)] at h1 h3
  exact own_leave rfl hd hf (fun d => (res_any h1 d).1) (fun d x hx => (res_any h1 d).2 x hx) (K _ _ τ e h3 hg)
 refine lift (Q := bodyPost P fn fun x w' => ∃ v, x = .returned v ∧ R v w') hC (fun _ _ => rfl) hE hc (wf_E0 w) rfl (fun e a w hq => ?_) (fun τ e => ?_) (by simp [b]) (fun a' w' τ e hq _ hg => ?_) (fun a' w' τ e t' hq _ hg => ?_)
 ·cases e with
  | normal => exact .inl rfl
  | ret => exact .inr ⟨rfl, hq.1⟩
  | panic ch => obtain ⟨_, v, h, _⟩ := hq; cases h
  | outgrown => obtain ⟨v, h, _⟩ := hq; cases h
  | exit _ => exact hq.elim
  | goto _ => exact hq.elim
 ·rw [mask_none (fun _ => rfl)]
  exact H τ e c hb
 ·obtain ⟨hd, h⟩ := hq
  have : b.at a' [] = b.at ⟨a'.tmps, []⟩ [] := by rw [← hd]
  rw [this]
  refine own_go rfl (fun d => stepG_end) ?_
  exact back ⟨a'.tmps, []⟩ w' [] τ e rfl h hg
 ·obtain ⟨hd, h⟩ := hq
  exact back a' w' _ τ e hd h hg
def codeOkF (P : Program) (S : FuncId → Bool) (f : FuncId) : Bool := match P.funcs[f]? with
 | some fn => !(fn.name == "runtime.NumGoroutine") && match fn.body with
   | some c => codeOk P S true c
   | none => false
 | none => false
theorem codeOkF_of {P : Program} {S : FuncId → Bool} {f : FuncId} (h : codeOkF P S f = true) : ∃ fn, P.funcs[f]? = some fn ∧ (fn.name == "runtime.NumGoroutine") = false ∧ ∃ c, fn.body = some c ∧ codeOk P S true c = true := by
 unfold codeOkF at h
 split at h
 ·rename_i fn hf
  rw [Bool.and_eq_true] at h
  obtain ⟨h1, h2⟩ := h
  split at h2
  ·rename_i c hc
   exact ⟨fn, hf, by simpa using h1, c, hc, h2⟩
  ·cases h2
 ·cases h
theorem own_piece {S : FuncId → Bool} (hC : Closed P S true) (hE : NoEarly P) {c : Code} (hc : codeOk P S true c = true) {A : Array Value} {w : World} {R : Array Value → World → Prop} {b : Frame} {k : List Item} (hk : b.kind ≠ .early)
 (H : ∀ τ e, c.wp P (nrm fun a w => a.defers = [] ∧ R a.tmps w) ⟨A, []⟩ (retape w τ e)) {cs : List Frame} {main : Bool} {Stop : Goroutine → World → Prop}
 (K : ∀ A' w' τ e, R A' (retape w' τ e) → Gd F0 w w' → Own P main F0 Stop (G (b.at ⟨A', []⟩ k) cs) w') : Own P main F0 Stop (G (b.at ⟨A, []⟩ (.code c :: k)) cs) w := by
 refine lift (Q := nrm fun a w => a.defers = [] ∧ R a.tmps w) hC (fun _ _ => rfl) hE hc (wf_E0 w) rfl (fun e a w hq => ?_) (fun τ e => ?_) hk (fun a' w' τ e hq _ hg => ?_) (fun a' w' τ e t' hq _ hg => ?_)
 ·cases e with
  | normal => exact .inl rfl
  | _ => exact hq.elim
 ·rw [mask_none (fun _ => rfl)]
  exact H τ e
 ·obtain ⟨hd, h⟩ := hq
  rw [mask_none (fun _ => rfl)] at h
  obtain ⟨tm, df⟩ := a'
  simp only at hd
  subst hd
  exact K tm w' τ e h hg
 ·exact hq.elim
end
section
variable {cs : List Frame} {main : Bool} {Stop : Goroutine → World → Prop}
structure ExtOk (P : Program) (f : FuncId) : Prop where
 e : ∃ fn, P.funcs[f]? = some fn ∧ (fn.name == "runtime.NumGoroutine") = false ∧ fn.body = none ∧ Extern.findNext fn = none ∧ ∃ x, Extern.find fn = some x ∧ Entry P true x
theorem closed_ofX {P : Program} {l x : List Nat} (hx : ∀ f ∈ x, ExtOk P f) (h : l.all (fun f => x.contains f || codeOkF P (fun f => l.contains f) f) = true) : Closed P (fun f => l.contains f) true := fun f hf => by
 have h1 := List.all_eq_true.1 h f (List.contains_iff_mem.1 hf)
 rw [Bool.or_eq_true] at h1
 rcases h1 with h1 | h1
 ·obtain ⟨fn, a1, a2, a3, a4, y, a5, a6⟩ := (hx f (List.contains_iff_mem.1 h1)).e
  exact ⟨fn, a1, a2, .inr ⟨a3, a4, y, a5, a6⟩⟩
 ·obtain ⟨fn, a1, a2, c, a3, a4⟩ := codeOkF_of h1
  exact ⟨fn, a1, a2, .inl ⟨c, a3, a4⟩⟩
theorem ext_load {f : FuncId} {fn : Func} {t : Extern.Atomic.T} (h1 : Try.prog.funcs[f]? = some fn) (h2 : (fn.name == "runtime.NumGoroutine") = false) (h3 : fn.body = none) (h4 : Extern.findNext fn = none) (h5 : Extern.find fn = some (Extern.Atomic.loadT t)) : ExtOk Try.prog f :=
 ⟨fn, h1, h2, h3, h4, _, h5, fun F _ args => Sims.loadT t args⟩
theorem ext_store {f : FuncId} {fn : Func} (h1 : Try.prog.funcs[f]? = some fn) (h2 : (fn.name == "runtime.NumGoroutine") = false) (h3 : fn.body = none) (h4 : Extern.findNext fn = none) (h5 : Extern.find fn = some Extern.Atomic.storeT) : ExtOk Try.prog f :=
 ⟨fn, h1, h2, h3, h4, _, h5, fun F _ args => Sims.storeT args⟩
theorem ext_cas {f : FuncId} {fn : Func} {t : Extern.Atomic.T} (h1 : Try.prog.funcs[f]? = some fn) (h2 : (fn.name == "runtime.NumGoroutine") = false) (h3 : fn.body = none) (h4 : Extern.findNext fn = none) (h5 : Extern.find fn = some (Extern.Atomic.casT t)) : ExtOk Try.prog f :=
 ⟨fn, h1, h2, h3, h4, _, h5, fun F hF args => Sims.casT t (hF rfl) args⟩
theorem ext87 : ExtOk Try.prog 87 := ext_store Try.func87 (by kernel_rfl) (by kernel_rfl) (by kernel_rfl) (by kernel_rfl)
theorem ext88 : ExtOk Try.prog 88 := ext_load (t := .int .i64) Try.func88 (by kernel_rfl) (by kernel_rfl) (by kernel_rfl) (by kernel_rfl)
theorem ext96 : ExtOk Try.prog 96 := ext_store Try.func96 (by kernel_rfl) (by kernel_rfl) (by kernel_rfl) (by kernel_rfl)
theorem ext97 : ExtOk Try.prog 97 := ext_load (t := .int .u64) Try.func97 (by kernel_rfl) (by kernel_rfl) (by kernel_rfl) (by kernel_rfl)
theorem ext113 : ExtOk Try.prog 113 := ext_cas (t := .int .i64) Try.func113 (by kernel_rfl) (by kernel_rfl) (by kernel_rfl) (by kernel_rfl)
theorem ext114 : ExtOk Try.prog 114 := ext_cas (t := .int .u64) Try.func114 (by kernel_rfl) (by kernel_rfl) (by kernel_rfl) (by kernel_rfl)
theorem extA : ∀ f ∈ [87, 88, 96, 97, 113, 114], ExtOk Try.prog f := by
 intro f hf
 simp only [List.mem_cons, List.not_mem_nil, or_false] at hf
 rcases hf with rfl | rfl | rfl | rfl | rfl | rfl
 ·exact ext87
 ·exact ext88
 ·exact ext96
 ·exact ext97
 ·exact ext113
 ·exact ext114
def kFns : List Nat := [36, 38, 39, 65, 52, 54, 74, 75, 76, 77, 87, 88, 96, 97]
theorem closedK : Closed Try.prog (fun f => kFns.contains f) true := closed_ofX extA (by kernel_rfl)
theorem CallsB.mono {P : Program} {fn : Func} {args : Array Value} {w : World} {R R' : Value → World → Prop} (h : CallsB P fn args w R) (hr : ∀ v u, R v u → R' v u) : CallsB P fn args w R' := fun c hc => by
 refine Code.wp_mono (fun e a u hq => ?_) (h c hc)
 cases e with
 | normal => obtain ⟨h1, v, h2, v', h3, h4⟩ := hq; exact ⟨h1, v, h2, v', h3, hr _ _ h4⟩
 | ret => obtain ⟨h1, v, h2, v', h3, h4⟩ := hq; exact ⟨h1, v, h2, v', h3, hr _ _ h4⟩
 | panic ch => obtain ⟨h1, v', h3, h4⟩ := hq; exact ⟨h1, v', h3, hr _ _ h4⟩
 | outgrown => obtain ⟨v', h3, h4⟩ := hq; exact ⟨v', h3, hr _ _ h4⟩
 | exit _ => exact hq
 | goto _ => exact hq
variable {w w' : World} {kb : Nat}
theorem own_knew {size : Int} {tg : Bool} {n : Nat} (hn : min (max size 1) 65536 = (n : Int)) {c : Frame}
 (K : ∀ w1, KU (w.heap.size + 1) ⟨knew n tg, w.heap.size⟩ w1 → w.heap.size + 2 ≤ w1.heap.size → (∀ r, r < w.heap.size → w1.heap[r]? = w.heap[r]?) → Own Try.prog main F0 Stop (G (c.finish (.pointer (some ⟨w.heap.size + 1, 0, none⟩))) cs) w1) :
 Own Try.prog main F0 Stop (G (Frame.enter Try.prog 36 #[.int .i64 size, .bool tg] .normal) (c :: cs)) w := by
 refine own_callB closedK prog_late Try.func36 rfl (by kernel_rfl) (R := fun x w' => x = .pointer (some ⟨w.heap.size + 1, 0, none⟩) ∧ KU (w.heap.size + 1) ⟨knew n tg, w.heap.size⟩ w' ∧ w.heap.size + 2 ≤ w'.heap.size ∧ ∀ r, r < w.heap.size → w'.heap[r]? = w.heap[r]?) (fun τ e => new_callsB (w := retape w τ e) hn) fun v w' τ e hR hg => ?_
 obtain ⟨rfl, h1, h2, h3⟩ := hR
 exact K w' (h1.heap rfl) h2 h3
theorem own_heads {s : KS} (hU : KU kb s w) {c : Frame}
 (K : ∀ w1, w1.heap = w.heap → Own Try.prog main F0 Stop (G (c.finish (.tuple #[.int .i64 s.k.hd.1, .int .i64 s.k.hd.2, .int .i64 s.k.fr.1, .int .i64 s.k.fr.2])) cs) w1) :
 Own Try.prog main F0 Stop (G (Frame.enter Try.prog 38 #[.pointer (some ⟨kb, 0, none⟩)] .normal) (c :: cs)) w := by
 refine own_callB closedK prog_late Try.func38 rfl (by kernel_rfl) (R := fun v w' => v = (.tuple #[.int .i64 s.k.hd.1, .int .i64 s.k.hd.2, .int .i64 s.k.fr.1, .int .i64 s.k.fr.2]) ∧ w'.heap = w.heap) (fun τ e => heads_callsB (w := retape w τ e) (hU.heap rfl)) fun v w' τ e hR hg => ?_
 obtain ⟨rfl, h⟩ := hR
 exact K w' h
theorem own_kstate {s : KS} (hU : KU kb s w) {c : Frame}
 (K : ∀ w1 ov, ValsAt w w1 ov ([s.k.hd.1, s.k.hd.2, s.k.fr.1, s.k.fr.2] ++ s.k.vals) → Own Try.prog main F0 Stop (G (c.finish ov) cs) w1) :
 Own Try.prog main F0 Stop (G (Frame.enter Try.prog 65 #[.pointer (some ⟨kb, 0, none⟩)] .normal) (c :: cs)) w := by
 refine own_callB closedK prog_late Try.func65 rfl (by kernel_rfl) (R := fun ov w' => ValsAt w w' ov ([s.k.hd.1, s.k.hd.2, s.k.fr.1, s.k.fr.2] ++ s.k.vals)) (fun τ e => (state_callsB (w := retape w τ e) (hU.heap rfl)).mono fun v u h => ⟨h.row, h.size, h.old, h.new⟩) fun v w' τ e hR hg => ?_
 exact K w' v ⟨ownsRow_same2 hR.row fun _ _ _ => rfl, hR.size, hR.old, hR.new⟩
end
noncomputable section
variable {w : World}
theorem callable31 : Callable 31 := callable Try.func31 rfl rfl
theorem callable38 : Callable 38 := callable Try.func38 rfl rfl
theorem own_push' {sv : Value} {main : Bool} {sb m : Nat} {X : Nat → World → Prop} {kb : Nat} {s : KS} {v : Int} {b : Bool} (hb : decide (¬ s.k.fr.1 < 0) = b) (S : Stepr sv main sb X) (hU : KU kb s w) (hX : X m w) (hm : m + 7 < 4611686018427387904) (hsb : ¬ KR kb s sb) {c : Frame} {cs : List Frame} {Stop : Goroutine → World → Prop}
 (K : ∀ w', AlK kb sb X w s ⟨s.k.push1 v, s.nb⟩ (m + if s.k.fr.1 < 0 then 1 else 7) w' → Own Try.prog main F0 Stop (G (c.finish (.bool b)) cs) w') :
 Own Try.prog main F0 Stop (G (Frame.enter Try.prog 45 #[.pointer (some ⟨kb, 0, none⟩), sv, .int .i64 v] .normal) (c :: cs)) w := by
 subst hb
 exact own_push S hU hX hm hsb K
theorem own_pop' {sv : Value} {main : Bool} {sb m : Nat} {X : Nat → World → Prop} {kb : Nat} {s : KS} {v : Int} {b : Bool} (hv : (if s.k.hd.1 < 0 then 0 else s.k.val s.k.hd.1) = v) (hb : decide (¬ s.k.hd.1 < 0) = b) (S : Stepr sv main sb X) (hU : KU kb s w) (hX : X m w) (hm : m + 7 < 4611686018427387904) (hsb : ¬ KR kb s sb) {c : Frame} {cs : List Frame} {Stop : Goroutine → World → Prop}
 (K : ∀ w', AlK kb sb X w s ⟨s.k.pop1, s.nb⟩ (m + if s.k.hd.1 < 0 then 1 else 7) w' → Own Try.prog main F0 Stop (G (c.finish (.tuple #[.int .i64 v, .bool b])) cs) w') :
 Own Try.prog main F0 Stop (G (Frame.enter Try.prog 43 #[.pointer (some ⟨kb, 0, none⟩), sv] .normal) (c :: cs)) w := by
 subst hb hv
 exact own_pop S hU hX hm hsb K
theorem own_heads' {kb : Nat} {s : KS} {x1 x2 x3 x4 : Int} (hU : KU kb s w) (h1 : s.k.hd = (x1, x2)) (h2 : s.k.fr = (x3, x4)) {c : Frame} {cs : List Frame} {main : Bool} {Stop : Goroutine → World → Prop}
 (K : ∀ w1, w1.heap = w.heap → Own Try.prog main F0 Stop (G (c.finish (.tuple #[.int .i64 x1, .int .i64 x2, .int .i64 x3, .int .i64 x4])) cs) w1) :
 Own Try.prog main F0 Stop (G (Frame.enter Try.prog 38 #[.pointer (some ⟨kb, 0, none⟩)] .normal) (c :: cs)) w :=
 own_heads hU fun w1 e => by
  rw [h1, h2]
  exact K w1 e
def tu0 : KSt := knew 2 true
def tu1 : KSt := tu0.push1 5
def tu2 : KSt := tu1.push1 6
def tu3 : KSt := tu2.push1 7
def tu4 : KSt := tu3.pop1
theorem tud0 : decide (¬ tu0.fr.1 < 0) = true := by decide
theorem tud1 : decide (¬ tu1.fr.1 < 0) = true := by decide
theorem tud2 : decide (¬ tu2.fr.1 < 0) = false := by decide
theorem tud3 : decide (¬ tu3.hd.1 < 0) = true := by decide
theorem tuv3 : (if tu3.hd.1 < 0 then 0 else tu3.val tu3.hd.1) = 6 := by decide
theorem tuh4 : tu4.hd = (0, 3) := by decide
theorem tuf4 : tu4.fr = (1, 3) := by decide
def ktuBody : Code := Try.f30.body.getD .skip
def ktus0 := pC [] ktuBody
def ktur0 := pC [zt] ktuBody
def ktus1 := pC [zf] ktuBody
def ktur1 := pC [zf,zt] ktuBody
def ktus2 := pC [zf,zf] ktuBody
def ktus3 := pC [zf,zf,zt] ktuBody
def ktur2 := pC [zf,zf,zt,zt] ktuBody
def ktuc30 := pC [zf,zf,zt,zf] ktuBody
def ktus4 := pC [zf,zf,zt,zf,zt] ktuBody
def ktus5 := pC [zf,zf,zf] ktuBody
def ktur4 := pC [zf,zf,zf,zt] ktuBody
def ktus6 := pC [zf,zf,zf,zf] ktuBody
def ktur5 := pC [zf,zf,zf,zf,zt] ktuBody
def ktus7 := pC [zf,zf,zf,zf,zf] ktuBody
def ktur6 := pC [zf,zf,zf,zf,zf,zt] ktuBody
def ktus8 := pC [zf,zf,zf,zf,zf,zf] ktuBody
def ktur7 := pC [zf,zf,zf,zf,zf,zf,zt] ktuBody
theorem ktus0' : ktus0 = .seq ktur0 ktus1 := by kernel_rfl
theorem ktur0' : ktur0 = .region 0 (oC ktur0) false := by kernel_rfl
theorem ktus1' : ktus1 = .seq ktur1 ktus2 := by kernel_rfl
theorem ktur1' : ktur1 = .region 1 (oC ktur1) false := by kernel_rfl
theorem ktus2' : ktus2 = .seq ktus3 ktus5 := by kernel_rfl
theorem ktus3' : ktus3 = .seq ktur2 ktuc30 := by kernel_rfl
theorem ktur2' : ktur2 = .region 2 (oC ktur2) false := by kernel_rfl
theorem ktuc30' : ktuc30 = .cond (.tmp 30) ktus4 .skip := by kernel_rfl
theorem ktus5' : ktus5 = .seq ktur4 ktus6 := by kernel_rfl
theorem ktur4' : ktur4 = .region 4 (oC ktur4) false := by kernel_rfl
theorem ktus6' : ktus6 = .seq ktur5 ktus7 := by kernel_rfl
theorem ktur5' : ktur5 = .region 5 (oC ktur5) false := by kernel_rfl
theorem ktus7' : ktus7 = .seq ktur6 ktus8 := by kernel_rfl
theorem ktur6' : ktur6 = .region 6 (oC ktur6) false := by kernel_rfl
theorem ktus8' : ktus8 = .seq ktur7 .ret := by kernel_rfl
theorem enter_ktu (args : Array Value) : Frame.enter Try.prog 30 args .normal = (Go.Conc.base 30).at { tmps := args ++ Array.replicate (76 - args.size) undef, defers := [] } [.code ktus0] := enter_at args Try.func30 rfl
theorem callable30 : Callable 30 := callable Try.func30 rfl rfl
def ktuT (s : Nat → Value) : Array Value := #[s 0, s 1, s 2, s 3, s 4, s 5, s 6, s 7, s 8, s 9, s 10, s 11, s 12, s 13, s 14, s 15, s 16, s 17, s 18, s 19, s 20, s 21, s 22, s 23, s 24, s 25, s 26, s 27, s 28, s 29, s 30, s 31, s 32, s 33, s 34, s 35, s 36, s 37, s 38, s 39, s 40, s 41, s 42, s 43, s 44, s 45, s 46, s 47, s 48, s 49, s 50, s 51, s 52, s 53, s 54, s 55, s 56, s 57, s 58, s 59, s 60, s 61, s 62, s 63, s 64, s 65, s 66, s 67, s 68, s 69, s 70, s 71, s 72, s 73, s 74, s 75]
theorem ktuT_of {A : Array Value} (h : A.size = 76) : ∃ s, A = ktuT s := by
 obtain ⟨s, hs, _⟩ := arr_lit A h
 exact ⟨s, hs⟩
theorem tu_0 {cs : List Frame} {main : Bool} {Stop : Goroutine → World → Prop}
 (h : ∀ A w', Slots 76 A [(2, .int .i64 6), (3, .bool true), (4, .int .i64 0), (5, .int .i64 3), (6, .int .i64 1), (7, .int .i64 3)] → w.heap.size ≤ w'.heap.size → (∀ r, r < w.heap.size → w'.heap[r]? = w.heap[r]?) → Own Try.prog main F0 Stop (G (Frame.enter Try.prog 31 #[.bool true] .normal) (((Go.Conc.base 30).at ⟨A, []⟩ [.inRegion (oC ktur6) [0, 1, 2], .code ktus8]) :: cs)) w') :
 Own Try.prog main F0 Stop (G (Frame.enter Try.prog 30 #[] .normal) cs) w := by
 rw [enter_ktu]
 walk_nrm
 refine ogSR ktus0' ktur0' ?_
 simp only [ktur0, ktuBody, Try.f30, zz, Nat.reduceAdd]
 (refine oW fun dd K hK => ?_; go_simp; refine qT hK ?_; clear hK K)
 refine ogE ?_
 refine ogSR ktus1' ktur1' ?_
 simp only [ktur1, ktuBody, Try.f30, zz, Nat.reduceAdd]
 refine oc callable36 #[.int .i64 2, .bool true] ?_
 refine own_knew (n := 2) rfl fun w1 k1 k2 k3 => ?_
 generalize ekb : w.heap.size + 1 = kb at k1 ⊢
 generalize enb : w.heap.size = nb at k1
 have hsb : ¬ KR kb ⟨tu0, nb⟩ (w.heap.size + 2) := by rintro (h | h) <;> first | omega | (change _ = nb at h; omega)
 generalize esb : w.heap.size + 2 = sb at hsb
 rw [Frame.finish_at]
 walk_nrm
 (refine oW fun dd K hK => ?_; go_simp; refine qT hK ?_; clear hK K)
 refine ogE ?_
 refine ogSE ktus2' ?_
 refine ogSR ktus3' ktur2' ?_
 simp only [ktur2, ktuBody, Try.f30, zz, Nat.reduceAdd]
 iterate 4 (refine oW fun dd K hK => ?_; go_simp; refine qT hK ?_; clear hK K)
 refine oc callable40 #[.pointer (some ⟨kb, 0, none⟩)] ?_
 refine own_size k1 (v := 2) rfl ?_
 rw [Frame.finish_at]
 walk_nrm
 iterate 4 (refine oW fun dd K hK => ?_; go_simp; refine qT hK ?_; clear hK K)
 refine oc callable45 #[.pointer (some ⟨kb, 0, none⟩), .nilIface, .int .i64 5] ?_
 refine own_push' (m := 0) (s := ⟨tu0, nb⟩) (b := true) tud0 (nilS main sb) k1 trivial (by decide) hsb fun w2 a1 => ?_
 have u1 : KU kb ⟨tu1, nb⟩ w2 := a1.u
 rw [Frame.finish_at]
 walk_nrm
 iterate 4 (refine oW fun dd K hK => ?_; go_simp; refine qT hK ?_; clear hK K)
 refine oc callable45 #[.pointer (some ⟨kb, 0, none⟩), .nilIface, .int .i64 6] ?_
 refine own_push' (m := 0) (s := ⟨tu1, nb⟩) (b := true) tud1 (nilS main sb) u1 trivial (by decide) hsb fun w3 a2 => ?_
 have u2 : KU kb ⟨tu2, nb⟩ w3 := a2.u
 rw [Frame.finish_at]
 walk_nrm
 iterate 4 (refine oW fun dd K hK => ?_; go_simp; refine qT hK ?_; clear hK K)
 refine oc callable45 #[.pointer (some ⟨kb, 0, none⟩), .nilIface, .int .i64 7] ?_
 refine own_push' (m := 0) (s := ⟨tu2, nb⟩) (b := false) tud2 (nilS main sb) u2 trivial (by decide) hsb fun w4 a3 => ?_
 have u3 : KU kb ⟨tu3, nb⟩ w4 := a3.u
 rw [Frame.finish_at]
 walk_nrm
 (refine oW fun dd K hK => ?_; go_simp; refine qT hK ?_; clear hK K)
 refine ogE ?_
 rw [ktuc30']
 refine ogF ?_
 simp only [Bool.false_eq_true, if_false]
 refine ogK ?_
 refine ogSR ktus5' ktur4' ?_
 simp only [ktur4, ktuBody, Try.f30, zz, Nat.reduceAdd]
 (refine oW fun dd K hK => ?_; go_simp; refine qT hK ?_; clear hK K)
 refine oc callable43 #[.pointer (some ⟨kb, 0, none⟩), .nilIface] ?_
 refine own_pop' (m := 0) (s := ⟨tu3, nb⟩) (v := 6) (b := true) tuv3 tud3 (nilS main sb) u3 trivial (by decide) hsb fun w5 a4 => ?_
 have u4 : KU kb ⟨tu4, nb⟩ w5 := a4.u
 rw [Frame.finish_at]
 walk_nrm
 iterate 5 (refine oW fun dd K hK => ?_; go_simp; refine qT hK ?_; clear hK K)
 refine ogE ?_
 refine ogSR ktus6' ktur5' ?_
 simp only [ktur5, ktuBody, Try.f30, zz, Nat.reduceAdd]
 (refine oW fun dd K hK => ?_; go_simp; refine qT hK ?_; clear hK K)
 refine oc callable38 #[.pointer (some ⟨kb, 0, none⟩)] ?_
 refine own_heads' (s := ⟨tu4, nb⟩) (x1 := 0) (x2 := 3) (x3 := 1) (x4 := 3) u4 tuh4 tuf4 fun w6 e6 => ?_
 rw [Frame.finish_at]
 walk_nrm
 iterate 9 (refine oW fun dd K hK => ?_; go_simp; refine qT hK ?_; clear hK K)
 refine ogE ?_
 refine ogSR ktus7' ktur6' ?_
 simp only [ktur6, ktuBody, Try.f30, zz, Nat.reduceAdd]
 refine oc callable31 #[.bool true] ?_
 have hs : w6.heap.size = w1.heap.size := by
  have := a1.sz; have := a2.sz; have := a3.sz; have := a4.sz
  rw [e6]; omega
 refine h _ w6 ⟨rfl, rfl, rfl, rfl, rfl, rfl, rfl, trivial⟩ (by omega) fun r hr => ?_
 have hr1 : r ≠ sb := by omega
 have hr2 : ∀ x : KSt, ¬ KR kb ⟨x, nb⟩ r := fun x => by rintro (h | h) <;> first | omega | (change _ = nb at h; omega)
 rw [e6, a4.o r hr1 (hr2 _), a3.o r hr1 (hr2 _), a2.o r hr1 (hr2 _), a1.o r hr1 (hr2 _), k3 r hr]
end
section
variable {An : Anchor} {w w' : World}
theorem OpsIn.later {N N' : Nat → Prop} {n tb o tl : Nat} {ta : Option Addr} {oa : Nat → Option Addr} {ol oc : Nat → Nat} {ops : Nat → List Op4} {S : List Int} {sa : Option Addr} (h : OpsIn w N n tb o tl ta oa ol oc ops S sa) (hs : w.heap.size ≤ w'.heap.size) (hold : ∀ r, r < w.heap.size → w'.heap[r]? = w.heap[r]?) (hN : ∀ r, N' r → w.heap.size ≤ r) : OpsIn w' N' n tb o tl ta oa ol oc ops S sa := by
 have hc : ∀ {a : Addr} {v : Value}, w.cell? a = some v → w'.cell? a = some v ∧ w'.frozen? a = w.frozen? a := fun {a v} h => by
  obtain ⟨c, e, z, ho⟩ := cell_block h
  have e1 := hold _ (alt ho)
  exact ⟨by rw [← h]; unfold World.cell?; simp only [e1], by unfold World.frozen?; simp only [e1]⟩
 refine ⟨h.hn, h.hta, fun hp => by have := h.htb hp; omega, fun j hj => ?_, h.hlen, fun j hj k x hx => ?_, h.hsl, fun hp => ?_⟩
 ·obtain ⟨h1, h2, h3⟩ := h.hth j hj
  exact ⟨(hc h1).1, (hc h1).2.trans h2, h3⟩
 ·obtain ⟨opb, oo, h1, h2, f0, f1, f2, f3, g0, g1, g2, g3⟩ := h.hop j hj k x hx
  obtain ⟨c, e, z, ho⟩ := cell_block f0
  have hlt := (alt ho)
  exact ⟨opb, oo, h1, fun hn => by have := hN _ hn; simp only at hlt; omega, (hc f0).1, (hc f1).1, (hc f2).1, (hc f3).1, (hc f0).2.trans g0, (hc f1).2.trans g1, (hc f2).2.trans g2, (hc f3).2.trans g3⟩
 ·obtain ⟨sb, so, c, e, z, h1, h2, h3, h4⟩ := h.hS hp
  have hlt := (alt h3)
  exact ⟨sb, so, c, e, z, h1, fun hn => by have := hN _ hn; omega, (hold _ hlt).trans h3, h4⟩
theorem own_off {base n size : Nat} {e : TypeId} {v : Value} {xs : List Value} (h : w.ownsRow base e size v n xs) (hs : ∀ b c, w.heap[b]? = some (.cells c e (0, 0)) → base ≤ b → w'.heap[b]? = w.heap[b]?) : w'.ownsRow base e size v n xs := by
 refine ⟨h.1, ?_⟩
 rcases h.2 with h2 | ⟨b, cap, cur, rfl, h3, h4, h5⟩
 ·exact .inl h2
 ·exact .inr ⟨b, cap, cur, rfl, h3, (hs b cur h4 h3).trans h4, h5⟩
structure PlayU (w : World) (n : Nat) (ans : Nat → List (Bool × Int)) (state : List Int) (order : List Nat) (aa : Nat) (ov sv : Value) (w' : World) : Prop where
 size : w.heap.size ≤ w'.heap.size
 old : ∀ (r : Nat) (c : Array Value) (e : TypeId) (z : Nat × Nat), w.heap[r]? = some (.cells c e z) → w'.heap[r]? = some (.cells c e z)
 arr : ∃ c, w'.heap[aa]? = some (.cells c 42 (0, 0)) ∧ c.size = n ∧ ∀ i, i < n → ∃ v, c[i]? = some v ∧ (ans i).length ≤ 65536 ∧ w'.ownsRow 0 44 3 v (ans i).length (ansC (ans i))
 ord : w'.ownsRow w.heap.size 3 1 ov order.length (order.map fun i : Nat => Value.int .i64 i)
 st : w'.ownsRow w.heap.size 2 1 sv state.length (state.map fun v => .int .i64 v)
def KSt.state (s : KSt) : List Int := [s.hd.1, s.hd.2, s.fr.1, s.fr.2] ++ s.vals
def kabs (kb : Nat) : Abs (KLay kb) KPl := ⟨KS.k, KC.c, id⟩
theorem kabs_ok (kb : Nat) : (kabs kb).Ok where
 beg := fun s i o y h => by
  obtain ⟨y1, y2⟩ := y
  have h2 := h.2
  cases y2 <;> exact h2
 stp := fun s c y h => by
  obtain ⟨y1, y2⟩ := y
  have h2 := h.2
  cases y2 <;> exact h2
def ks0 (n : Nat) (tg : Bool) : GS KPl := ⟨knew n tg, fun _ => ⟨0, none, []⟩⟩
theorem bes_kplay {size : Int} {tg : Bool} {m0 : Nat} (hm0 : min (max size 1) 65536 = (m0 : Int))
 {n tb o tl tc sc M : Nat} {mo : Int} {ta sa : Option Addr} {oa : Nat → Option Addr} {ol oc : Nat → Nat} {ops : Nat → List Op4} {S : List Int} (hI : OpsIn w (fun _ => False) n tb o tl ta oa ol oc ops S sa) (hM : min (max mo 0) 1048576 = (M : Int)) {c : Frame} {cs : List Frame} {Stop : Goroutine → World → Prop}
 (hP : ∀ (s : GS KPl) order, gDone n M (s, order) → (∃ k, ∀ f, k ≤ f → gOver ops n M S f (ks0 m0 tg) = (s, order)) →
   ∀ aa oa' oc' xa xc w', PlayU w n (fun i => (s.th i).ans) (KSt.state s.q) order aa (.slice oa' order.length oc') (.slice xa (KSt.state s.q).length xc) w' →
     Bes An Try.prog Stop (G (c.finish (.agg #[.slice (some ⟨aa, 0, none⟩) n n, .slice oa' order.length oc', .slice xa (KSt.state s.q).length xc, .bool (decide (0 < cnt s.live n))])) cs) w') :
 Bes An Try.prog Stop (G (Frame.enter Try.prog 34 #[.int .i64 size, .bool tg, .slice ta tl tc, .slice sa S.length sc, .int .i64 mo] .normal) (c :: cs)) w := by
 have hF : ∀ a : Addr, ¬ held F0 a := fun a h => by obtain ⟨z, hz, _⟩ := h; cases hz
 have hrow0 : ∀ r, r < w.heap.size → (w.alloc (.cells #[.slice none 0 0, .slice none 0 0, .slice none 0 0, .bool false] 31)).heap[r]? = w.heap[r]? := fun r hr => heap_alloc_lt _ _ hr
 have hs0 : (w.alloc (.cells #[.slice none 0 0, .slice none 0 0, .slice none 0 0, .bool false] 31)).heap.size = w.heap.size + 1 := by simp
 have htr : TrAt (w.alloc (.cells #[.slice none 0 0, .slice none 0 0, .slice none 0 0, .bool false] 31)) w.heap.size (.slice none 0 0) (.slice none 0 0) (.slice none 0 0) (.bool false) := ⟨heap_alloc_new _ _⟩
 refine bes_own (F := F0) (Stop := fun a u => ∃ A, a = G (Frame.enter Try.prog 47 #[.slice ta tl tc, .func (.func 64) #[.pointer (some ⟨w.heap.size + 2, 0, none⟩)] #[], .slice sa S.length sc, .int .i64 mo] .normal) (((Go.Conc.base 34).at ⟨A, []⟩ [.inRegion (oC kplr2) [5, 6, 7], .code kpls3]) :: c :: cs) ∧
  Slots 26 A [(10, .pointer (some ⟨w.heap.size, 0, none⟩)), (11, .pointer (some ⟨w.heap.size + 2, 0, none⟩))] ∧ KU (w.heap.size + 2) ⟨knew m0 tg, w.heap.size + 1⟩ u ∧ w.heap.size + 3 ≤ u.heap.size ∧ (∀ r, r < w.heap.size + 1 → u.heap[r]? = (w.alloc (.cells #[.slice none 0 0, .slice none 0 0, .slice none 0 0, .bool false] 31)).heap[r]?))
  (kpl_0 under_F0 (Nat.zero_le _) fun A hA => own_knew hm0 fun w1 k1 k2 k3 => by
    rw [hs0] at k1 k2 k3 ⊢
    exact kpl_1 hA fun A2 hA2 => .stop fun d => ⟨A2, rfl, hA2, k1.heap rfl, k2, k3⟩) fun a W hS => ?_
 obtain ⟨A, rfl, hA, hQ, hWs, hWo⟩ := hS
 have hold1 : ∀ r, r < w.heap.size → W.heap[r]? = w.heap[r]? := fun r hr => (hWo r (by omega)).trans (hrow0 r hr)
 have hrb1 : W.heap[w.heap.size]? = some (.cells #[.slice none 0 0, .slice none 0 0, .slice none 0 0, .bool false] 31 (0, 0)) := (hWo _ (by omega)).trans htr.o
 have hNr : ∀ r, (KLay (w.heap.size + 2)).SR ⟨knew m0 tg, w.heap.size + 1⟩ r → w.heap.size + 1 ≤ r := fun r hr => by
  rcases hr with rfl | rfl <;> simp
 have hI1 : OpsIn W ((KLay (w.heap.size + 2)).SR ⟨knew m0 tg, w.heap.size + 1⟩) n tb o tl ta oa ol oc ops S sa := hI.later (by omega) hold1 fun r hr => by have := hNr r hr; omega
 refine bes_ops (L := KLay (w.heap.size + 2)) (klay_ok _) (s0 := ⟨knew m0 tg, w.heap.size + 1⟩) hQ hI1 hM ?_
 intro g p p' t u oa' oc' hg hpn hpo hOk hrel hpn' hpo' hpa hU hord hnR hsz hkeep
 obtain ⟨hd, hover⟩ := overG_abs (ab := kabs _) (kabs_ok _) hOk (fun j hj => ⟨rfl, rfl⟩) hrel
 rw [hpo] at hover
 have hK := hP _ _ hd hover
 have hQU : KU (w.heap.size + 2) t.1.s u := hU.su
 have hrb2 : u.heap[w.heap.size]? = some (.cells #[.slice none 0 0, .slice none 0 0, .slice none 0 0, .bool false] 31 (0, 0)) := hkeep _ _ _ _ hrb1 fun h => by have := hNr _ h; omega
 have hcnt : cnt ((opsUsers (KLay (w.heap.size + 2)) p g).liv t.1) n = cnt ((kabs _).x t.1).live n := cnt_congr fun j _ => livG_abs t.1 j
 rw [hcnt]
 obtain ⟨ca, hca, hcs, hci⟩ := hU.arr
 have hlt := (alt hca)
 have hlr := (alt hrb2)
 have htb := heap_alloc_new u (.cells #[.slice (some ⟨p.aa, 0, none⟩) n n, .slice oa' t.2.length oc', .slice none 0 0, .bool (decide (0 < cnt ((kabs _).x t.1).live n))] 31)
 have htl : ∀ r, r < u.heap.size → (u.alloc (.cells #[.slice (some ⟨p.aa, 0, none⟩) n n, .slice oa' t.2.length oc', .slice none 0 0, .bool (decide (0 < cnt ((kabs _).x t.1).live n))] 31)).heap[r]? = u.heap[r]? := fun r hr => heap_alloc_lt _ _ hr
 have hts : (u.alloc (.cells #[.slice (some ⟨p.aa, 0, none⟩) n n, .slice oa' t.2.length oc', .slice none 0 0, .bool (decide (0 < cnt ((kabs _).x t.1).live n))] 31)).heap.size = u.heap.size + 1 := by simp
 have hstl : (KSt.state ((kabs (w.heap.size + 2)).x t.1).q).length = 4 + (KSt.vals t.1.s.k).length := by
  show (KSt.state t.1.s.k).length = _
  simp only [KSt.state, List.length_append, List.length_cons, List.length_nil]
 refine bes_own (F := F0) (Stop := fun a u2 => ∃ xa xc, a = G (c.finish (.agg #[.slice (some ⟨p.aa, 0, none⟩) n n, .slice oa' t.2.length oc', .slice xa (KSt.state ((kabs (w.heap.size + 2)).x t.1).q).length xc, .bool (decide (0 < cnt ((kabs (w.heap.size + 2)).x t.1).live n))])) cs ∧
  PlayU w n (fun i => (((kabs (w.heap.size + 2)).x t.1).th i).ans) (KSt.state ((kabs (w.heap.size + 2)).x t.1).q) t.2 p.aa (.slice oa' t.2.length oc') (.slice xa (KSt.state ((kabs (w.heap.size + 2)).x t.1).q).length xc) u2)
  (kpl_2 under_F0 (Nat.zero_le _) hA fun A2 hA2 => ?_) fun a u2 ⟨xa, xc, ha, hu2⟩ => ?_
 ·generalize u.alloc (.cells #[.slice (some ⟨p.aa, 0, none⟩) n n, .slice oa' t.2.length oc', .slice none 0 0, .bool (decide (0 < cnt ((kabs (w.heap.size + 2)).x t.1).live n))] 31) = U at htb htl hts ⊢
  refine own_kstate (hQU.same fun r hr => htl r (hQU.low hr)) fun w2 l' hV => ?_
  have k1 := hV.row
  obtain ⟨xa, xc, rfl⟩ : ∃ xa xc, l' = .slice xa (KSt.state ((kabs (w.heap.size + 2)).x t.1).q).length xc := by
   rcases k1.2 with ⟨rfl, h⟩ | ⟨b, cap, cur, rfl, _⟩
   ·simp at h
   ·exact ⟨_, _, rfl⟩
  have hR : TrAt w2 w.heap.size (.slice none 0 0) (.slice none 0 0) (.slice none 0 0) (.bool false) := ⟨(hV.old _ (by omega)).trans ((htl _ hlr).trans hrb2)⟩
  have hT : TrAt w2 u.heap.size (.slice (some ⟨p.aa, 0, none⟩) n n) (.slice oa' t.2.length oc') (.slice none 0 0) (.bool (decide (0 < cnt ((kabs (w.heap.size + 2)).x t.1).live n))) := ⟨(hV.old _ (by omega)).trans htb⟩
  refine kpl_3 (show w.heap.size ≠ u.heap.size by omega) hR hT (fun k => hF _) (fun k => hF _) hA2 (.stop fun d => ⟨xa, xc, rfl, ?_⟩)
  have hV2 := hV.size
  have hlw : ∀ r, r < u.heap.size → w2.heap[r]? = u.heap[r]? := fun r hr => (hV.old _ (by omega)).trans (htl _ hr)
  have hne : ∀ r, r ≠ w.heap.size → r ≠ u.heap.size → (trW (w2.setCell ⟨u.heap.size, 2, none⟩ (.slice xa (KSt.state ((kabs (w.heap.size + 2)).x t.1).q).length xc)) w.heap.size (.slice (some ⟨p.aa, 0, none⟩) n n) (.slice oa' t.2.length oc') (.slice xa (KSt.state ((kabs (w.heap.size + 2)).x t.1).q).length xc) (.bool (decide (0 < cnt ((kabs (w.heap.size + 2)).x t.1).live n)))).heap[r]? = w2.heap[r]? := fun r hr hr2 => by
   unfold trW
   rw [heap_setCell_ne _ _ _ hr, heap_setCell_ne _ _ _ hr, heap_setCell_ne _ _ _ hr, heap_setCell_ne _ _ _ hr, heap_setCell_ne _ _ _ hr2]
  have hsz2 : (trW (w2.setCell ⟨u.heap.size, 2, none⟩ (.slice xa (KSt.state ((kabs (w.heap.size + 2)).x t.1).q).length xc)) w.heap.size (.slice (some ⟨p.aa, 0, none⟩) n n) (.slice oa' t.2.length oc') (.slice xa (KSt.state ((kabs (w.heap.size + 2)).x t.1).q).length xc) (.bool (decide (0 < cnt ((kabs (w.heap.size + 2)).x t.1).live n)))).heap.size = w2.heap.size := by
   unfold trW; simp
  show PlayU _ _ _ _ _ _ _ _ ((trW (w2.setCell ⟨u.heap.size, 2, none⟩ (.slice xa (KSt.state ((kabs (w.heap.size + 2)).x t.1).q).length xc)) w.heap.size (.slice (some ⟨p.aa, 0, none⟩) n n) (.slice oa' t.2.length oc') (.slice xa (KSt.state ((kabs (w.heap.size + 2)).x t.1).q).length xc) (.bool (decide (0 < cnt ((kabs (w.heap.size + 2)).x t.1).live n)))).at d)
  have hne2 : ∀ r, r ≠ w.heap.size → r ≠ u.heap.size → ((trW (w2.setCell ⟨u.heap.size, 2, none⟩ (.slice xa (KSt.state ((kabs (w.heap.size + 2)).x t.1).q).length xc)) w.heap.size (.slice (some ⟨p.aa, 0, none⟩) n n) (.slice oa' t.2.length oc') (.slice xa (KSt.state ((kabs (w.heap.size + 2)).x t.1).q).length xc) (.bool (decide (0 < cnt ((kabs (w.heap.size + 2)).x t.1).live n)))).at d).heap[r]? = w2.heap[r]? := hne
  have hsz3 : ((trW (w2.setCell ⟨u.heap.size, 2, none⟩ (.slice xa (KSt.state ((kabs (w.heap.size + 2)).x t.1).q).length xc)) w.heap.size (.slice (some ⟨p.aa, 0, none⟩) n n) (.slice oa' t.2.length oc') (.slice xa (KSt.state ((kabs (w.heap.size + 2)).x t.1).q).length xc) (.bool (decide (0 < cnt ((kabs (w.heap.size + 2)).x t.1).live n)))).at d).heap.size = w2.heap.size := hsz2
  generalize (trW (w2.setCell ⟨u.heap.size, 2, none⟩ (.slice xa (KSt.state ((kabs (w.heap.size + 2)).x t.1).q).length xc)) w.heap.size (.slice (some ⟨p.aa, 0, none⟩) n n) (.slice oa' t.2.length oc') (.slice xa (KSt.state ((kabs (w.heap.size + 2)).x t.1).q).length xc) (.bool (decide (0 < cnt ((kabs (w.heap.size + 2)).x t.1).live n)))).at d = V at hne2 hsz3 ⊢
  have hty : ∀ (b : Nat) (c : Array Value) (e : TypeId) (z : Nat × Nat), u.heap[b]? = some (.cells c e z) → e ≠ 31 → V.heap[b]? = u.heap[b]? := fun b cc e z hb he => by
   have hbl := (alt hb)
   rw [hne2 b (fun h => by rw [h, hrb2] at hb; cases hb; exact he rfl) (by omega), hlw b hbl]
  refine ⟨by omega, fun r cc e z hr => ?_, ⟨ca, ?_, ?_, fun i hi => ?_⟩, ?_, ?_⟩
  ·have hlt := (alt hr)
   rw [hne2 r (by omega) (by omega), hlw r (by omega)]
   exact hkeep _ _ _ _ ((hold1 r hlt).trans hr) fun h => by have := hNr _ h; omega
  ·rw [hty _ _ _ _ (hpa ▸ hca) (by decide)]
   exact hpa ▸ hca
  ·rw [hcs, hpn']
  ·have hi' : i < p'.n := by rw [hpn']; exact hi
   have ht := hU.thr i hi'
   have e0 : (((kabs (w.heap.size + 2)).x t.1).th i).ans = (t.1.th i).ans := List.map_id _
   refine ⟨_, hci i hi', ?_, ?_⟩
   ·simp only [e0]
    have h1 := ht.al
    have h2 := ht.kl
    rw [hpo', hI.hlen i hi] at h2
    exact Nat.le_trans (Nat.le_of_eq h1) (Nat.le_trans h2 (by omega))
   ·simp only [e0]
    have hr : u.ownsRow 0 44 3 (t.1.th i).row (t.1.th i).ans.length (ansC (t.1.th i).ans) := ht.row
    exact own_off hr fun b cc hb _ => hty b cc _ _ hb (by decide)
  ·exact ownsRow_mono_base (by omega) (own_off hord fun b cc hb _ => hty b cc _ _ hb (by decide))
  ·have e2 : V.ownsRow 0 2 1 (.slice xa (KSt.state ((kabs (w.heap.size + 2)).x t.1).q).length xc) (KSt.state ((kabs (w.heap.size + 2)).x t.1).q).length ((KSt.state ((kabs (w.heap.size + 2)).x t.1).q).map fun v => .int .i64 v) := by
    refine ownsRow_same2 k1 fun b hb _ => ?_
    have := hV.new b hb
    exact hne2 b (by omega) (by omega)
   refine ⟨e2.1, ?_⟩
   rcases e2.2 with h | ⟨b, cap, cur, h1, h2, h3⟩
   ·exact .inl h
   ·refine .inr ⟨b, cap, cur, h1, ?_, h3⟩
    have := hV.new b (by rw [h1]; rfl)
    omega
 ·subst ha
  exact hK _ _ _ _ _ _ hu2
end
noncomputable section
variable {cs : List Frame} {main : Bool} {Stop : Goroutine → World → Prop}
variable {F : Fz} {w : World}
theorem callable62 : Callable 62 := callable Try.func62 rfl rfl
theorem bOp (k a b c : Int) : Try.prog.built 47 [(0, .int .i64 k)] = some #[.int .i64 k, .int .i64 0, .int .i64 0, .int .i64 0] := by kernel_rfl
theorem bOp2 (k a : Int) : Try.prog.built 47 [(0, .int .i64 k), (1, .int .i64 a)] = some #[.int .i64 k, .int .i64 a, .int .i64 0, .int .i64 0] := by kernel_rfl
@[go_sem] theorem run_bOp (k : Int) (w : World) : (Instr.build 47 #[(0, .int .i64 k)]).run Try.prog w = .ok (.agg #[.int .i64 k, .int .i64 0, .int .i64 0, .int .i64 0]) w := run_build w _ _ _ (bOp k 0 0 0)
@[go_sem] theorem ev_bOp (k : Int) (w : World) (es : Array Event) : (Instr.build 47 #[(0, .int .i64 k)]).events Try.prog w es = es := ev_build w es _ _ _ _ Try.underlying47 (bOp k 0 0 0)
@[go_sem] theorem run_bOp2 (k a : Int) (w : World) : (Instr.build 47 #[(0, .int .i64 k), (1, .int .i64 a)]).run Try.prog w = .ok (.agg #[.int .i64 k, .int .i64 a, .int .i64 0, .int .i64 0]) w := run_build w _ _ _ (bOp2 k a)
@[go_sem] theorem ev_bOp2 (k a : Int) (w : World) (es : Array Event) : (Instr.build 47 #[(0, .int .i64 k), (1, .int .i64 a)]).events Try.prog w es = es := ev_build w es _ _ _ _ Try.underlying47 (bOp2 k a)
def kclBody : Code := Try.f31.body.getD .skip
def kcls0 := pC [] kclBody
def kclr0 := pC [zt] kclBody
def kcls1 := pC [zf] kclBody
def kclr1 := pC [zf,zt] kclBody
def kcls2 := pC [zf,zf] kclBody
def kclr2 := pC [zf,zf,zt] kclBody
def kcls3 := pC [zf,zf,zf] kclBody
def kclr3 := pC [zf,zf,zf,zt] kclBody
theorem kcls0' : kcls0 = .seq kclr0 kcls1 := by kernel_rfl
theorem kclr0' : kclr0 = .region 0 (oC kclr0) false := by kernel_rfl
theorem kcls1' : kcls1 = .seq kclr1 kcls2 := by kernel_rfl
theorem kclr1' : kclr1 = .region 1 (oC kclr1) false := by kernel_rfl
theorem kcls2' : kcls2 = .seq kclr2 kcls3 := by kernel_rfl
theorem kclr2' : kclr2 = .region 2 (oC kclr2) false := by kernel_rfl
theorem kcls3' : kcls3 = .seq kclr3 .ret := by kernel_rfl
theorem kclr3' : kclr3 = .region 3 (oC kclr3) false := by kernel_rfl
theorem enter_kcl (args : Array Value) : Frame.enter Try.prog 31 args .normal = (Go.Conc.base 31).at { tmps := args ++ Array.replicate (27 - args.size) undef, defers := [] } [.code kcls0] := enter_at args Try.func31 rfl
def kclT (s : Nat → Value) : Array Value := #[s 0, s 1, s 2, s 3, s 4, s 5, s 6, s 7, s 8, s 9, s 10, s 11, s 12, s 13, s 14, s 15, s 16, s 17, s 18, s 19, s 20, s 21, s 22, s 23, s 24, s 25, s 26]
theorem kclT_of {A : Array Value} (h : A.size = 27) : ∃ s, A = kclT s := by
 obtain ⟨s, hs, _⟩ := arr_lit A h
 exact ⟨s, hs⟩
def clW (w : World) : World := (((((w.alloc (.cells #[.slice none 0 0, .slice none 0 0, .slice none 0 0, .bool false] 31)).alloc (.cells #[.int .i64 2, .int .i64 0, .int .i64 0, .int .i64 0] 47)).alloc (.cells #[.int .i64 1, .int .i64 8, .int .i64 0, .int .i64 0, .int .i64 1, .int .i64 7, .int .i64 0, .int .i64 0, .int .i64 2, .int .i64 0, .int .i64 0, .int .i64 0, .int .i64 2, .int .i64 0, .int .i64 0, .int .i64 0, .int .i64 1, .int .i64 4, .int .i64 0, .int .i64 0] 47)).alloc (.cells #[.int .i64 1, .int .i64 9, .int .i64 0, .int .i64 0] 47)).alloc (.cells #[.slice (some ⟨w.heap.size + 1, 0, none⟩) 1 1, .slice (some ⟨w.heap.size + 2, 0, none⟩) 5 5, .slice (some ⟨w.heap.size + 3, 0, none⟩) 1 1] 34))
theorem cl_0 {n : Nat} (hU : Under F n) (hn : n ≤ w.heap.size) {tg : Bool}
 (h : ∀ A, Slots 27 A [(0, .bool tg), (2, .pointer (some ⟨w.heap.size, 0, none⟩)), (3, .slice (some ⟨w.heap.size + 4, 0, none⟩) 3 3)] → Own Try.prog main F Stop (G (Frame.enter Try.prog 62 #[.slice none 0 0, .int .i64 1, .int .i64 14] .normal) (((Go.Conc.base 31).at ⟨A, []⟩ [.inRegion (oC kclr2) [0, 1, 2, 3, 4, 5, 6, 7], .code kcls3]) :: cs)) (clW w)) :
 Own Try.prog main F Stop (G (Frame.enter Try.prog 31 #[.bool tg] .normal) cs) w := by
 rw [enter_kcl]
 walk_nrm
 refine ogSR kcls0' kclr0' ?_
 simp only [kclr0, kclBody, Try.f31, zz, Nat.reduceAdd]
 (refine oW fun dd K hK => ?_; go_simp; refine qA hK hU ?_; clear hK K)
 refine ogE ?_
 refine ogSR kcls1' kclr1' ?_
 simp only [kclr1, kclBody, Try.f31, zz, Nat.reduceAdd]
 (refine oW fun dd K hK => ?_; go_simp; refine qT hK ?_; clear hK K)
 (refine oW fun dd K hK => ?_; go_simp; refine qA hK hU ?_; clear hK K)
 iterate 5 (refine oW fun dd K hK => ?_; go_simp; refine qT hK ?_; clear hK K)
 (refine oW fun dd K hK => ?_; go_simp; refine qA hK hU ?_; clear hK K)
 (refine oW fun dd K hK => ?_; go_simp; refine qT hK ?_; clear hK K)
 iterate 2 (refine oW fun dd K hK => ?_; go_simp; refine qA hK hU ?_; clear hK K)
 (refine oW fun dd K hK => ?_; go_simp; refine qT hK ?_; clear hK K)
 refine ogE ?_
 refine ogSR kcls2' kclr2' ?_
 simp only [kclr2, kclBody, Try.f31, zz, Nat.reduceAdd]
 refine oc callable62 #[.slice none 0 0, .int .i64 1, .int .i64 14] ?_
 refine h _ ?_
 exact ⟨rfl, rfl, rfl, rfl, trivial⟩
theorem cl_10 {tg : Bool} {rb th : Nat} {v : Value} {A : Array Value} (hA : Slots 27 A [(0, .bool tg), (2, .pointer (some ⟨rb, 0, none⟩)), (3, .slice (some ⟨th, 0, none⟩) 3 3)])
 (h : ∀ A, Slots 27 A [(0, .bool tg), (2, .pointer (some ⟨rb, 0, none⟩)), (3, .slice (some ⟨th, 0, none⟩) 3 3)] → Own Try.prog main F Stop (G (Frame.enter Try.prog 62 #[v, .int .i64 0, .int .i64 2] .normal) (((Go.Conc.base 31).at ⟨A, []⟩ [.inRegion (oC kclr2) [1, 2, 3, 4, 5, 6, 7], .code kcls3]) :: cs)) w) :
 Own Try.prog main F Stop (G (((Go.Conc.base 31).at ⟨A, []⟩ [.inRegion (oC kclr2) [0, 1, 2, 3, 4, 5, 6, 7], .code kcls3]).finish v) cs) w := by
 obtain ⟨hsz, h0, h2, h3, _⟩ := hA
 obtain ⟨s, rfl⟩ := kclT_of hsz
 change s 0 = _ at h0
 change s 2 = _ at h2
 change s 3 = _ at h3
 clear hsz
 simp only [kclT, h0, h2, h3]
 clear h0 h2 h3
 rw [Frame.finish_at]
 simp only [kclr2, kclBody, Try.f31, zz, Nat.reduceAdd]
 walk_nrm
 refine oc callable62 #[v, .int .i64 0, .int .i64 2] ?_
 refine h _ ?_
 exact ⟨rfl, rfl, rfl, rfl, trivial⟩
theorem cl_11 {tg : Bool} {rb th : Nat} {v : Value} {A : Array Value} (hA : Slots 27 A [(0, .bool tg), (2, .pointer (some ⟨rb, 0, none⟩)), (3, .slice (some ⟨th, 0, none⟩) 3 3)])
 (h : ∀ A, Slots 27 A [(0, .bool tg), (2, .pointer (some ⟨rb, 0, none⟩)), (3, .slice (some ⟨th, 0, none⟩) 3 3)] → Own Try.prog main F Stop (G (Frame.enter Try.prog 62 #[v, .int .i64 1, .int .i64 14] .normal) (((Go.Conc.base 31).at ⟨A, []⟩ [.inRegion (oC kclr2) [2, 3, 4, 5, 6, 7], .code kcls3]) :: cs)) w) :
 Own Try.prog main F Stop (G (((Go.Conc.base 31).at ⟨A, []⟩ [.inRegion (oC kclr2) [1, 2, 3, 4, 5, 6, 7], .code kcls3]).finish v) cs) w := by
 obtain ⟨hsz, h0, h2, h3, _⟩ := hA
 obtain ⟨s, rfl⟩ := kclT_of hsz
 change s 0 = _ at h0
 change s 2 = _ at h2
 change s 3 = _ at h3
 clear hsz
 simp only [kclT, h0, h2, h3]
 clear h0 h2 h3
 rw [Frame.finish_at]
 simp only [kclr2, kclBody, Try.f31, zz, Nat.reduceAdd]
 walk_nrm
 refine oc callable62 #[v, .int .i64 1, .int .i64 14] ?_
 refine h _ ?_
 exact ⟨rfl, rfl, rfl, rfl, trivial⟩
theorem cl_12 {tg : Bool} {rb th : Nat} {v : Value} {A : Array Value} (hA : Slots 27 A [(0, .bool tg), (2, .pointer (some ⟨rb, 0, none⟩)), (3, .slice (some ⟨th, 0, none⟩) 3 3)])
 (h : ∀ A, Slots 27 A [(0, .bool tg), (2, .pointer (some ⟨rb, 0, none⟩)), (3, .slice (some ⟨th, 0, none⟩) 3 3)] → Own Try.prog main F Stop (G (Frame.enter Try.prog 62 #[v, .int .i64 2, .int .i64 3] .normal) (((Go.Conc.base 31).at ⟨A, []⟩ [.inRegion (oC kclr2) [3, 4, 5, 6, 7], .code kcls3]) :: cs)) w) :
 Own Try.prog main F Stop (G (((Go.Conc.base 31).at ⟨A, []⟩ [.inRegion (oC kclr2) [2, 3, 4, 5, 6, 7], .code kcls3]).finish v) cs) w := by
 obtain ⟨hsz, h0, h2, h3, _⟩ := hA
 obtain ⟨s, rfl⟩ := kclT_of hsz
 change s 0 = _ at h0
 change s 2 = _ at h2
 change s 3 = _ at h3
 clear hsz
 simp only [kclT, h0, h2, h3]
 clear h0 h2 h3
 rw [Frame.finish_at]
 simp only [kclr2, kclBody, Try.f31, zz, Nat.reduceAdd]
 walk_nrm
 refine oc callable62 #[v, .int .i64 2, .int .i64 3] ?_
 refine h _ ?_
 exact ⟨rfl, rfl, rfl, rfl, trivial⟩
theorem cl_13 {tg : Bool} {rb th : Nat} {v : Value} {A : Array Value} (hA : Slots 27 A [(0, .bool tg), (2, .pointer (some ⟨rb, 0, none⟩)), (3, .slice (some ⟨th, 0, none⟩) 3 3)])
 (h : ∀ A, Slots 27 A [(0, .bool tg), (2, .pointer (some ⟨rb, 0, none⟩)), (3, .slice (some ⟨th, 0, none⟩) 3 3)] → Own Try.prog main F Stop (G (Frame.enter Try.prog 62 #[v, .int .i64 1, .int .i64 7] .normal) (((Go.Conc.base 31).at ⟨A, []⟩ [.inRegion (oC kclr2) [4, 5, 6, 7], .code kcls3]) :: cs)) w) :
 Own Try.prog main F Stop (G (((Go.Conc.base 31).at ⟨A, []⟩ [.inRegion (oC kclr2) [3, 4, 5, 6, 7], .code kcls3]).finish v) cs) w := by
 obtain ⟨hsz, h0, h2, h3, _⟩ := hA
 obtain ⟨s, rfl⟩ := kclT_of hsz
 change s 0 = _ at h0
 change s 2 = _ at h2
 change s 3 = _ at h3
 clear hsz
 simp only [kclT, h0, h2, h3]
 clear h0 h2 h3
 rw [Frame.finish_at]
 simp only [kclr2, kclBody, Try.f31, zz, Nat.reduceAdd]
 walk_nrm
 refine oc callable62 #[v, .int .i64 1, .int .i64 7] ?_
 refine h _ ?_
 exact ⟨rfl, rfl, rfl, rfl, trivial⟩
theorem cl_14 {tg : Bool} {rb th : Nat} {v : Value} {A : Array Value} (hA : Slots 27 A [(0, .bool tg), (2, .pointer (some ⟨rb, 0, none⟩)), (3, .slice (some ⟨th, 0, none⟩) 3 3)])
 (h : ∀ A, Slots 27 A [(0, .bool tg), (2, .pointer (some ⟨rb, 0, none⟩)), (3, .slice (some ⟨th, 0, none⟩) 3 3)] → Own Try.prog main F Stop (G (Frame.enter Try.prog 62 #[v, .int .i64 0, .int .i64 5] .normal) (((Go.Conc.base 31).at ⟨A, []⟩ [.inRegion (oC kclr2) [5, 6, 7], .code kcls3]) :: cs)) w) :
 Own Try.prog main F Stop (G (((Go.Conc.base 31).at ⟨A, []⟩ [.inRegion (oC kclr2) [4, 5, 6, 7], .code kcls3]).finish v) cs) w := by
 obtain ⟨hsz, h0, h2, h3, _⟩ := hA
 obtain ⟨s, rfl⟩ := kclT_of hsz
 change s 0 = _ at h0
 change s 2 = _ at h2
 change s 3 = _ at h3
 clear hsz
 simp only [kclT, h0, h2, h3]
 clear h0 h2 h3
 rw [Frame.finish_at]
 simp only [kclr2, kclBody, Try.f31, zz, Nat.reduceAdd]
 walk_nrm
 refine oc callable62 #[v, .int .i64 0, .int .i64 5] ?_
 refine h _ ?_
 exact ⟨rfl, rfl, rfl, rfl, trivial⟩
theorem cl_15 {tg : Bool} {rb th : Nat} {v : Value} {A : Array Value} (hA : Slots 27 A [(0, .bool tg), (2, .pointer (some ⟨rb, 0, none⟩)), (3, .slice (some ⟨th, 0, none⟩) 3 3)])
 (h : ∀ A, Slots 27 A [(0, .bool tg), (2, .pointer (some ⟨rb, 0, none⟩)), (3, .slice (some ⟨th, 0, none⟩) 3 3)] → Own Try.prog main F Stop (G (Frame.enter Try.prog 62 #[v, .int .i64 2, .int .i64 4] .normal) (((Go.Conc.base 31).at ⟨A, []⟩ [.inRegion (oC kclr2) [6, 7], .code kcls3]) :: cs)) w) :
 Own Try.prog main F Stop (G (((Go.Conc.base 31).at ⟨A, []⟩ [.inRegion (oC kclr2) [5, 6, 7], .code kcls3]).finish v) cs) w := by
 obtain ⟨hsz, h0, h2, h3, _⟩ := hA
 obtain ⟨s, rfl⟩ := kclT_of hsz
 change s 0 = _ at h0
 change s 2 = _ at h2
 change s 3 = _ at h3
 clear hsz
 simp only [kclT, h0, h2, h3]
 clear h0 h2 h3
 rw [Frame.finish_at]
 simp only [kclr2, kclBody, Try.f31, zz, Nat.reduceAdd]
 walk_nrm
 refine oc callable62 #[v, .int .i64 2, .int .i64 4] ?_
 refine h _ ?_
 exact ⟨rfl, rfl, rfl, rfl, trivial⟩
theorem cl_2 {tg : Bool} {rb th : Nat} {v : Value} {A : Array Value} (hA : Slots 27 A [(0, .bool tg), (2, .pointer (some ⟨rb, 0, none⟩)), (3, .slice (some ⟨th, 0, none⟩) 3 3)])
 (h : ∀ A, Slots 27 A [(2, .pointer (some ⟨rb, 0, none⟩))] → Own Try.prog main F Stop (G (Frame.enter Try.prog 34 #[.int .i64 2, .bool tg, .slice (some ⟨th, 0, none⟩) 3 3, v, .int .i64 200] .normal) (((Go.Conc.base 31).at ⟨A, []⟩ [.inRegion (oC kclr3) [3, 4], .code .ret]) :: cs)) w) :
 Own Try.prog main F Stop (G (((Go.Conc.base 31).at ⟨A, []⟩ [.inRegion (oC kclr2) [6, 7], .code kcls3]).finish v) cs) w := by
 obtain ⟨hsz, h0, h2, h3, _⟩ := hA
 obtain ⟨s, rfl⟩ := kclT_of hsz
 change s 0 = _ at h0
 change s 2 = _ at h2
 change s 3 = _ at h3
 clear hsz
 simp only [kclT, h0, h2, h3]
 clear h0 h2 h3
 rw [Frame.finish_at]
 simp only [kclr2, kclBody, Try.f31, zz, Nat.reduceAdd]
 walk_nrm
 (refine oW fun dd K hK => ?_; go_simp; refine qT hK ?_; clear hK K)
 refine ogE ?_
 refine ogSR kcls3' kclr3' ?_
 simp only [kclr3, kclBody, Try.f31, zz, Nat.reduceAdd]
 iterate 3 (refine oW fun dd K hK => ?_; go_simp; refine qT hK ?_; clear hK K)
 refine oc callable34 #[.int .i64 2, .bool tg, .slice (some ⟨th, 0, none⟩) 3 3, v, .int .i64 200] ?_
 refine h _ ?_
 exact ⟨rfl, rfl, trivial⟩
theorem cl_3 {rb : Nat} {aa oa xa : Option Addr} {al ac ol oz xl xc : Nat} {st : Bool} {y0 y1 y2 y3 : Value} (hR : TrAt w rb y0 y1 y2 y3) (hnr : ∀ k, ¬ held F ⟨rb, k, none⟩) {A : Array Value} (hA : Slots 27 A [(2, .pointer (some ⟨rb, 0, none⟩))]) {c : Frame}
 (h : Own Try.prog main F Stop (G (c.finish (.agg #[.slice aa al ac, .slice oa ol oz, .slice xa xl xc, .bool st])) cs) (trW w rb (.slice aa al ac) (.slice oa ol oz) (.slice xa xl xc) (.bool st))) :
 Own Try.prog main F Stop (G (((Go.Conc.base 31).at ⟨A, []⟩ [.inRegion (oC kclr3) [3, 4], .code .ret]).finish (.agg #[.slice aa al ac, .slice oa ol oz, .slice xa xl xc, .bool st])) (c :: cs)) w := by
 obtain ⟨hsz, h2, _⟩ := hA
 obtain ⟨s, rfl⟩ := kclT_of hsz
 change s 2 = _ at h2
 clear hsz
 simp only [kclT, h2]
 clear h2
 rw [Frame.finish_at]
 simp only [kclr3, kclBody, Try.f31, zz, Nat.reduceAdd]
 walk_nrm
 (refine oW fun dd K hK => ?_; have hc0 := (hR.at dd).c0; have hc1 := (hR.at dd).c1; have hc2 := (hR.at dd).c2; have hc3 := (hR.at dd).c3; have hz0 := (hR.at dd).z; go_simp; refine hK _ _ ⟨⟨⟨0, grew4 hnr _ _ _ _⟩, fun e he => by (have hm := mem_listed he; clear he hK; simp [go_sem, storedEv, hc0, hc1, hc2, hc3, hz0] at hm; rcases hm with rfl | rfl | rfl | rfl <;> exact evT_write _ _ (hnr _))⟩, ?_⟩; clear hK K hc0 hc1 hc2 hc3 hz0; simp only [setCell_at']; refine Own.at ?_ dd)
 refine ogE ?_
 refine ogX ?_
 have hT3 := hR.put (.slice aa al ac) (.slice oa ol oz) (.slice xa xl xc) (.bool st)
 change Own _ _ _ _ _ (trW w rb (.slice aa al ac) (.slice oa ol oz) (.slice xa xl xc) (.bool st))
 generalize (trW w rb (.slice aa al ac) (.slice oa ol oz) (.slice xa xl xc) (.bool st)) = V at hT3 h ⊢
 have hc0 := hT3.c0
 have hc1 := hT3.c1
 have hc2 := hT3.c2
 have hc3 := hT3.c3
 have hz0 := hT3.z
 refine own_leave (fn := Try.f31) (v := .agg #[.slice aa al ac, .slice oa ol oz, .slice xa xl xc, .bool st]) rfl rfl Try.func31 (fun d => by simp [results, Try.f31, go_sem, hc0, hc1, hc2, hc3, hz0]) (fun d e he => by simp [results, Try.f31, go_sem, hc0, hc1, hc2, hc3, hz0] at he; rcases he with rfl | rfl | rfl | rfl <;> exact evT_read _ _) ?_
 exact h
end
section
variable {w w' w0 : World}
theorem many_callsB {v : Value} {l : List Int} {t : Int} {n : Nat} (hn : l.length + n < 1000000) (h : IntsAt 3 w0 w v l) :
 CallsB Try.prog Try.f62 #[v, .int .i64 t, .int .i64 n] w fun x w' => IntsAt 3 w0 w' x (l ++ List.replicate n t) := by
 obtain ⟨i0, z0, hi, hz0, hz1, hz2, hz3⟩ := infoA3
 have H : Aside (IntsAt 3 w0 w v l) := h
 have B : Aside (l.length + n < 1000000) := hn
 clear h hn
 refine callsB_of rfl ?_
 simp only [Try.ntmps62, List.size_toArray, List.length_cons, List.length_nil, Nat.reduceAdd, Nat.reduceSub, Array.replicate_succ, Array.replicate_zero, List.push_toArray, List.append_toArray, List.nil_append, List.cons_append]
 go_wp2
 go_loopg [0, 8] n (fun g x i wr => ∃ k : Nat, k ≤ n ∧ i = .int .i64 k ∧ g = n - k ∧ IntsAt 3 w0 wr x (l ++ List.replicate k t))
 case atStart => exact ⟨0, Nat.zero_le _, rfl, rfl, by simpa using H.out⟩
 case round =>
  obtain ⟨k, hk, rfl, hg, hI⟩ := hrel
  have I : Aside (IntsAt 3 w0 wr u0 (l ++ List.replicate k t) ∧ gk = n - k ∧ k ≤ n) := ⟨hI, hg, hk⟩
  clear hI hg
  rcases Nat.lt_or_ge k n with hlt | hge
  ·have hlt' : (k : Int) < (n : Int) := by omega
   have hwr : IntKind.i64.wrap ((k : Int) + 1) = (k : Int) + 1 := IntWalk.i64_in _ (by have := B.out; omega)
   have L : Aside (k < n) := hlt
   clear hk hlt
   go_wp2_with (at_builtin; refine wpList_append_fresh rfl (.tmp 10) (.tmp 12) 24 rfl 3 i0 z0 1 8 Try.underlying24 hi hz0 hz1 hz2 hz3 (by decide) u0 (l ++ List.replicate k t).length ((l ++ List.replicate k t).map fun v => .int .i64 v) rfl (I.out.1.row.alloc _) ⟨wr.heap.size, 0, none⟩ 1 1 [.int .i64 t] rfl rfl (new_cells (X := wr) (l := [.int .i64 t]) rfl) (by intro u hu; simp at hu; subst hu; rfl) (by have := B.out; have := L.out; unfold maxLen; simp; omega) (by have := B.out; have := L.out; simp; omega) ?_; intro v' w1 hown hgrow hfr; have Z : Aside (IntsAt 3 w0 w1 v' ((l ++ List.replicate k t) ++ [t])) := (I.out.1.alloc _).more hown hgrow (hfr.imp id fun ⟨g', h1, h2⟩ => ⟨g', h1, h2⟩); clear hown hgrow hfr)
   go_roundg (n - (k + 1))
   case measure => have := I.out; have := L.out; omega
   case rel => exact ⟨k + 1, L.out, rfl, rfl, by have := Z.out; rw [List.append_assoc] at this; rw [List.replicate_succ']; exact this⟩
  ·have e : k = n := by omega
   subst e
   clear hk hge
   go_wp2
   go_ret
   exact ⟨_, rfl, I.out.1⟩
end
section
variable {An : Anchor} {w w' w0 : World}
theorem closedMany : Closed Try.prog (fun f => [62].contains f) true := closed_ofX (x := []) (fun f h => by cases h) (by kernel_rfl)
theorem own_many {v : Value} {l : List Int} {t : Int} {n : Nat} (hn : l.length + n < 1000000) (h : IntsAt 3 w0 w v l) {c : Frame} {cs : List Frame} {main : Bool} {Stop : Goroutine → World → Prop}
 (K : ∀ w1 v', IntsAt 3 w0 w1 v' (l ++ List.replicate n t) → Own Try.prog main F0 Stop (G (c.finish v') cs) w1) :
 Own Try.prog main F0 Stop (G (Frame.enter Try.prog 62 #[v, .int .i64 t, .int .i64 n] .normal) (c :: cs)) w := by
 refine own_callB closedMany prog_late Try.func62 rfl (by kernel_rfl) (R := fun x w' => IntsAt 3 w0 w' x (l ++ List.replicate n t)) (fun τ e => many_callsB hn ⟨ownsRow_same2 h.row fun _ _ _ => rfl, h.size, h.old, h.new⟩) fun x w' τ e hR hg => ?_
 exact K w' x ⟨ownsRow_same2 hR.row fun _ _ _ => rfl, hR.size, hR.old, hR.new⟩
def clOps : Nat → List Op4 := fun i => if i = 0 then [⟨2, 0, 0, 0⟩] else if i = 1 then [⟨1, 8, 0, 0⟩, ⟨1, 7, 0, 0⟩, ⟨2, 0, 0, 0⟩, ⟨2, 0, 0, 0⟩, ⟨1, 4, 0, 0⟩] else if i = 2 then [⟨1, 9, 0, 0⟩] else []
def clS : List Int := ((((((([] ++ List.replicate 14 (1 : Int)) ++ List.replicate 2 0) ++ List.replicate 14 1) ++ List.replicate 3 2) ++ List.replicate 7 1) ++ List.replicate 5 0) ++ List.replicate 4 2)
def clE (tg : Bool) : GS KPl × List Nat := gOver clOps 3 200 clS 10 (ks0 2 tg)
theorem clE_done (tg : Bool) : gDone 3 200 (clE tg) := by cases tg <;> decide +kernel
theorem clE_live (tg : Bool) : cnt (clE tg).1.live 3 = 0 := by cases tg <;> decide +kernel
theorem clE_st1 : KSt.state (clE true).1.q = [0, 7, 1, 7, 9] := by decide +kernel
theorem clE_st0 : KSt.state (clE false).1.q = [0, 0, 1, 0, 9, 9] := by decide +kernel
def clSt (tg : Bool) : List Int := if tg = true then [0, 7, 1, 7, 9] else [0, 0, 1, 0, 9, 9]
theorem clE_st (tg : Bool) : KSt.state (clE tg).1.q = clSt tg := by cases tg; exact clE_st0; exact clE_st1
theorem cl_old {r : Nat} (h : r < w.heap.size) : (clW w).heap[r]? = w.heap[r]? := by
 simp only [clW]
 rw [heap_alloc_lt _ _ (by simp; try omega), heap_alloc_lt _ _ (by simp; try omega), heap_alloc_lt _ _ (by simp; try omega), heap_alloc_lt _ _ (by simp; try omega), heap_alloc_lt _ _ h]
theorem cl_size : (clW w).heap.size = w.heap.size + 5 := by simp [clW]
theorem cl_b0 : (clW w).heap[w.heap.size]? = some (.cells #[.slice none 0 0, .slice none 0 0, .slice none 0 0, .bool false] 31 (0, 0)) := by
 simp only [clW]
 rw [heap_alloc_lt _ _ (by simp; try omega), heap_alloc_lt _ _ (by simp; try omega), heap_alloc_lt _ _ (by simp; try omega), heap_alloc_lt _ _ (by simp; try omega)]
 exact heap_alloc_new _ _
theorem cl_b1 : (clW w).heap[w.heap.size + 1]? = some (.cells #[.int .i64 2, .int .i64 0, .int .i64 0, .int .i64 0] 47 (0, 0)) := by
 simp only [clW]
 rw [heap_alloc_lt _ _ (by simp; try omega), heap_alloc_lt _ _ (by simp; try omega), heap_alloc_lt _ _ (by simp; try omega)]
 exact new_at (by simp) _
theorem cl_b2 : (clW w).heap[w.heap.size + 2]? = some (.cells #[.int .i64 1, .int .i64 8, .int .i64 0, .int .i64 0, .int .i64 1, .int .i64 7, .int .i64 0, .int .i64 0, .int .i64 2, .int .i64 0, .int .i64 0, .int .i64 0, .int .i64 2, .int .i64 0, .int .i64 0, .int .i64 0, .int .i64 1, .int .i64 4, .int .i64 0, .int .i64 0] 47 (0, 0)) := by
 simp only [clW]
 rw [heap_alloc_lt _ _ (by simp; try omega), heap_alloc_lt _ _ (by simp; try omega)]
 exact new_at (by simp) _
theorem cl_b3 : (clW w).heap[w.heap.size + 3]? = some (.cells #[.int .i64 1, .int .i64 9, .int .i64 0, .int .i64 0] 47 (0, 0)) := by
 simp only [clW]
 rw [heap_alloc_lt _ _ (by simp; try omega)]
 exact new_at (by simp) _
theorem cl_b4 : (clW w).heap[w.heap.size + 4]? = some (.cells #[.slice (some ⟨w.heap.size + 1, 0, none⟩) 1 1, .slice (some ⟨w.heap.size + 2, 0, none⟩) 5 5, .slice (some ⟨w.heap.size + 3, 0, none⟩) 1 1] 34 (0, 0)) := by
 simp only [clW]
 exact new_at (by simp) _
def clOl : Nat → Nat := fun i => if i = 1 then 5 else 1
theorem cl_in {u : World} (hu : ∀ r, r < w.heap.size + 5 → u.heap[r]? = (clW w).heap[r]?) (hsz : w.heap.size + 5 ≤ u.heap.size) {sv : Value} (hS : IntsAt 3 (clW w) u sv clS) : ∃ sa sc, sv = .slice sa clS.length sc ∧
 OpsIn u (fun _ => False) 3 (w.heap.size + 4) 0 3 (some ⟨w.heap.size + 4, 0, none⟩) (fun i => some ⟨w.heap.size + 1 + i, 0, none⟩) clOl clOl clOps clS sa := by
 have h1 : u.heap[w.heap.size + 1]? = _ := (hu _ (by omega)).trans cl_b1
 have h2 : u.heap[w.heap.size + 2]? = _ := (hu _ (by omega)).trans cl_b2
 have h3 : u.heap[w.heap.size + 3]? = _ := (hu _ (by omega)).trans cl_b3
 have h4 : u.heap[w.heap.size + 4]? = _ := (hu _ (by omega)).trans cl_b4
 have hr := hS.row
 rcases hr.2 with ⟨_, h⟩ | ⟨sb, sc, cur, h5, _, h6, _, _, _, h7⟩
 ·exact absurd h (by decide)
 refine ⟨some ⟨sb, 0, none⟩, sc, h5, ⟨rfl, fun _ => rfl, fun _ => by omega, fun j hj => ?_, fun j hj => ?_, fun j hj k x hx => ?_, by decide, fun _ => ⟨_, _, _, _, _, rfl, id, h6, fun k v hv => ?_⟩⟩⟩
 ·have : j = 0 ∨ j = 1 ∨ j = 2 := by omega
  rcases this with rfl | rfl | rfl
  ·exact ⟨(cell_of h4 rfl).c, (cell_of (k := 0) h4 rfl).z, Nat.le_refl _⟩
  ·exact ⟨(cell_of h4 rfl).c, (cell_of (k := 1) h4 rfl).z, Nat.le_refl _⟩
  ·exact ⟨(cell_of h4 rfl).c, (cell_of (k := 2) h4 rfl).z, Nat.le_refl _⟩
 ·have : j = 0 ∨ j = 1 ∨ j = 2 := by omega
  rcases this with rfl | rfl | rfl <;> rfl
 ·have : j = 0 ∨ j = 1 ∨ j = 2 := by omega
  rcases this with rfl | rfl | rfl
  ·have hk : k = 0 := by
    have := (List.getElem?_eq_some_iff.1 hx).1
    simp [clOps] at this
    omega
   subst hk
   obtain rfl : (⟨2, 0, 0, 0⟩ : Op4) = x := by simpa [clOps] using hx
   exact ⟨_, _, rfl, id, (cell_of h1 rfl).c, (cell_of h1 rfl).c, (cell_of h1 rfl).c, (cell_of h1 rfl).c, (cell_of (k := 0) h1 rfl).z, (cell_of (k := 1) h1 rfl).z, (cell_of (k := 2) h1 rfl).z, (cell_of (k := 3) h1 rfl).z⟩
  ·have hk : k = 0 ∨ k = 1 ∨ k = 2 ∨ k = 3 ∨ k = 4 := by
    have := (List.getElem?_eq_some_iff.1 hx).1
    simp [clOps] at this
    omega
   rcases hk with rfl | rfl | rfl | rfl | rfl
   ·obtain rfl : (⟨1, 8, 0, 0⟩ : Op4) = x := by simpa [clOps] using hx
    exact ⟨_, _, rfl, id, (cell_of h2 rfl).c, (cell_of h2 rfl).c, (cell_of h2 rfl).c, (cell_of h2 rfl).c, (cell_of (k := 0) h2 rfl).z, (cell_of (k := 1) h2 rfl).z, (cell_of (k := 2) h2 rfl).z, (cell_of (k := 3) h2 rfl).z⟩
   ·obtain rfl : (⟨1, 7, 0, 0⟩ : Op4) = x := by simpa [clOps] using hx
    exact ⟨_, _, rfl, id, (cell_of h2 rfl).c, (cell_of h2 rfl).c, (cell_of h2 rfl).c, (cell_of h2 rfl).c, (cell_of (k := 4) h2 rfl).z, (cell_of (k := 5) h2 rfl).z, (cell_of (k := 6) h2 rfl).z, (cell_of (k := 7) h2 rfl).z⟩
   ·obtain rfl : (⟨2, 0, 0, 0⟩ : Op4) = x := by simpa [clOps] using hx
    exact ⟨_, _, rfl, id, (cell_of h2 rfl).c, (cell_of h2 rfl).c, (cell_of h2 rfl).c, (cell_of h2 rfl).c, (cell_of (k := 8) h2 rfl).z, (cell_of (k := 9) h2 rfl).z, (cell_of (k := 10) h2 rfl).z, (cell_of (k := 11) h2 rfl).z⟩
   ·obtain rfl : (⟨2, 0, 0, 0⟩ : Op4) = x := by simpa [clOps] using hx
    exact ⟨_, _, rfl, id, (cell_of h2 rfl).c, (cell_of h2 rfl).c, (cell_of h2 rfl).c, (cell_of h2 rfl).c, (cell_of (k := 12) h2 rfl).z, (cell_of (k := 13) h2 rfl).z, (cell_of (k := 14) h2 rfl).z, (cell_of (k := 15) h2 rfl).z⟩
   ·obtain rfl : (⟨1, 4, 0, 0⟩ : Op4) = x := by simpa [clOps] using hx
    exact ⟨_, _, rfl, id, (cell_of h2 rfl).c, (cell_of h2 rfl).c, (cell_of h2 rfl).c, (cell_of h2 rfl).c, (cell_of (k := 16) h2 rfl).z, (cell_of (k := 17) h2 rfl).z, (cell_of (k := 18) h2 rfl).z, (cell_of (k := 19) h2 rfl).z⟩
  ·have hk : k = 0 := by
    have := (List.getElem?_eq_some_iff.1 hx).1
    simp [clOps] at this
    omega
   subst hk
   obtain rfl : (⟨1, 9, 0, 0⟩ : Op4) = x := by simpa [clOps] using hx
   exact ⟨_, _, rfl, id, (cell_of h3 rfl).c, (cell_of h3 rfl).c, (cell_of h3 rfl).c, (cell_of h3 rfl).c, (cell_of (k := 0) h3 rfl).z, (cell_of (k := 1) h3 rfl).z, (cell_of (k := 2) h3 rfl).z, (cell_of (k := 3) h3 rfl).z⟩
 ·refine ⟨?_, by simp⟩
  rw [Nat.zero_add]
  rw [← h7, List.getElem?_take_of_lt (by have := (List.getElem?_eq_some_iff.1 hv).1; simp at this; omega)] at hv
  simpa using hv
theorem PlayU.other {w1 u : World} {n : Nat} {ans : Nat → List (Bool × Int)} {state : List Int} {order : List Nat} {aa rb : Nat} {ov sv : Value} (h : PlayU w1 n ans state order aa ov sv w') (hs : w.heap.size ≤ w1.heap.size) (hold : ∀ r, r < w.heap.size → w1.heap[r]? = w.heap[r]?) (hu : u.heap.size = w'.heap.size) (hne : ∀ r, r ≠ rb → u.heap[r]? = w'.heap[r]?) (hr : ∃ c z, w'.heap[rb]? = some (.cells c 31 z)) (hrb : w.heap.size ≤ rb) : PlayU w n ans state order aa ov sv u := by
 obtain ⟨cr, zr, hr⟩ := hr
 have ty : ∀ (b : Nat) (c : Array Value) (e : TypeId) (z : Nat × Nat), w'.heap[b]? = some (.cells c e z) → e ≠ 31 → u.heap[b]? = w'.heap[b]? := fun b c e z hb he => hne b fun e2 => by
  rw [e2, hr] at hb
  cases hb
  exact he rfl
 obtain ⟨c, a1, a2, a3⟩ := h.arr
 refine ⟨by have := h.size; omega, fun r cc e z hr2 => ?_, ⟨c, (ty _ _ _ _ a1 (by decide)).trans a1, a2, fun i hi => ?_⟩, ?_, ?_⟩
 ·have hlt := (alt hr2)
  rw [hne r (by omega)]
  exact h.old r cc e z ((hold r hlt).trans hr2)
 ·obtain ⟨v, v1, v2, v3⟩ := a3 i hi
  exact ⟨v, v1, v2, own_off v3 fun b cc hb _ => ty b cc _ _ hb (by decide)⟩
 ·exact ownsRow_mono_base hs (own_off h.ord fun b cc hb _ => ty b cc _ _ hb (by decide))
 ·exact ownsRow_mono_base hs (own_off h.st fun b cc hb _ => ty b cc _ _ hb (by decide))
theorem bes_classicE {tg : Bool} {E : GS KPl × List Nat} {st : List Int} (hE : ∀ t, (∃ k, ∀ f, k ≤ f → gOver clOps 3 200 clS f (ks0 2 tg) = t) → t = E) (hlive : cnt E.1.live 3 = 0) (hst : KSt.state E.1.q = st) {c : Frame} {cs : List Frame} {Stop : Goroutine → World → Prop}
 (K : ∀ aa oa oc xa xc w', PlayU w 3 (fun i => (E.1.th i).ans) st E.2 aa (.slice oa E.2.length oc) (.slice xa st.length xc) w' →
   Bes An Try.prog Stop (G (c.finish (.agg #[.slice (some ⟨aa, 0, none⟩) 3 3, .slice oa E.2.length oc, .slice xa st.length xc, .bool false])) cs) w') :
 Bes An Try.prog Stop (G (Frame.enter Try.prog 31 #[.bool tg] .normal) (c :: cs)) w := by
 refine bes_own (F := F0) (Stop := fun a u => ∃ A v, Slots 27 A [(2, .pointer (some ⟨w.heap.size, 0, none⟩))] ∧ IntsAt 3 (clW w) u v clS ∧ a = G (Frame.enter Try.prog 34 #[.int .i64 2, .bool tg, .slice (some ⟨w.heap.size + 4, 0, none⟩) 3 3, v, .int .i64 200] .normal) (((Go.Conc.base 31).at ⟨A, []⟩ [.inRegion (oC kclr3) [3, 4], .code .ret]) :: c :: cs))
  (cl_0 under_F0 (Nat.zero_le _) fun A hA => own_many (w0 := clW w) (l := []) (t := 1) (n := 14) (by decide) (IntsAt.nil 3 _) fun w1 v1 i1 => cl_10 hA fun A hA =>
    own_many (w0 := clW w) (t := 0) (n := 2) (by simp) i1 fun w2 v2 i2 => cl_11 hA fun A hA =>
    own_many (w0 := clW w) (t := 1) (n := 14) (by simp) i2 fun w3 v3 i3 => cl_12 hA fun A hA =>
    own_many (w0 := clW w) (t := 2) (n := 3) (by simp) i3 fun w4 v4 i4 => cl_13 hA fun A hA =>
    own_many (w0 := clW w) (t := 1) (n := 7) (by simp) i4 fun w5 v5 i5 => cl_14 hA fun A hA =>
    own_many (w0 := clW w) (t := 0) (n := 5) (by simp) i5 fun w6 v6 i6 => cl_15 hA fun A hA =>
    own_many (w0 := clW w) (t := 2) (n := 4) (by simp) i6 fun w7 v7 i7 => cl_2 hA fun A hA => .stop fun d => ⟨A, v7, hA, ⟨ownsRow_same2 i7.row fun _ _ _ => rfl, i7.size, i7.old, i7.new⟩, rfl⟩) fun a u ⟨A, v, hA, hI, ha⟩ => ?_
 subst ha
 have hsz := hI.size
 rw [cl_size] at hsz
 have hold : ∀ r, r < w.heap.size + 5 → u.heap[r]? = (clW w).heap[r]? := fun r hr => hI.old r (by rw [cl_size]; exact hr)
 obtain ⟨sa, sc, rfl, hin⟩ := cl_in hold hsz hI
 refine bes_kplay (m0 := 2) rfl hin (M := 200) rfl fun s order hd hov aa oa' oc' xa xc w' hP => ?_
 have he := hE _ hov
 have e1 : s = E.1 := congrArg Prod.fst he
 have e2 : order = E.2 := congrArg Prod.snd he
 subst e1
 subst e2
 have hrb : w'.heap[w.heap.size]? = _ := hP.old _ _ _ _ ((hold _ (by omega)).trans cl_b0)
 rw [hlive, hst]
 rw [hst] at hP
 refine bes_own (F := F0) (Stop := fun a u2 => a = G (c.finish (.agg #[.slice (some ⟨aa, 0, none⟩) 3 3, .slice oa' E.2.length oc', .slice xa st.length xc, .bool false])) cs ∧ PlayU w 3 (fun i => (E.1.th i).ans) st E.2 aa (.slice oa' E.2.length oc') (.slice xa st.length xc) u2)
  (cl_3 (rb := w.heap.size) ⟨hrb⟩ (fun k => notF0 _) hA (.stop fun d => ⟨rfl, ?_⟩)) fun a u2 ⟨ha, hu⟩ => ?_
 ·refine hP.other (w := w) (rb := w.heap.size) (by omega) (fun r hr => (hold r (by omega)).trans (cl_old hr)) ?_ (fun r hr => ?_) ⟨_, _, hrb⟩ (Nat.le_refl _)
  ·show (trW _ _ _ _ _ _).heap.size = _
   unfold trW; simp
  ·show (trW _ _ _ _ _ _).heap[r]? = _
   unfold trW
   rw [heap_setCell_ne _ _ _ hr, heap_setCell_ne _ _ _ hr, heap_setCell_ne _ _ _ hr, heap_setCell_ne _ _ _ hr]
 ·subst ha
  exact K _ _ _ _ _ _ hu
theorem clE_is (tg : Bool) (t : GS KPl × List Nat) (h : ∃ k, ∀ f, k ≤ f → gOver clOps 3 200 clS f (ks0 2 tg) = t) : t = clE tg := gOver_is (F := 10) (clE_done tg) h
theorem bes_classic {tg : Bool} {c : Frame} {cs : List Frame} {Stop : Goroutine → World → Prop}
 (K : ∀ aa oa oc xa xc w', PlayU w 3 (fun i => ((clE tg).1.th i).ans) (clSt tg) (clE tg).2 aa (.slice oa (clE tg).2.length oc) (.slice xa (clSt tg).length xc) w' →
   Bes An Try.prog Stop (G (c.finish (.agg #[.slice (some ⟨aa, 0, none⟩) 3 3, .slice oa (clE tg).2.length oc, .slice xa (clSt tg).length xc, .bool false])) cs) w') :
 Bes An Try.prog Stop (G (Frame.enter Try.prog 31 #[.bool tg] .normal) (c :: cs)) w :=
 bes_classicE (clE_is tg) (clE_live tg) (clE_st tg) K
end
end Go.Proofs.Ytlcgkpapnpdfpaa
