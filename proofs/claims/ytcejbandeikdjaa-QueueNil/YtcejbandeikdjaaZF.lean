/-
  QueueNil holds for every number: a nil queue and the zero queue do nothing and no step; the law's own first run of a queue by a schedule (awake) comes to the document's answers. No condition beyond the row's own.
  Part 6 of 6.
-/
import Derived.Test.YtcejbandeikdjaaZE
import Derived.Conc.LeavingOf
import Derived.Test.YtcejbandeikdjaaRows
import Derived.ProofKit
set_option linter.unusedSimpArgs false
set_option linter.unusedVariables false
namespace Go.Proofs.Ytcejbandeikdjaa
open Go Go.Conc Go.RowKit Go.Proofs
variable {F : Fz} {w : World}
theorem cell_at {a : Addr} {v : Option Value} (h : w.cell? a = v) (d : Nat) : (w.at d).cell? a = v := h
theorem froz_at {a : Addr} {v : Bool} (h : w.frozen? a = v) (d : Nat) : (w.at d).frozen? a = v := h
theorem tr_newA (X : World) (x y z u x' y' z' u' : Value) : ((((X.alloc (.cells #[x, y, z, u] 29)).setCell ⟨X.heap.size, 0, none⟩ x').setCell ⟨X.heap.size, 1, none⟩ y').setCell ⟨X.heap.size, 2, none⟩ z').setCell ⟨X.heap.size, 3, none⟩ u' = X.alloc (.cells #[x', y', z', u'] 29) := by go_simp
structure At (w : World) (a : Addr) (v : Value) : Prop where
  c : w.cell? a = some v
  z : w.frozen? a = false
theorem At.alloc {a : Addr} {v : Value} (h : At w a v) (o : Obj) : At (w.alloc o) a v := ⟨(cellB_alloc h.c o).1, (cellB_alloc h.c o).2.trans h.z⟩
theorem At.at {a : Addr} {v : Value} (h : At w a v) (d : Nat) : At (w.at d) a v := ⟨h.c, h.z⟩
noncomputable def awBody : Code := Try.f12.body.getD .skip
noncomputable def aws0 : Code := Code.piece [] awBody
noncomputable def awr0 : Code := Code.piece [true] awBody
noncomputable def awo0 : Array Oper := Code.opsOf awr0
noncomputable def aws1 : Code := Code.piece [false] awBody
noncomputable def awr1 : Code := Code.piece [false, true] awBody
noncomputable def awo1 : Array Oper := Code.opsOf awr1
noncomputable def aws2 : Code := Code.piece [false, false] awBody
noncomputable def aws3 : Code := Code.piece [false, false, true] awBody
noncomputable def awr2 : Code := Code.piece [false, false, true, true] awBody
noncomputable def awo2 : Array Oper := Code.opsOf awr2
noncomputable def awc32 : Code := Code.piece [false, false, true, false] awBody
noncomputable def aws4 : Code := Code.piece [false, false, true, false, true] awBody
noncomputable def awr3 : Code := Code.piece [false, false, true, false, true, true] awBody
noncomputable def awo3 : Array Oper := Code.opsOf awr3
noncomputable def aws5 : Code := Code.piece [false, false, false] awBody
noncomputable def awr4 : Code := Code.piece [false, false, false, true] awBody
noncomputable def awo4 : Array Oper := Code.opsOf awr4
theorem aws0_eq : aws0 = .seq awr0 aws1 := by kernel_rfl
theorem awr0_eq : awr0 = .region 0 awo0 false := by kernel_rfl
theorem aws1_eq : aws1 = .seq awr1 aws2 := by kernel_rfl
theorem awr1_eq : awr1 = .region 1 awo1 false := by kernel_rfl
theorem aws2_eq : aws2 = .seq aws3 aws5 := by kernel_rfl
theorem aws3_eq : aws3 = .seq awr2 awc32 := by kernel_rfl
theorem awr2_eq : awr2 = .region 2 awo2 false := by kernel_rfl
theorem awc32_eq : awc32 = .cond (.tmp 32) aws4 .skip := by kernel_rfl
theorem aws4_eq : aws4 = .seq awr3 .ret := by kernel_rfl
theorem awr3_eq : awr3 = .region 3 awo3 false := by kernel_rfl
theorem aws5_eq : aws5 = .seq awr4 .ret := by kernel_rfl
theorem awr4_eq : awr4 = .region 4 awo4 false := by kernel_rfl
theorem enter_aw (args : Array Value) : Frame.enter Try.prog 12 args .normal = (Go.Conc.base 12).at { tmps := args ++ Array.replicate (73 - args.size) undef, defers := [] } [.code aws0] := enter_at args Try.func12 rfl
theorem callable12 : Callable 12 := callable Try.func12 rfl rfl
def awT (s : Nat → Value) : Array Value := #[s 0, s 1, s 2, s 3, s 4, s 5, s 6, s 7, s 8, s 9, s 10, s 11, s 12, s 13, s 14, s 15, s 16, s 17, s 18, s 19, s 20, s 21, s 22, s 23, s 24, s 25, s 26, s 27, s 28, s 29, s 30, s 31, s 32, s 33, s 34, s 35, s 36, s 37, s 38, s 39, s 40, s 41, s 42, s 43, s 44, s 45, s 46, s 47, s 48, s 49, s 50, s 51, s 52, s 53, s 54, s 55, s 56, s 57, s 58, s 59, s 60, s 61, s 62, s 63, s 64, s 65, s 66, s 67, s 68, s 69, s 70, s 71, s 72]
theorem awT_of {A : Array Value} (h : A.size = 73) : ∃ s, A = awT s := by
  obtain ⟨s, hs, _⟩ := arr_lit A h
  exact ⟨s, hs⟩
def awW (w : World) : World := (((((w.alloc (.cells #[.int .i64 5] 2)).alloc (.cells #[.int .i64 2, .int .i64 0, .int .i64 0, .int .i64 0, .int .i64 2, .int .i64 0, .int .i64 0, .int .i64 0] 44)).alloc (.cells #[.int .i64 1, .int .i64 7, .int .i64 0, .int .i64 0] 44)).alloc (.cells #[.slice (some ⟨w.heap.size + 1, 0, none⟩) 2 2, .slice (some ⟨w.heap.size + 2, 0, none⟩) 1 1] 32)).alloc (.cells #[.int .i64 1, .int .i64 1, .int .i64 1, .int .i64 0, .int .i64 0, .int .i64 0, .int .i64 0, .int .i64 0, .int .i64 0, .int .i64 0, .int .i64 0, .int .i64 1] 3))
set_option maxRecDepth 100000 in
set_option maxHeartbeats 2000000 in
theorem aw_0 {n : Nat} (hU : Under F n) (hn : n ≤ w.heap.size) {cs : List Frame} {main : Bool} {Stop : Goroutine → World → Prop}
    (h : ∀ A, A.size = 73 → Own Try.prog main F Stop (G (Frame.enter Try.prog 14 #[.slice (some ⟨w.heap.size, 0, none⟩) 1 1, .slice (some ⟨w.heap.size + 3, 0, none⟩) 2 2, .slice (some ⟨w.heap.size + 4, 0, none⟩) 12 12, .int .i64 100] .normal) (((Go.Conc.base 12).at ⟨A, []⟩ [.inRegion awo1 [8, 9, 10], .code aws2]) :: cs)) (awW w)) :
    Own Try.prog main F Stop (G (Frame.enter Try.prog 12 #[] .normal) cs) w := by
  rw [enter_aw]
  walk_nrm
  rw [aws0_eq]
  refine own_go rfl (fun d => stepG_seq) ?_
  rw [awr0_eq]
  refine own_go rfl (fun d => stepG_region) ?_
  simp only [awo0, Code.opsOf, awr0, Code.piece, awBody, Try.f12, Option.getD_some, List.size_toArray, List.length_cons, List.length_nil, Nat.reduceAdd, Nat.zero_add, List.range, List.range.loop]
  (refine oWd rfl rfl (by decide) fun dd K hK => ?_; go_simp; refine hK _ _ ⟨⟨⟨0, Grew.refl _ _⟩, fun e he => by (have hm := mem_listed he; simp [go_sem] at hm)⟩, Own.at ?_ dd⟩; clear hK K)
  refine own_go rfl (fun d => stepG_region_end) ?_
  rw [aws1_eq]
  refine own_go rfl (fun d => stepG_seq) ?_
  rw [awr1_eq]
  refine own_go rfl (fun d => stepG_region) ?_
  simp only [awo1, Code.opsOf, awr1, Code.piece, awBody, Try.f12, Option.getD_some, List.size_toArray, List.length_cons, List.length_nil, Nat.reduceAdd, Nat.zero_add, List.range, List.range.loop]
  (refine oWd rfl rfl (by decide) fun dd K hK => ?_; go_simp; refine hK _ _ ⟨⟨⟨0, grew_alloc hU (by first | (simp [go_sem]; done) | (simp [go_sem]; omega)) _⟩, fun e he => by (have hm := mem_listed he; simp [go_sem, storedEv] at hm)⟩, ?_⟩; clear hK K; rw [alloc_at']; refine Own.at ?_ dd)
  (refine oWd rfl rfl (by decide) fun dd K hK => ?_; go_simp; refine hK _ _ ⟨⟨⟨0, Grew.refl _ _⟩, fun e he => by (have hm := mem_listed he; simp [go_sem] at hm)⟩, Own.at ?_ dd⟩; clear hK K)
  (refine oWd rfl rfl (by decide) fun dd K hK => ?_; go_simp; refine hK _ _ ⟨⟨⟨0, Grew.refl _ _⟩, fun e he => by (have hm := mem_listed he; simp [go_sem] at hm)⟩, Own.at ?_ dd⟩; clear hK K)
  (refine oWd rfl rfl (by decide) fun dd K hK => ?_; go_simp; refine hK _ _ ⟨⟨⟨0, grew_alloc hU (by first | (simp [go_sem]; done) | (simp [go_sem]; omega)) _⟩, fun e he => by (have hm := mem_listed he; simp [go_sem, storedEv] at hm)⟩, ?_⟩; clear hK K; rw [alloc_at']; refine Own.at ?_ dd)
  (refine oWd rfl rfl (by decide) fun dd K hK => ?_; go_simp; refine hK _ _ ⟨⟨⟨0, Grew.refl _ _⟩, fun e he => by (have hm := mem_listed he; simp [go_sem] at hm)⟩, Own.at ?_ dd⟩; clear hK K)
  (refine oWd rfl rfl (by decide) fun dd K hK => ?_; go_simp; refine hK _ _ ⟨⟨⟨0, grew_alloc hU (by first | (simp [go_sem]; done) | (simp [go_sem]; omega)) _⟩, fun e he => by (have hm := mem_listed he; simp [go_sem, storedEv] at hm)⟩, ?_⟩; clear hK K; rw [alloc_at']; refine Own.at ?_ dd)
  (refine oWd rfl rfl (by decide) fun dd K hK => ?_; go_simp; refine hK _ _ ⟨⟨⟨0, grew_alloc hU (by first | (simp [go_sem]; done) | (simp [go_sem]; omega)) _⟩, fun e he => by (have hm := mem_listed he; simp [go_sem, storedEv] at hm)⟩, ?_⟩; clear hK K; rw [alloc_at']; refine Own.at ?_ dd)
  (refine oWd rfl rfl (by decide) fun dd K hK => ?_; go_simp; refine hK _ _ ⟨⟨⟨0, grew_alloc hU (by first | (simp [go_sem]; done) | (simp [go_sem]; omega)) _⟩, fun e he => by (have hm := mem_listed he; simp [go_sem, storedEv] at hm)⟩, ?_⟩; clear hK K; rw [alloc_at']; refine Own.at ?_ dd)
  refine own_call (f := 14) (args := #[.slice (some ⟨w.heap.size, 0, none⟩) 1 1, .slice (some ⟨w.heap.size + 3, 0, none⟩) 2 2, .slice (some ⟨w.heap.size + 4, 0, none⟩) 12 12, .int .i64 100]) rfl rfl (by decide) (fun w => by simp [execOp, Act.eval, resolve, invoke, Deferred.ofValue, callable14.run]) (fun w => by simp [execOp, Act.eval, resolve, invoke, Deferred.ofValue, callable14.run, callable14.quiet]) ?_
  refine h _ ?_
  rfl
set_option maxRecDepth 100000 in
set_option maxHeartbeats 2000000 in
theorem aw_1 {n : Nat} (hU : Under F n) (hn : n ≤ w.heap.size) {aa rb xb rc oc xc : Nat} {oa : Option Addr} (h0 : At w ⟨aa, 0, none⟩ (.slice (some ⟨rb, 0, none⟩) 2 rc)) (h1 : At w ⟨rb, 1, none⟩ (.int .i64 5)) (h4 : At w ⟨rb, 4, none⟩ (.int .i64 7)) (h3 : At w ⟨rb, 3, none⟩ (.bool true)) (hx : At w ⟨xb, 0, none⟩ (.int .i64 0)) {A : Array Value} (hA : A.size = 73) {c : Frame} {cs : List Frame} {main : Bool} {Stop : Goroutine → World → Prop}
    (h : Own Try.prog main F Stop (G (c.finish (.bool true)) cs) (w.alloc (.cells #[.slice (some ⟨aa, 0, none⟩) 2 2, .slice oa 16 oc, .slice (some ⟨xb, 0, none⟩) 1 xc, .bool false] 29))) :
    Own Try.prog main F Stop (G (((Go.Conc.base 12).at ⟨A, []⟩ [.inRegion awo1 [8, 9, 10], .code aws2]).finish (.agg #[.slice (some ⟨aa, 0, none⟩) 2 2, .slice oa 16 oc, .slice (some ⟨xb, 0, none⟩) 1 xc, .bool false])) (c :: cs)) w := by
  obtain ⟨s, rfl⟩ := awT_of hA
  clear hA
  simp only [awT]
  rw [Frame.finish_at]
  simp only [awo1, Code.opsOf, awr1, Code.piece, awBody, Try.f12, Option.getD_some, List.size_toArray, List.length_cons, List.length_nil, Nat.reduceAdd, Nat.zero_add, List.range, List.range.loop]
  walk_nrm
  (refine oWd rfl rfl (by decide) fun dd K hK => ?_; go_simp; refine hK _ _ ⟨⟨⟨0, grew_alloc hU (by first | (simp [go_sem]; done) | (simp [go_sem]; omega)) _⟩, fun e he => by (have hm := mem_listed he; simp [go_sem, storedEv] at hm)⟩, ?_⟩; clear hK K; rw [alloc_at']; refine Own.at ?_ dd)
  (refine oWd rfl rfl (by decide) fun dd K hK => ?_; go_simp; refine hK _ _ ⟨⟨⟨0, grew4 (fun k => not_held hU (show n ≤ w.heap.size by omega)) _ _ _ _⟩, fun e he => by (have hm := mem_listed he; clear he hK; simp [go_sem, storedEv] at hm; rcases hm with rfl | rfl | rfl | rfl <;> exact evT_write _ _ ((fun k => not_held hU (show n ≤ w.heap.size by omega)) _))⟩, ?_⟩; clear hK K; simp only [setCell_at']; refine Own.at ?_ dd)
  have e1 := tr_newA w (.slice none 0 0) (.slice none 0 0) (.slice none 0 0) (.bool false) (.slice (some ⟨aa, 0, none⟩) 2 2) (.slice oa 16 oc) (.slice (some ⟨xb, 0, none⟩) 1 xc) (.bool false)
  rw [e1]
  clear e1
  have hT : TrAt (w.alloc (.cells #[.slice (some ⟨aa, 0, none⟩) 2 2, .slice oa 16 oc, .slice (some ⟨xb, 0, none⟩) 1 xc, .bool false] 29)) w.heap.size (.slice (some ⟨aa, 0, none⟩) 2 2) (.slice oa 16 oc) (.slice (some ⟨xb, 0, none⟩) 1 xc) (.bool false) := ⟨heap_alloc_new _ _⟩
  replace h0 := h0.alloc (.cells #[.slice (some ⟨aa, 0, none⟩) 2 2, .slice oa 16 oc, .slice (some ⟨xb, 0, none⟩) 1 xc, .bool false] 29)
  replace h1 := h1.alloc (.cells #[.slice (some ⟨aa, 0, none⟩) 2 2, .slice oa 16 oc, .slice (some ⟨xb, 0, none⟩) 1 xc, .bool false] 29)
  replace h4 := h4.alloc (.cells #[.slice (some ⟨aa, 0, none⟩) 2 2, .slice oa 16 oc, .slice (some ⟨xb, 0, none⟩) 1 xc, .bool false] 29)
  replace h3 := h3.alloc (.cells #[.slice (some ⟨aa, 0, none⟩) 2 2, .slice oa 16 oc, .slice (some ⟨xb, 0, none⟩) 1 xc, .bool false] 29)
  replace hx := hx.alloc (.cells #[.slice (some ⟨aa, 0, none⟩) 2 2, .slice oa 16 oc, .slice (some ⟨xb, 0, none⟩) 1 xc, .bool false] 29)
  generalize hW : w.alloc (.cells #[.slice (some ⟨aa, 0, none⟩) 2 2, .slice oa 16 oc, .slice (some ⟨xb, 0, none⟩) 1 xc, .bool false] 29) = W at hT h0 h1 h4 h3 hx h ⊢
  generalize w.heap.size = T at hT h ⊢
  refine own_go rfl (fun d => stepG_region_end) ?_
  rw [aws2_eq]
  refine own_go rfl (fun d => stepG_seq) ?_
  rw [aws3_eq]
  refine own_go rfl (fun d => stepG_seq) ?_
  rw [awr2_eq]
  refine own_go rfl (fun d => stepG_region) ?_
  simp only [awo2, Code.opsOf, awr2, Code.piece, awBody, Try.f12, Option.getD_some, List.size_toArray, List.length_cons, List.length_nil, Nat.reduceAdd, Nat.zero_add, List.range, List.range.loop]
  (refine oWd rfl rfl (by decide) fun dd K hK => ?_; go_simp; refine hK _ _ ⟨⟨⟨0, Grew.refl _ _⟩, fun e he => by (have hm := mem_listed he; simp [go_sem] at hm)⟩, Own.at ?_ dd⟩; clear hK K)
  (refine oWd rfl rfl (by decide) fun dd K hK => ?_; have c0 := (hT.at dd).c0; have z0 := (hT.at dd).z; go_simp; refine hK _ _ ⟨⟨⟨0, Grew.refl _ _⟩, fun e he => by (have hm := mem_listed he; clear he hK; simp [go_sem, c0, z0] at hm; subst hm; exact evT_read _ _)⟩, Own.at ?_ dd⟩; clear hK K c0 z0)
  (refine oWd rfl rfl (by decide) fun dd K hK => ?_; go_simp; refine hK _ _ ⟨⟨⟨0, Grew.refl _ _⟩, fun e he => by (have hm := mem_listed he; simp [go_sem] at hm)⟩, Own.at ?_ dd⟩; clear hK K)
  (refine oWd rfl rfl (by decide) fun dd K hK => ?_; go_simp; refine hK _ _ ⟨⟨⟨0, Grew.refl _ _⟩, fun e he => by (have hm := mem_listed he; simp [go_sem] at hm)⟩, Own.at ?_ dd⟩; clear hK K)
  (refine oWd rfl rfl (by decide) fun dd K hK => ?_; go_simp; refine hK _ _ ⟨⟨⟨0, Grew.refl _ _⟩, fun e he => by (have hm := mem_listed he; simp [go_sem] at hm)⟩, Own.at ?_ dd⟩; clear hK K)
  (refine oWd rfl rfl (by decide) fun dd K hK => ?_; go_simp; refine hK _ _ ⟨⟨⟨0, Grew.refl _ _⟩, fun e he => by (have hm := mem_listed he; simp [go_sem] at hm)⟩, Own.at ?_ dd⟩; clear hK K)
  (refine oWd rfl rfl (by decide) fun dd K hK => ?_; have c0 := (hT.at dd).c0; have z0 := (hT.at dd).z; go_simp; refine hK _ _ ⟨⟨⟨0, Grew.refl _ _⟩, fun e he => by (have hm := mem_listed he; clear he hK; simp [go_sem, c0, z0] at hm; subst hm; exact evT_read _ _)⟩, Own.at ?_ dd⟩; clear hK K c0 z0)
  (refine oWd rfl rfl (by decide) fun dd K hK => ?_; go_simp; refine hK _ _ ⟨⟨⟨0, Grew.refl _ _⟩, fun e he => by (have hm := mem_listed he; simp [go_sem, *] at hm)⟩, Own.at ?_ dd⟩; clear hK K)
  (refine oWd rfl rfl (by decide) fun dd K hK => ?_; have c0 := ((h0).at dd).c; have z0 := ((h0).at dd).z; go_simp; refine hK _ _ ⟨⟨⟨0, Grew.refl _ _⟩, fun e he => by (have hm := mem_listed he; clear he hK; simp [go_sem, c0, z0] at hm; subst hm; exact evT_read _ _)⟩, Own.at ?_ dd⟩; clear hK K c0 z0)
  (refine oWd rfl rfl (by decide) fun dd K hK => ?_; go_simp; refine hK _ _ ⟨⟨⟨0, Grew.refl _ _⟩, fun e he => by (have hm := mem_listed he; simp [go_sem] at hm)⟩, Own.at ?_ dd⟩; clear hK K)
  (refine oWd rfl rfl (by decide) fun dd K hK => ?_; go_simp; refine hK _ _ ⟨⟨⟨0, Grew.refl _ _⟩, fun e he => by (have hm := mem_listed he; simp [go_sem] at hm)⟩, Own.at ?_ dd⟩; clear hK K)
  (refine oWd rfl rfl (by decide) fun dd K hK => ?_; go_simp; refine hK _ _ ⟨⟨⟨0, Grew.refl _ _⟩, fun e he => by (have hm := mem_listed he; simp [go_sem] at hm)⟩, Own.at ?_ dd⟩; clear hK K)
  (refine oWd rfl rfl (by decide) fun dd K hK => ?_; go_simp; refine hK _ _ ⟨⟨⟨0, Grew.refl _ _⟩, fun e he => by (have hm := mem_listed he; simp [go_sem] at hm)⟩, Own.at ?_ dd⟩; clear hK K)
  (refine oWd rfl rfl (by decide) fun dd K hK => ?_; go_simp; refine hK _ _ ⟨⟨⟨0, Grew.refl _ _⟩, fun e he => by (have hm := mem_listed he; simp [go_sem] at hm)⟩, Own.at ?_ dd⟩; clear hK K)
  (refine oWd rfl rfl (by decide) fun dd K hK => ?_; have c0 := (hT.at dd).c2; have z0 := (hT.at dd).z; go_simp; refine hK _ _ ⟨⟨⟨0, Grew.refl _ _⟩, fun e he => by (have hm := mem_listed he; clear he hK; simp [go_sem, c0, z0] at hm; subst hm; exact evT_read _ _)⟩, Own.at ?_ dd⟩; clear hK K c0 z0)
  (refine oWd rfl rfl (by decide) fun dd K hK => ?_; go_simp; refine hK _ _ ⟨⟨⟨0, Grew.refl _ _⟩, fun e he => by (have hm := mem_listed he; simp [go_sem] at hm)⟩, Own.at ?_ dd⟩; clear hK K)
  (refine oWd rfl rfl (by decide) fun dd K hK => ?_; go_simp; refine hK _ _ ⟨⟨⟨0, Grew.refl _ _⟩, fun e he => by (have hm := mem_listed he; simp [go_sem] at hm)⟩, Own.at ?_ dd⟩; clear hK K)
  (refine oWd rfl rfl (by decide) fun dd K hK => ?_; go_simp; refine hK _ _ ⟨⟨⟨0, Grew.refl _ _⟩, fun e he => by (have hm := mem_listed he; simp [go_sem] at hm)⟩, Own.at ?_ dd⟩; clear hK K)
  (refine oWd rfl rfl (by decide) fun dd K hK => ?_; go_simp; refine hK _ _ ⟨⟨⟨0, Grew.refl _ _⟩, fun e he => by (have hm := mem_listed he; simp [go_sem] at hm)⟩, Own.at ?_ dd⟩; clear hK K)
  (refine oWd rfl rfl (by decide) fun dd K hK => ?_; go_simp; refine hK _ _ ⟨⟨⟨0, Grew.refl _ _⟩, fun e he => by (have hm := mem_listed he; simp [go_sem] at hm)⟩, Own.at ?_ dd⟩; clear hK K)
  (refine oWd rfl rfl (by decide) fun dd K hK => ?_; have c0 := (hT.at dd).c3; have z0 := (hT.at dd).z; go_simp; refine hK _ _ ⟨⟨⟨0, Grew.refl _ _⟩, fun e he => by (have hm := mem_listed he; clear he hK; simp [go_sem, c0, z0] at hm; subst hm; exact evT_read _ _)⟩, Own.at ?_ dd⟩; clear hK K c0 z0)
  (refine oWd rfl rfl (by decide) fun dd K hK => ?_; go_simp; refine hK _ _ ⟨⟨⟨0, Grew.refl _ _⟩, fun e he => by (have hm := mem_listed he; simp [go_sem] at hm)⟩, Own.at ?_ dd⟩; clear hK K)
  refine own_go rfl (fun d => stepG_region_end) ?_
  rw [awc32_eq]
  refine own_go rfl (fun d => stepG_cond (t := false) rfl) ?_
  simp only [Bool.false_eq_true, if_false]
  refine own_go rfl (fun d => stepG_skip) ?_
  rw [aws5_eq]
  refine own_go rfl (fun d => stepG_seq) ?_
  rw [awr4_eq]
  refine own_go rfl (fun d => stepG_region) ?_
  simp only [awo4, Code.opsOf, awr4, Code.piece, awBody, Try.f12, Option.getD_some, List.size_toArray, List.length_cons, List.length_nil, Nat.reduceAdd, Nat.zero_add, List.range, List.range.loop]
  (refine oWd rfl rfl (by decide) fun dd K hK => ?_; go_simp; refine hK _ _ ⟨⟨⟨0, Grew.refl _ _⟩, fun e he => by (have hm := mem_listed he; simp [go_sem] at hm)⟩, Own.at ?_ dd⟩; clear hK K)
  (refine oWd rfl rfl (by decide) fun dd K hK => ?_; have c0 := (hT.at dd).c0; have z0 := (hT.at dd).z; go_simp; refine hK _ _ ⟨⟨⟨0, Grew.refl _ _⟩, fun e he => by (have hm := mem_listed he; clear he hK; simp [go_sem, c0, z0] at hm; subst hm; exact evT_read _ _)⟩, Own.at ?_ dd⟩; clear hK K c0 z0)
  (refine oWd rfl rfl (by decide) fun dd K hK => ?_; go_simp; refine hK _ _ ⟨⟨⟨0, Grew.refl _ _⟩, fun e he => by (have hm := mem_listed he; simp [go_sem, *] at hm)⟩, Own.at ?_ dd⟩; clear hK K)
  (refine oWd rfl rfl (by decide) fun dd K hK => ?_; have c0 := ((h0).at dd).c; have z0 := ((h0).at dd).z; go_simp; refine hK _ _ ⟨⟨⟨0, Grew.refl _ _⟩, fun e he => by (have hm := mem_listed he; clear he hK; simp [go_sem, c0, z0] at hm; subst hm; exact evT_read _ _)⟩, Own.at ?_ dd⟩; clear hK K c0 z0)
  (refine oWd rfl rfl (by decide) fun dd K hK => ?_; go_simp; refine hK _ _ ⟨⟨⟨0, Grew.refl _ _⟩, fun e he => by (have hm := mem_listed he; simp [go_sem, *] at hm)⟩, Own.at ?_ dd⟩; clear hK K)
  (refine oWd rfl rfl (by decide) fun dd K hK => ?_; go_simp; refine hK _ _ ⟨⟨⟨0, Grew.refl _ _⟩, fun e he => by (have hm := mem_listed he; simp [go_sem] at hm)⟩, Own.at ?_ dd⟩; clear hK K)
  (refine oWd rfl rfl (by decide) fun dd K hK => ?_; have c0 := ((h1).at dd).c; have z0 := ((h1).at dd).z; go_simp; refine hK _ _ ⟨⟨⟨0, Grew.refl _ _⟩, fun e he => by (have hm := mem_listed he; clear he hK; simp [go_sem, c0, z0] at hm; subst hm; exact evT_read _ _)⟩, Own.at ?_ dd⟩; clear hK K c0 z0)
  (refine oWd rfl rfl (by decide) fun dd K hK => ?_; go_simp; refine hK _ _ ⟨⟨⟨0, Grew.refl _ _⟩, fun e he => by (have hm := mem_listed he; simp [go_sem] at hm)⟩, Own.at ?_ dd⟩; clear hK K)
  (refine oWd rfl rfl (by decide) fun dd K hK => ?_; go_simp; refine hK _ _ ⟨⟨⟨0, Grew.refl _ _⟩, fun e he => by (have hm := mem_listed he; simp [go_sem] at hm)⟩, Own.at ?_ dd⟩; clear hK K)
  (refine oWd rfl rfl (by decide) fun dd K hK => ?_; go_simp; refine hK _ _ ⟨⟨⟨0, Grew.refl _ _⟩, fun e he => by (have hm := mem_listed he; simp [go_sem] at hm)⟩, Own.at ?_ dd⟩; clear hK K)
  (refine oWd rfl rfl (by decide) fun dd K hK => ?_; have c0 := (hT.at dd).c0; have z0 := (hT.at dd).z; go_simp; refine hK _ _ ⟨⟨⟨0, Grew.refl _ _⟩, fun e he => by (have hm := mem_listed he; clear he hK; simp [go_sem, c0, z0] at hm; subst hm; exact evT_read _ _)⟩, Own.at ?_ dd⟩; clear hK K c0 z0)
  (refine oWd rfl rfl (by decide) fun dd K hK => ?_; go_simp; refine hK _ _ ⟨⟨⟨0, Grew.refl _ _⟩, fun e he => by (have hm := mem_listed he; simp [go_sem, *] at hm)⟩, Own.at ?_ dd⟩; clear hK K)
  (refine oWd rfl rfl (by decide) fun dd K hK => ?_; have c0 := ((h0).at dd).c; have z0 := ((h0).at dd).z; go_simp; refine hK _ _ ⟨⟨⟨0, Grew.refl _ _⟩, fun e he => by (have hm := mem_listed he; clear he hK; simp [go_sem, c0, z0] at hm; subst hm; exact evT_read _ _)⟩, Own.at ?_ dd⟩; clear hK K c0 z0)
  (refine oWd rfl rfl (by decide) fun dd K hK => ?_; go_simp; refine hK _ _ ⟨⟨⟨0, Grew.refl _ _⟩, fun e he => by (have hm := mem_listed he; simp [go_sem, *] at hm)⟩, Own.at ?_ dd⟩; clear hK K)
  (refine oWd rfl rfl (by decide) fun dd K hK => ?_; go_simp; refine hK _ _ ⟨⟨⟨0, Grew.refl _ _⟩, fun e he => by (have hm := mem_listed he; simp [go_sem] at hm)⟩, Own.at ?_ dd⟩; clear hK K)
  (refine oWd rfl rfl (by decide) fun dd K hK => ?_; have c0 := ((h4).at dd).c; have z0 := ((h4).at dd).z; go_simp; refine hK _ _ ⟨⟨⟨0, Grew.refl _ _⟩, fun e he => by (have hm := mem_listed he; clear he hK; simp [go_sem, c0, z0] at hm; subst hm; exact evT_read _ _)⟩, Own.at ?_ dd⟩; clear hK K c0 z0)
  (refine oWd rfl rfl (by decide) fun dd K hK => ?_; go_simp; refine hK _ _ ⟨⟨⟨0, Grew.refl _ _⟩, fun e he => by (have hm := mem_listed he; simp [go_sem] at hm)⟩, Own.at ?_ dd⟩; clear hK K)
  (refine oWd rfl rfl (by decide) fun dd K hK => ?_; go_simp; refine hK _ _ ⟨⟨⟨0, Grew.refl _ _⟩, fun e he => by (have hm := mem_listed he; simp [go_sem] at hm)⟩, Own.at ?_ dd⟩; clear hK K)
  (refine oWd rfl rfl (by decide) fun dd K hK => ?_; go_simp; refine hK _ _ ⟨⟨⟨0, Grew.refl _ _⟩, fun e he => by (have hm := mem_listed he; simp [go_sem] at hm)⟩, Own.at ?_ dd⟩; clear hK K)
  (refine oWd rfl rfl (by decide) fun dd K hK => ?_; go_simp; refine hK _ _ ⟨⟨⟨0, Grew.refl _ _⟩, fun e he => by (have hm := mem_listed he; simp [go_sem] at hm)⟩, Own.at ?_ dd⟩; clear hK K)
  (refine oWd rfl rfl (by decide) fun dd K hK => ?_; have c0 := (hT.at dd).c0; have z0 := (hT.at dd).z; go_simp; refine hK _ _ ⟨⟨⟨0, Grew.refl _ _⟩, fun e he => by (have hm := mem_listed he; clear he hK; simp [go_sem, c0, z0] at hm; subst hm; exact evT_read _ _)⟩, Own.at ?_ dd⟩; clear hK K c0 z0)
  (refine oWd rfl rfl (by decide) fun dd K hK => ?_; go_simp; refine hK _ _ ⟨⟨⟨0, Grew.refl _ _⟩, fun e he => by (have hm := mem_listed he; simp [go_sem, *] at hm)⟩, Own.at ?_ dd⟩; clear hK K)
  (refine oWd rfl rfl (by decide) fun dd K hK => ?_; have c0 := ((h0).at dd).c; have z0 := ((h0).at dd).z; go_simp; refine hK _ _ ⟨⟨⟨0, Grew.refl _ _⟩, fun e he => by (have hm := mem_listed he; clear he hK; simp [go_sem, c0, z0] at hm; subst hm; exact evT_read _ _)⟩, Own.at ?_ dd⟩; clear hK K c0 z0)
  (refine oWd rfl rfl (by decide) fun dd K hK => ?_; go_simp; refine hK _ _ ⟨⟨⟨0, Grew.refl _ _⟩, fun e he => by (have hm := mem_listed he; simp [go_sem, *] at hm)⟩, Own.at ?_ dd⟩; clear hK K)
  (refine oWd rfl rfl (by decide) fun dd K hK => ?_; go_simp; refine hK _ _ ⟨⟨⟨0, Grew.refl _ _⟩, fun e he => by (have hm := mem_listed he; simp [go_sem] at hm)⟩, Own.at ?_ dd⟩; clear hK K)
  (refine oWd rfl rfl (by decide) fun dd K hK => ?_; have c0 := ((h3).at dd).c; have z0 := ((h3).at dd).z; go_simp; refine hK _ _ ⟨⟨⟨0, Grew.refl _ _⟩, fun e he => by (have hm := mem_listed he; clear he hK; simp [go_sem, c0, z0] at hm; subst hm; exact evT_read _ _)⟩, Own.at ?_ dd⟩; clear hK K c0 z0)
  (refine oWd rfl rfl (by decide) fun dd K hK => ?_; go_simp; refine hK _ _ ⟨⟨⟨0, Grew.refl _ _⟩, fun e he => by (have hm := mem_listed he; simp [go_sem] at hm)⟩, Own.at ?_ dd⟩; clear hK K)
  (refine oWd rfl rfl (by decide) fun dd K hK => ?_; go_simp; refine hK _ _ ⟨⟨⟨0, Grew.refl _ _⟩, fun e he => by (have hm := mem_listed he; simp [go_sem] at hm)⟩, Own.at ?_ dd⟩; clear hK K)
  (refine oWd rfl rfl (by decide) fun dd K hK => ?_; go_simp; refine hK _ _ ⟨⟨⟨0, Grew.refl _ _⟩, fun e he => by (have hm := mem_listed he; simp [go_sem] at hm)⟩, Own.at ?_ dd⟩; clear hK K)
  (refine oWd rfl rfl (by decide) fun dd K hK => ?_; have c0 := (hT.at dd).c2; have z0 := (hT.at dd).z; go_simp; refine hK _ _ ⟨⟨⟨0, Grew.refl _ _⟩, fun e he => by (have hm := mem_listed he; clear he hK; simp [go_sem, c0, z0] at hm; subst hm; exact evT_read _ _)⟩, Own.at ?_ dd⟩; clear hK K c0 z0)
  (refine oWd rfl rfl (by decide) fun dd K hK => ?_; go_simp; refine hK _ _ ⟨⟨⟨0, Grew.refl _ _⟩, fun e he => by (have hm := mem_listed he; simp [go_sem, *] at hm)⟩, Own.at ?_ dd⟩; clear hK K)
  (refine oWd rfl rfl (by decide) fun dd K hK => ?_; have c0 := ((hx).at dd).c; have z0 := ((hx).at dd).z; go_simp; refine hK _ _ ⟨⟨⟨0, Grew.refl _ _⟩, fun e he => by (have hm := mem_listed he; clear he hK; simp [go_sem, c0, z0] at hm; subst hm; exact evT_read _ _)⟩, Own.at ?_ dd⟩; clear hK K c0 z0)
  (refine oWd rfl rfl (by decide) fun dd K hK => ?_; go_simp; refine hK _ _ ⟨⟨⟨0, Grew.refl _ _⟩, fun e he => by (have hm := mem_listed he; simp [go_sem] at hm)⟩, Own.at ?_ dd⟩; clear hK K)
  (refine oWd rfl rfl (by decide) fun dd K hK => ?_; go_simp; refine hK _ _ ⟨⟨⟨0, Grew.refl _ _⟩, fun e he => by (have hm := mem_listed he; simp [go_sem] at hm)⟩, Own.at ?_ dd⟩; clear hK K)
  (refine oWd rfl rfl (by decide) fun dd K hK => ?_; go_simp; refine hK _ _ ⟨⟨⟨0, Grew.refl _ _⟩, fun e he => by (have hm := mem_listed he; simp [go_sem] at hm)⟩, Own.at ?_ dd⟩; clear hK K)
  (refine oWd rfl rfl (by decide) fun dd K hK => ?_; go_simp; refine hK _ _ ⟨⟨⟨0, Grew.refl _ _⟩, fun e he => by (have hm := mem_listed he; simp [go_sem] at hm)⟩, Own.at ?_ dd⟩; clear hK K)
  (refine oWd rfl rfl (by decide) fun dd K hK => ?_; have c0 := (hT.at dd).c1; have z0 := (hT.at dd).z; go_simp; refine hK _ _ ⟨⟨⟨0, Grew.refl _ _⟩, fun e he => by (have hm := mem_listed he; clear he hK; simp [go_sem, c0, z0] at hm; subst hm; exact evT_read _ _)⟩, Own.at ?_ dd⟩; clear hK K c0 z0)
  (refine oWd rfl rfl (by decide) fun dd K hK => ?_; go_simp; refine hK _ _ ⟨⟨⟨0, Grew.refl _ _⟩, fun e he => by (have hm := mem_listed he; simp [go_sem] at hm)⟩, Own.at ?_ dd⟩; clear hK K)
  (refine oWd rfl rfl (by decide) fun dd K hK => ?_; go_simp; refine hK _ _ ⟨⟨⟨0, Grew.refl _ _⟩, fun e he => by (have hm := mem_listed he; simp [go_sem] at hm)⟩, Own.at ?_ dd⟩; clear hK K)
  (refine oWd rfl rfl (by decide) fun dd K hK => ?_; go_simp; refine hK _ _ ⟨⟨⟨0, Grew.refl _ _⟩, fun e he => by (have hm := mem_listed he; simp [go_sem] at hm)⟩, Own.at ?_ dd⟩; clear hK K)
  (refine oWd rfl rfl (by decide) fun dd K hK => ?_; go_simp; refine hK _ _ ⟨⟨⟨0, Grew.refl _ _⟩, fun e he => by (have hm := mem_listed he; simp [go_sem] at hm)⟩, Own.at ?_ dd⟩; clear hK K)
  refine own_go rfl (fun d => stepG_region_end) ?_
  refine own_go rfl (fun d => stepG_ret') ?_
  refine own_leave (fn := Try.f12) (v := .bool true) rfl rfl Try.func12 (fun d => by simp [results, Try.f12, go_sem]) (fun d e he => by simp [results, Try.f12, go_sem] at he) ?_
  exact h
end Go.Proofs.Ytcejbandeikdjaa
namespace Go.Proofs.Ytcejbandeikdjaa
open Go Go.Conc Go.RowKit Go.Proofs
variable {F : Fz} {w : World}
theorem eql33_none (w : World) : (binOp .eql 33 (.pointer none) (.pointer none)).run Try.prog w = .ok (.bool true) w := by kernel_rfl
theorem eql33_noneE (w : World) (es : Array Event) : (binOp .eql 33 (.pointer none) (.pointer none)).events Try.prog w es = es := by kernel_rfl
attribute [go_sem] eql33_none eql33_noneE
theorem own_unwanted {P : Program} {main : Bool} {Stop : Goroutine → World → Prop} {b : Frame} {a : Act} {k : List Item} {cs : List Frame} {ops : Array Oper} {i : Nat} {rest : List Nat} {o : Oper} (ho : ops[i]? = some o) (hw : Region.wanted o (yielded ops a.tmps) = false)
    (h : Own P main F Stop (G (b.at (a.put o.dst undef) (.inRegion ops rest :: k)) cs) w) : Own P main F Stop (G (b.at a (.inRegion ops (i :: rest) :: k)) cs) w :=
  .step rfl fun d => ⟨_, _, #[], stepG_unwanted ho hw, ⟨⟨0, Grew.refl F _⟩, by simp⟩, h.at d⟩
def NoQ (w : World) (v : Value) : Prop := v = .pointer none ∨ ∃ q, v = .pointer (some ⟨q, 0, none⟩) ∧ w.cell? ⟨q, 0, none⟩ = some (.pointer none)
set_option maxRecDepth 100000 in
set_option maxHeartbeats 2000000 in
theorem own_no_nil {c : Frame} {cs : List Frame} {main : Bool} {Stop : Goroutine → World → Prop}
    (h : Own Try.prog main F Stop (G (c.finish (.bool true)) cs) w) :
    Own Try.prog main F Stop (G (Frame.enter Try.prog 51 #[.pointer none] .normal) (c :: cs)) w := by
  rw [enter_qno]
  walk_nrm
  rw [qnos0_eq]
  refine own_go rfl (fun d => stepG_seq) ?_
  rw [qnor0_eq]
  refine own_go rfl (fun d => stepG_region) ?_
  simp only [qnoo0, Code.opsOf, qnor0, Code.piece, qnoBody, Try.f51, Option.getD_some, List.size_toArray, List.length_cons, List.length_nil, Nat.reduceAdd, Nat.zero_add, List.range, List.range.loop]
  (refine oWd rfl rfl (by decide) fun dd K hK => ?_; go_simp; refine hK _ _ ⟨⟨⟨0, Grew.refl _ _⟩, fun e he => by (have hm := mem_listed he; simp [go_sem] at hm)⟩, Own.at ?_ dd⟩; clear hK K)
  refine own_go rfl (fun d => stepG_region_end) ?_
  rw [qnos1_eq]
  refine own_go rfl (fun d => stepG_seq) ?_
  rw [qnor1_eq]
  refine own_go rfl (fun d => stepG_region) ?_
  simp only [qnoo1, Code.opsOf, qnor1, Code.piece, qnoBody, Try.f51, Option.getD_some, List.size_toArray, List.length_cons, List.length_nil, Nat.reduceAdd, Nat.zero_add, List.range, List.range.loop]
  (refine oWd rfl rfl (by decide) fun dd K hK => ?_; go_simp; refine hK _ _ ⟨⟨⟨0, Grew.refl _ _⟩, fun e he => by (have hm := mem_listed he; simp [go_sem] at hm)⟩, Own.at ?_ dd⟩; clear hK K)
  (refine oWd rfl rfl (by decide) fun dd K hK => ?_; go_simp; refine hK _ _ ⟨⟨⟨0, Grew.refl _ _⟩, fun e he => by (have hm := mem_listed he; simp [go_sem] at hm)⟩, Own.at ?_ dd⟩; clear hK K)
  (refine oWd rfl rfl (by decide) fun dd K hK => ?_; go_simp; refine hK _ _ ⟨⟨⟨0, Grew.refl _ _⟩, fun e he => by (have hm := mem_listed he; simp [go_sem] at hm)⟩, Own.at ?_ dd⟩; clear hK K)
  refine own_unwanted rfl rfl ?_
  walk_nrm
  refine own_unwanted rfl rfl ?_
  walk_nrm
  refine own_unwanted rfl rfl ?_
  walk_nrm
  refine own_unwanted rfl rfl ?_
  walk_nrm
  refine own_unwanted rfl rfl ?_
  walk_nrm
  (refine oWd rfl rfl (by decide) fun dd K hK => ?_; go_simp; refine hK _ _ ⟨⟨⟨0, Grew.refl _ _⟩, fun e he => by (have hm := mem_listed he; simp [go_sem] at hm)⟩, Own.at ?_ dd⟩; clear hK K)
  (refine oWd rfl rfl (by decide) fun dd K hK => ?_; go_simp; refine hK _ _ ⟨⟨⟨0, Grew.refl _ _⟩, fun e he => by (have hm := mem_listed he; simp [go_sem] at hm)⟩, Own.at ?_ dd⟩; clear hK K)
  refine own_go rfl (fun d => stepG_region_end) ?_
  refine own_go rfl (fun d => stepG_ret') ?_
  refine own_leave (fn := Try.f51) (v := .bool true) rfl rfl Try.func51 (fun d => by simp [results, Try.f51, go_sem]) (fun d e he => by simp [results, Try.f51, go_sem] at he) ?_
  exact h
set_option maxRecDepth 100000 in
set_option maxHeartbeats 2000000 in
theorem own_no_zero {q : Nat} (hc : w.cell? ⟨q, 0, none⟩ = some (.pointer none)) {c : Frame} {cs : List Frame} {main : Bool} {Stop : Goroutine → World → Prop}
    (h : Own Try.prog main F Stop (G (c.finish (.bool true)) cs) w) :
    Own Try.prog main F Stop (G (Frame.enter Try.prog 51 #[.pointer (some ⟨q, 0, none⟩)] .normal) (c :: cs)) w := by
  rw [enter_qno]
  walk_nrm
  rw [qnos0_eq]
  refine own_go rfl (fun d => stepG_seq) ?_
  rw [qnor0_eq]
  refine own_go rfl (fun d => stepG_region) ?_
  simp only [qnoo0, Code.opsOf, qnor0, Code.piece, qnoBody, Try.f51, Option.getD_some, List.size_toArray, List.length_cons, List.length_nil, Nat.reduceAdd, Nat.zero_add, List.range, List.range.loop]
  (refine oWd rfl rfl (by decide) fun dd K hK => ?_; go_simp; refine hK _ _ ⟨⟨⟨0, Grew.refl _ _⟩, fun e he => by (have hm := mem_listed he; simp [go_sem] at hm)⟩, Own.at ?_ dd⟩; clear hK K)
  refine own_go rfl (fun d => stepG_region_end) ?_
  rw [qnos1_eq]
  refine own_go rfl (fun d => stepG_seq) ?_
  rw [qnor1_eq]
  refine own_go rfl (fun d => stepG_region) ?_
  simp only [qnoo1, Code.opsOf, qnor1, Code.piece, qnoBody, Try.f51, Option.getD_some, List.size_toArray, List.length_cons, List.length_nil, Nat.reduceAdd, Nat.zero_add, List.range, List.range.loop]
  (refine oWd rfl rfl (by decide) fun dd K hK => ?_; go_simp; refine hK _ _ ⟨⟨⟨0, Grew.refl _ _⟩, fun e he => by (have hm := mem_listed he; simp [go_sem] at hm)⟩, Own.at ?_ dd⟩; clear hK K)
  (refine oWd rfl rfl (by decide) fun dd K hK => ?_; go_simp; refine hK _ _ ⟨⟨⟨0, Grew.refl _ _⟩, fun e he => by (have hm := mem_listed he; simp [go_sem] at hm)⟩, Own.at ?_ dd⟩; clear hK K)
  (refine oWd rfl rfl (by decide) fun dd K hK => ?_; go_simp; refine hK _ _ ⟨⟨⟨0, Grew.refl _ _⟩, fun e he => by (have hm := mem_listed he; simp [go_sem] at hm)⟩, Own.at ?_ dd⟩; clear hK K)
  (refine oWd rfl rfl (by decide) fun dd K hK => ?_; go_simp; refine hK _ _ ⟨⟨⟨0, Grew.refl _ _⟩, fun e he => by (have hm := mem_listed he; simp [go_sem] at hm)⟩, Own.at ?_ dd⟩; clear hK K)
  (refine oWd rfl rfl (by decide) fun dd K hK => ?_; go_simp; refine hK _ _ ⟨⟨⟨0, Grew.refl _ _⟩, fun e he => by (have hm := mem_listed he; simp [go_sem] at hm)⟩, Own.at ?_ dd⟩; clear hK K)
  (refine oWd rfl rfl (by decide) fun dd K hK => ?_; go_simp; refine hK _ _ ⟨⟨⟨0, Grew.refl _ _⟩, fun e he => by (have hm := mem_listed he; simp [go_sem] at hm)⟩, Own.at ?_ dd⟩; clear hK K)
  refine own_call (f := 52) (args := #[.pointer (some ⟨q, 0, none⟩)]) rfl rfl (by decide) (fun w => by simp [execOp, Act.eval, resolve, invoke, Deferred.ofValue, callable52.run]) (fun w => by simp [execOp, Act.eval, resolve, invoke, Deferred.ofValue, callable52.run, callable52.quiet]) ?_
  refine own_load (.inl rfl) hc rfl ?_
  rw [Frame.finish_at]
  walk_nrm
  (refine oWd rfl rfl (by decide) fun dd K hK => ?_; go_simp; refine hK _ _ ⟨⟨⟨0, Grew.refl _ _⟩, fun e he => by (have hm := mem_listed he; simp [go_sem] at hm)⟩, Own.at ?_ dd⟩; clear hK K)
  (refine oWd rfl rfl (by decide) fun dd K hK => ?_; go_simp; refine hK _ _ ⟨⟨⟨0, Grew.refl _ _⟩, fun e he => by (have hm := mem_listed he; simp [go_sem] at hm)⟩, Own.at ?_ dd⟩; clear hK K)
  (refine oWd rfl rfl (by decide) fun dd K hK => ?_; go_simp; refine hK _ _ ⟨⟨⟨0, Grew.refl _ _⟩, fun e he => by (have hm := mem_listed he; simp [go_sem] at hm)⟩, Own.at ?_ dd⟩; clear hK K)
  refine own_go rfl (fun d => stepG_region_end) ?_
  refine own_go rfl (fun d => stepG_ret') ?_
  refine own_leave (fn := Try.f51) (v := .bool true) rfl rfl Try.func51 (fun d => by simp [results, Try.f51, go_sem]) (fun d e he => by simp [results, Try.f51, go_sem] at he) ?_
  exact h
theorem own_none {v : Value} (hv : NoQ w v) {c : Frame} {cs : List Frame} {main : Bool} {Stop : Goroutine → World → Prop} (h : Own Try.prog main F Stop (G (c.finish (.bool true)) cs) w) :
    Own Try.prog main F Stop (G (Frame.enter Try.prog 51 #[v] .normal) (c :: cs)) w := by
  rcases hv with rfl | ⟨q, rfl, hc⟩
  · exact own_no_nil h
  · exact own_no_zero hc h
set_option maxRecDepth 100000 in
set_option maxHeartbeats 2000000 in
theorem put_none {v sv xv : Value} (hv : NoQ w v) {c : Frame} {cs : List Frame} {main : Bool} {Stop : Goroutine → World → Prop}
    (h : Own Try.prog main F Stop (G (c.finish (.tuple #[])) cs) w) :
    Own Try.prog main F Stop (G (Frame.enter Try.prog 25 #[v, sv, xv] .normal) (c :: cs)) w := by
  rw [enter_put]
  walk_nrm
  rw [puts0_eq]
  refine own_go rfl (fun d => stepG_seq) ?_
  rw [puts1_eq]
  refine own_go rfl (fun d => stepG_seq) ?_
  rw [putr0_eq]
  refine own_go rfl (fun d => stepG_region) ?_
  simp only [puto0, Code.opsOf, putr0, Code.piece, putBody, Try.f25, Option.getD_some, List.size_toArray, List.length_cons, List.length_nil, Nat.reduceAdd, Nat.zero_add, List.range, List.range.loop]
  (refine oWd rfl rfl (by decide) fun dd K hK => ?_; go_simp; refine hK _ _ ⟨⟨⟨0, Grew.refl _ _⟩, fun e he => by (have hm := mem_listed he; simp [go_sem] at hm)⟩, Own.at ?_ dd⟩; clear hK K)
  refine own_call (f := 51) (args := #[v]) rfl rfl (by decide) (fun w => by simp [execOp, Act.eval, resolve, invoke, Deferred.ofValue, callable51.run]) (fun w => by simp [execOp, Act.eval, resolve, invoke, Deferred.ofValue, callable51.run, callable51.quiet]) ?_
  refine own_none hv ?_
  rw [Frame.finish_at]
  walk_nrm
  refine own_go rfl (fun d => stepG_region_end) ?_
  rw [putc10_eq]
  refine own_go rfl (fun d => stepG_cond (t := true) rfl) ?_
  simp only [if_true]
  refine own_go rfl (fun d => stepG_ret') ?_
  refine own_leave (fn := Try.f25) (v := .tuple #[]) rfl rfl Try.func25 (fun d => by simp [results, Try.f25, go_sem]) (fun d e he => by simp [results, Try.f25, go_sem] at he) ?_
  exact h
set_option maxRecDepth 100000 in
set_option maxHeartbeats 2000000 in
theorem tak_none {v sv : Value} (hv : NoQ w v) {c : Frame} {cs : List Frame} {main : Bool} {Stop : Goroutine → World → Prop}
    (h : Own Try.prog main F Stop (G (c.finish (.tuple #[.int .i64 0, .int .i64 6])) cs) w) :
    Own Try.prog main F Stop (G (Frame.enter Try.prog 26 #[v, sv] .normal) (c :: cs)) w := by
  rw [enter_tak]
  walk_nrm
  rw [taks0_eq]
  refine own_go rfl (fun d => stepG_seq) ?_
  rw [takr0_eq]
  refine own_go rfl (fun d => stepG_region) ?_
  simp only [tako0, Code.opsOf, takr0, Code.piece, takBody, Try.f26, Option.getD_some, List.size_toArray, List.length_cons, List.length_nil, Nat.reduceAdd, Nat.zero_add, List.range, List.range.loop]
  (refine oWd rfl rfl (by decide) fun dd K hK => ?_; go_simp; refine hK _ _ ⟨⟨⟨0, Grew.refl _ _⟩, fun e he => by (have hm := mem_listed he; simp [go_sem] at hm)⟩, Own.at ?_ dd⟩; clear hK K)
  (refine oWd rfl rfl (by decide) fun dd K hK => ?_; go_simp; refine hK _ _ ⟨⟨⟨0, Grew.refl _ _⟩, fun e he => by (have hm := mem_listed he; simp [go_sem] at hm)⟩, Own.at ?_ dd⟩; clear hK K)
  refine own_go rfl (fun d => stepG_region_end) ?_
  rw [taks1_eq]
  refine own_go rfl (fun d => stepG_seq) ?_
  rw [taks2_eq]
  refine own_go rfl (fun d => stepG_seq) ?_
  rw [takr1_eq]
  refine own_go rfl (fun d => stepG_region) ?_
  simp only [tako1, Code.opsOf, takr1, Code.piece, takBody, Try.f26, Option.getD_some, List.size_toArray, List.length_cons, List.length_nil, Nat.reduceAdd, Nat.zero_add, List.range, List.range.loop]
  (refine oWd rfl rfl (by decide) fun dd K hK => ?_; go_simp; refine hK _ _ ⟨⟨⟨0, Grew.refl _ _⟩, fun e he => by (have hm := mem_listed he; simp [go_sem] at hm)⟩, Own.at ?_ dd⟩; clear hK K)
  refine own_call (f := 51) (args := #[v]) rfl rfl (by decide) (fun w => by simp [execOp, Act.eval, resolve, invoke, Deferred.ofValue, callable51.run]) (fun w => by simp [execOp, Act.eval, resolve, invoke, Deferred.ofValue, callable51.run, callable51.quiet]) ?_
  refine own_none hv ?_
  rw [Frame.finish_at]
  walk_nrm
  refine own_go rfl (fun d => stepG_region_end) ?_
  rw [takc10_eq]
  refine own_go rfl (fun d => stepG_cond (t := true) rfl) ?_
  simp only [if_true]
  rw [taks3_eq]
  refine own_go rfl (fun d => stepG_seq) ?_
  rw [takr2_eq]
  refine own_go rfl (fun d => stepG_region) ?_
  simp only [tako2, Code.opsOf, takr2, Code.piece, takBody, Try.f26, Option.getD_some, List.size_toArray, List.length_cons, List.length_nil, Nat.reduceAdd, Nat.zero_add, List.range, List.range.loop]
  (refine oWd rfl rfl (by decide) fun dd K hK => ?_; go_simp; refine hK _ _ ⟨⟨⟨0, Grew.refl _ _⟩, fun e he => by (have hm := mem_listed he; simp [go_sem] at hm)⟩, Own.at ?_ dd⟩; clear hK K)
  (refine oWd rfl rfl (by decide) fun dd K hK => ?_; go_simp; refine hK _ _ ⟨⟨⟨0, Grew.refl _ _⟩, fun e he => by (have hm := mem_listed he; simp [go_sem] at hm)⟩, Own.at ?_ dd⟩; clear hK K)
  refine own_go rfl (fun d => stepG_region_end) ?_
  refine own_go rfl (fun d => stepG_ret') ?_
  refine own_leave (fn := Try.f26) (v := .tuple #[.int .i64 0, .int .i64 6]) rfl rfl Try.func26 (fun d => by simp [results, Try.f26, go_sem]) (fun d e he => by simp [results, Try.f26, go_sem] at he) ?_
  exact h
set_option maxRecDepth 100000 in
set_option maxHeartbeats 2000000 in
theorem emp_none {v sv : Value} (hv : NoQ w v) {c : Frame} {cs : List Frame} {main : Bool} {Stop : Goroutine → World → Prop}
    (h : Own Try.prog main F Stop (G (c.finish (.bool true)) cs) w) :
    Own Try.prog main F Stop (G (Frame.enter Try.prog 27 #[v, sv] .normal) (c :: cs)) w := by
  rw [enter_emp]
  walk_nrm
  rw [emps0_eq]
  refine own_go rfl (fun d => stepG_seq) ?_
  rw [empr0_eq]
  refine own_go rfl (fun d => stepG_region) ?_
  simp only [empo0, Code.opsOf, empr0, Code.piece, empBody, Try.f27, Option.getD_some, List.size_toArray, List.length_cons, List.length_nil, Nat.reduceAdd, Nat.zero_add, List.range, List.range.loop]
  (refine oWd rfl rfl (by decide) fun dd K hK => ?_; go_simp; refine hK _ _ ⟨⟨⟨0, Grew.refl _ _⟩, fun e he => by (have hm := mem_listed he; simp [go_sem] at hm)⟩, Own.at ?_ dd⟩; clear hK K)
  refine own_go rfl (fun d => stepG_region_end) ?_
  rw [emps1_eq]
  refine own_go rfl (fun d => stepG_seq) ?_
  rw [emps2_eq]
  refine own_go rfl (fun d => stepG_seq) ?_
  rw [empr1_eq]
  refine own_go rfl (fun d => stepG_region) ?_
  simp only [empo1, Code.opsOf, empr1, Code.piece, empBody, Try.f27, Option.getD_some, List.size_toArray, List.length_cons, List.length_nil, Nat.reduceAdd, Nat.zero_add, List.range, List.range.loop]
  (refine oWd rfl rfl (by decide) fun dd K hK => ?_; go_simp; refine hK _ _ ⟨⟨⟨0, Grew.refl _ _⟩, fun e he => by (have hm := mem_listed he; simp [go_sem] at hm)⟩, Own.at ?_ dd⟩; clear hK K)
  refine own_call (f := 51) (args := #[v]) rfl rfl (by decide) (fun w => by simp [execOp, Act.eval, resolve, invoke, Deferred.ofValue, callable51.run]) (fun w => by simp [execOp, Act.eval, resolve, invoke, Deferred.ofValue, callable51.run, callable51.quiet]) ?_
  refine own_none hv ?_
  rw [Frame.finish_at]
  walk_nrm
  refine own_go rfl (fun d => stepG_region_end) ?_
  rw [empc7_eq]
  refine own_go rfl (fun d => stepG_cond (t := true) rfl) ?_
  simp only [if_true]
  rw [emps3_eq]
  refine own_go rfl (fun d => stepG_seq) ?_
  rw [empr2_eq]
  refine own_go rfl (fun d => stepG_region) ?_
  simp only [empo2, Code.opsOf, empr2, Code.piece, empBody, Try.f27, Option.getD_some, List.size_toArray, List.length_cons, List.length_nil, Nat.reduceAdd, Nat.zero_add, List.range, List.range.loop]
  (refine oWd rfl rfl (by decide) fun dd K hK => ?_; go_simp; refine hK _ _ ⟨⟨⟨0, Grew.refl _ _⟩, fun e he => by (have hm := mem_listed he; simp [go_sem] at hm)⟩, Own.at ?_ dd⟩; clear hK K)
  refine own_go rfl (fun d => stepG_region_end) ?_
  refine own_go rfl (fun d => stepG_ret') ?_
  refine own_leave (fn := Try.f27) (v := .bool true) rfl rfl Try.func27 (fun d => by simp [results, Try.f27, go_sem]) (fun d e he => by simp [results, Try.f27, go_sem] at he) ?_
  exact h
set_option maxRecDepth 100000 in
set_option maxHeartbeats 2000000 in
theorem va_none {v : Value} (hv : NoQ w v) {c : Frame} {cs : List Frame} {main : Bool} {Stop : Goroutine → World → Prop}
    (h : Own Try.prog main F Stop (G (c.finish (.slice none 0 0)) cs) w) :
    Own Try.prog main F Stop (G (Frame.enter Try.prog 23 #[v] .normal) (c :: cs)) w := by
  rw [enter_va]
  walk_nrm
  rw [vas0_eq]
  refine own_go rfl (fun d => stepG_seq) ?_
  rw [var0_eq]
  refine own_go rfl (fun d => stepG_region) ?_
  simp only [vao0, Code.opsOf, var0, Code.piece, vaBody, Try.f23, Option.getD_some, List.size_toArray, List.length_cons, List.length_nil, Nat.reduceAdd, Nat.zero_add, List.range, List.range.loop]
  (refine oWd rfl rfl (by decide) fun dd K hK => ?_; go_simp; refine hK _ _ ⟨⟨⟨0, Grew.refl _ _⟩, fun e he => by (have hm := mem_listed he; simp [go_sem] at hm)⟩, Own.at ?_ dd⟩; clear hK K)
  refine own_go rfl (fun d => stepG_region_end) ?_
  rw [vas1_eq]
  refine own_go rfl (fun d => stepG_seq) ?_
  rw [vas2_eq]
  refine own_go rfl (fun d => stepG_seq) ?_
  rw [var1_eq]
  refine own_go rfl (fun d => stepG_region) ?_
  simp only [vao1, Code.opsOf, var1, Code.piece, vaBody, Try.f23, Option.getD_some, List.size_toArray, List.length_cons, List.length_nil, Nat.reduceAdd, Nat.zero_add, List.range, List.range.loop]
  (refine oWd rfl rfl (by decide) fun dd K hK => ?_; go_simp; refine hK _ _ ⟨⟨⟨0, Grew.refl _ _⟩, fun e he => by (have hm := mem_listed he; simp [go_sem] at hm)⟩, Own.at ?_ dd⟩; clear hK K)
  refine own_call (f := 51) (args := #[v]) rfl rfl (by decide) (fun w => by simp [execOp, Act.eval, resolve, invoke, Deferred.ofValue, callable51.run]) (fun w => by simp [execOp, Act.eval, resolve, invoke, Deferred.ofValue, callable51.run, callable51.quiet]) ?_
  refine own_none hv ?_
  rw [Frame.finish_at]
  walk_nrm
  refine own_go rfl (fun d => stepG_region_end) ?_
  rw [vac6_eq]
  refine own_go rfl (fun d => stepG_cond (t := true) rfl) ?_
  simp only [if_true]
  rw [vas3_eq]
  refine own_go rfl (fun d => stepG_seq) ?_
  rw [var2_eq]
  refine own_go rfl (fun d => stepG_region) ?_
  simp only [vao2, Code.opsOf, var2, Code.piece, vaBody, Try.f23, Option.getD_some, List.size_toArray, List.length_cons, List.length_nil, Nat.reduceAdd, Nat.zero_add, List.range, List.range.loop]
  (refine oWd rfl rfl (by decide) fun dd K hK => ?_; go_simp; refine hK _ _ ⟨⟨⟨0, Grew.refl _ _⟩, fun e he => by (have hm := mem_listed he; simp [go_sem] at hm)⟩, Own.at ?_ dd⟩; clear hK K)
  refine own_go rfl (fun d => stepG_region_end) ?_
  refine own_go rfl (fun d => stepG_ret') ?_
  refine own_leave (fn := Try.f23) (v := .slice none 0 0) rfl rfl Try.func23 (fun d => by simp [results, Try.f23, go_sem]) (fun d e he => by simp [results, Try.f23, go_sem] at he) ?_
  exact h
set_option maxRecDepth 100000 in
set_option maxHeartbeats 2000000 in
theorem bh_none {v : Value} (hv : NoQ w v) {c : Frame} {cs : List Frame} {main : Bool} {Stop : Goroutine → World → Prop}
    (h : Own Try.prog main F Stop (G (c.finish (.int .i64 0)) cs) w) :
    Own Try.prog main F Stop (G (Frame.enter Try.prog 22 #[v] .normal) (c :: cs)) w := by
  rw [enter_bh]
  walk_nrm
  rw [bhs0_eq]
  refine own_go rfl (fun d => stepG_seq) ?_
  rw [bhr0_eq]
  refine own_go rfl (fun d => stepG_region) ?_
  simp only [bho0, Code.opsOf, bhr0, Code.piece, bhBody, Try.f22, Option.getD_some, List.size_toArray, List.length_cons, List.length_nil, Nat.reduceAdd, Nat.zero_add, List.range, List.range.loop]
  (refine oWd rfl rfl (by decide) fun dd K hK => ?_; go_simp; refine hK _ _ ⟨⟨⟨0, Grew.refl _ _⟩, fun e he => by (have hm := mem_listed he; simp [go_sem] at hm)⟩, Own.at ?_ dd⟩; clear hK K)
  refine own_go rfl (fun d => stepG_region_end) ?_
  rw [bhs1_eq]
  refine own_go rfl (fun d => stepG_seq) ?_
  rw [bhs2_eq]
  refine own_go rfl (fun d => stepG_seq) ?_
  rw [bhr1_eq]
  refine own_go rfl (fun d => stepG_region) ?_
  simp only [bho1, Code.opsOf, bhr1, Code.piece, bhBody, Try.f22, Option.getD_some, List.size_toArray, List.length_cons, List.length_nil, Nat.reduceAdd, Nat.zero_add, List.range, List.range.loop]
  (refine oWd rfl rfl (by decide) fun dd K hK => ?_; go_simp; refine hK _ _ ⟨⟨⟨0, Grew.refl _ _⟩, fun e he => by (have hm := mem_listed he; simp [go_sem] at hm)⟩, Own.at ?_ dd⟩; clear hK K)
  refine own_call (f := 51) (args := #[v]) rfl rfl (by decide) (fun w => by simp [execOp, Act.eval, resolve, invoke, Deferred.ofValue, callable51.run]) (fun w => by simp [execOp, Act.eval, resolve, invoke, Deferred.ofValue, callable51.run, callable51.quiet]) ?_
  refine own_none hv ?_
  rw [Frame.finish_at]
  walk_nrm
  refine own_go rfl (fun d => stepG_region_end) ?_
  rw [bhc6_eq]
  refine own_go rfl (fun d => stepG_cond (t := true) rfl) ?_
  simp only [if_true]
  rw [bhs3_eq]
  refine own_go rfl (fun d => stepG_seq) ?_
  rw [bhr2_eq]
  refine own_go rfl (fun d => stepG_region) ?_
  simp only [bho2, Code.opsOf, bhr2, Code.piece, bhBody, Try.f22, Option.getD_some, List.size_toArray, List.length_cons, List.length_nil, Nat.reduceAdd, Nat.zero_add, List.range, List.range.loop]
  (refine oWd rfl rfl (by decide) fun dd K hK => ?_; go_simp; refine hK _ _ ⟨⟨⟨0, Grew.refl _ _⟩, fun e he => by (have hm := mem_listed he; simp [go_sem] at hm)⟩, Own.at ?_ dd⟩; clear hK K)
  refine own_go rfl (fun d => stepG_region_end) ?_
  refine own_go rfl (fun d => stepG_ret') ?_
  refine own_leave (fn := Try.f22) (v := .int .i64 0) rfl rfl Try.func22 (fun d => by simp [results, Try.f22, go_sem]) (fun d e he => by simp [results, Try.f22, go_sem] at he) ?_
  exact h
end Go.Proofs.Ytcejbandeikdjaa
namespace Go.Proofs.Ytcejbandeikdjaa
open Go Go.Conc Go.RowKit Go.Proofs
variable {F : Fz} {w : World}
theorem NoQ.alloc {v : Value} (h : NoQ w v) (o : Obj) : NoQ (w.alloc o) v := h.imp id fun ⟨q, h1, h2⟩ => ⟨q, h1, (cellB_alloc h2 o).1⟩
theorem built39 : Try.prog.built 39 [] = some #[.int .i64 0] := by kernel_rfl
@[go_sem] theorem run_build39 (w : World) : (Instr.build 39 #[]).run Try.prog w = .ok (.agg #[.int .i64 0]) w := run_build w _ _ _ built39
@[go_sem] theorem ev_build39 (w : World) (es : Array Event) : (Instr.build 39 #[]).events Try.prog w es = es := ev_build w es _ _ _ _ Try.underlying39 built39
noncomputable def qnBody : Code := Try.f5.body.getD .skip
noncomputable def qns0 : Code := Code.piece [] qnBody
noncomputable def qnr0 : Code := Code.piece [true] qnBody
noncomputable def qno0 : Array Oper := Code.opsOf qnr0
noncomputable def qns1 : Code := Code.piece [false] qnBody
noncomputable def qns2 : Code := Code.piece [false, true] qnBody
noncomputable def qnr1 : Code := Code.piece [false, true, true] qnBody
noncomputable def qno1 : Array Oper := Code.opsOf qnr1
noncomputable def qnc11 : Code := Code.piece [false, true, false] qnBody
noncomputable def qns3 : Code := Code.piece [false, true, false, true] qnBody
noncomputable def qnr2 : Code := Code.piece [false, true, false, true, true] qnBody
noncomputable def qno2 : Array Oper := Code.opsOf qnr2
noncomputable def qns4 : Code := Code.piece [false, false] qnBody
noncomputable def qnr3 : Code := Code.piece [false, false, true] qnBody
noncomputable def qno3 : Array Oper := Code.opsOf qnr3
noncomputable def qns5 : Code := Code.piece [false, false, false] qnBody
noncomputable def qnr4 : Code := Code.piece [false, false, false, true] qnBody
noncomputable def qno4 : Array Oper := Code.opsOf qnr4
noncomputable def qns6 : Code := Code.piece [false, false, false, false] qnBody
noncomputable def qns7 : Code := Code.piece [false, false, false, false, true] qnBody
noncomputable def qnr5 : Code := Code.piece [false, false, false, false, true, true] qnBody
noncomputable def qno5 : Array Oper := Code.opsOf qnr5
noncomputable def qnb0 : Code := Code.piece [false, false, false, false, true, false] qnBody
noncomputable def qnl8 : Code := Code.piece [false, false, false, false, true, false, true] qnBody
noncomputable def qns9 : Code := Code.piece [false, false, false, false, true, false, true, true] qnBody
noncomputable def qns10 : Code := Code.piece [false, false, false, false, true, false, true, true, true] qnBody
noncomputable def qnr6 : Code := Code.piece [false, false, false, false, true, false, true, true, true, true] qnBody
noncomputable def qno6 : Array Oper := Code.opsOf qnr6
noncomputable def qnc19 : Code := Code.piece [false, false, false, false, true, false, true, true, true, false] qnBody
noncomputable def qns11 : Code := Code.piece [false, false, false, false, true, false, true, true, false] qnBody
noncomputable def qnb1 : Code := Code.piece [false, false, false, false, true, false, true, true, false, true] qnBody
noncomputable def qns12 : Code := Code.piece [false, false, false, false, true, false, true, true, false, true, true] qnBody
noncomputable def qnr8 : Code := Code.piece [false, false, false, false, true, false, true, true, false, true, true, true] qnBody
noncomputable def qno8 : Array Oper := Code.opsOf qnr8
noncomputable def qns13 : Code := Code.piece [false, false, false, false, true, false, true, true, false, true, true, false] qnBody
noncomputable def qnr9 : Code := Code.piece [false, false, false, false, true, false, true, true, false, true, true, false, true] qnBody
noncomputable def qno9 : Array Oper := Code.opsOf qnr9
noncomputable def qns14 : Code := Code.piece [false, false, false, false, true, false, true, true, false, true, true, false, false] qnBody
noncomputable def qnr10 : Code := Code.piece [false, false, false, false, true, false, true, true, false, true, true, false, false, true] qnBody
noncomputable def qno10 : Array Oper := Code.opsOf qnr10
noncomputable def qns15 : Code := Code.piece [false, false, false, false, true, false, true, true, false, true, true, false, false, false] qnBody
noncomputable def qnr11 : Code := Code.piece [false, false, false, false, true, false, true, true, false, true, true, false, false, false, true] qnBody
noncomputable def qno11 : Array Oper := Code.opsOf qnr11
noncomputable def qns16 : Code := Code.piece [false, false, false, false, true, false, true, true, false, true, true, false, false, false, false] qnBody
noncomputable def qnr12 : Code := Code.piece [false, false, false, false, true, false, true, true, false, true, true, false, false, false, false, true] qnBody
noncomputable def qno12 : Array Oper := Code.opsOf qnr12
noncomputable def qnc70 : Code := Code.piece [false, false, false, false, true, false, true, true, false, true, true, false, false, false, false, false] qnBody
noncomputable def qns17 : Code := Code.piece [false, false, false, false, true, false, true, true, false, true, true, false, false, false, false, false, true] qnBody
noncomputable def qnr13 : Code := Code.piece [false, false, false, false, true, false, true, true, false, true, true, false, false, false, false, false, true, true] qnBody
noncomputable def qno13 : Array Oper := Code.opsOf qnr13
noncomputable def qnr7 : Code := Code.piece [false, false, false, false, true, false, true, true, false, false] qnBody
noncomputable def qno7 : Array Oper := Code.opsOf qnr7
noncomputable def qns18 : Code := Code.piece [false, false, false, false, false] qnBody
noncomputable def qnr14 : Code := Code.piece [false, false, false, false, false, true] qnBody
noncomputable def qno14 : Array Oper := Code.opsOf qnr14
theorem qns0_eq : qns0 = .seq qnr0 qns1 := by kernel_rfl
theorem qnr0_eq : qnr0 = .region 0 qno0 false := by kernel_rfl
theorem qns1_eq : qns1 = .seq qns2 qns4 := by kernel_rfl
theorem qns2_eq : qns2 = .seq qnr1 qnc11 := by kernel_rfl
theorem qnr1_eq : qnr1 = .region 1 qno1 false := by kernel_rfl
theorem qnc11_eq : qnc11 = .cond (.tmp 11) qns3 .skip := by kernel_rfl
theorem qns3_eq : qns3 = .seq qnr2 .ret := by kernel_rfl
theorem qnr2_eq : qnr2 = .region 2 qno2 false := by kernel_rfl
theorem qns4_eq : qns4 = .seq qnr3 qns5 := by kernel_rfl
theorem qnr3_eq : qnr3 = .region 3 qno3 false := by kernel_rfl
theorem qns5_eq : qns5 = .seq qnr4 qns6 := by kernel_rfl
theorem qnr4_eq : qnr4 = .region 4 qno4 false := by kernel_rfl
theorem qns6_eq : qns6 = .seq qns7 qns18 := by kernel_rfl
theorem qns7_eq : qns7 = .seq qnr5 qnb0 := by kernel_rfl
theorem qnr5_eq : qnr5 = .region 5 qno5 false := by kernel_rfl
theorem qnb0_eq : qnb0 = .block 0 qnl8 := by kernel_rfl
theorem qnl8_eq : qnl8 = .loop qns9 := by kernel_rfl
theorem qns9_eq : qns9 = .seq qns10 qns11 := by kernel_rfl
theorem qns10_eq : qns10 = .seq qnr6 qnc19 := by kernel_rfl
theorem qnr6_eq : qnr6 = .region 6 qno6 false := by kernel_rfl
theorem qnc19_eq : qnc19 = .cond (.tmp 19) .skip (.exit 0) := by kernel_rfl
theorem qns11_eq : qns11 = .seq qnb1 qnr7 := by kernel_rfl
theorem qnb1_eq : qnb1 = .block 1 qns12 := by kernel_rfl
theorem qns12_eq : qns12 = .seq qnr8 qns13 := by kernel_rfl
theorem qnr8_eq : qnr8 = .region 8 qno8 false := by kernel_rfl
theorem qns13_eq : qns13 = .seq qnr9 qns14 := by kernel_rfl
theorem qnr9_eq : qnr9 = .region 9 qno9 false := by kernel_rfl
theorem qns14_eq : qns14 = .seq qnr10 qns15 := by kernel_rfl
theorem qnr10_eq : qnr10 = .region 10 qno10 false := by kernel_rfl
theorem qns15_eq : qns15 = .seq qnr11 qns16 := by kernel_rfl
theorem qnr11_eq : qnr11 = .region 11 qno11 false := by kernel_rfl
theorem qns16_eq : qns16 = .seq qnr12 qnc70 := by kernel_rfl
theorem qnr12_eq : qnr12 = .region 12 qno12 false := by kernel_rfl
theorem qnc70_eq : qnc70 = .cond (.tmp 70) qns17 .skip := by kernel_rfl
theorem qns17_eq : qns17 = .seq qnr13 .ret := by kernel_rfl
theorem qnr13_eq : qnr13 = .region 13 qno13 false := by kernel_rfl
theorem qnr7_eq : qnr7 = .region 7 qno7 false := by kernel_rfl
theorem qns18_eq : qns18 = .seq qnr14 .ret := by kernel_rfl
theorem qnr14_eq : qnr14 = .region 14 qno14 false := by kernel_rfl
theorem enter_qn (args : Array Value) : Frame.enter Try.prog 5 args .normal = (Go.Conc.base 5).at { tmps := args ++ Array.replicate (71 - args.size) undef, defers := [] } [.code qns0] := enter_at args Try.func5 rfl
theorem callable5 : Callable 5 := callable Try.func5 rfl rfl
def qnT (s : Nat → Value) : Array Value := #[s 0, s 1, s 2, s 3, s 4, s 5, s 6, s 7, s 8, s 9, s 10, s 11, s 12, s 13, s 14, s 15, s 16, s 17, s 18, s 19, s 20, s 21, s 22, s 23, s 24, s 25, s 26, s 27, s 28, s 29, s 30, s 31, s 32, s 33, s 34, s 35, s 36, s 37, s 38, s 39, s 40, s 41, s 42, s 43, s 44, s 45, s 46, s 47, s 48, s 49, s 50, s 51, s 52, s 53, s 54, s 55, s 56, s 57, s 58, s 59, s 60, s 61, s 62, s 63, s 64, s 65, s 66, s 67, s 68, s 69, s 70]
theorem qnT_of {A : Array Value} (h : A.size = 71) : ∃ s, A = qnT s := by
  obtain ⟨s, hs, _⟩ := arr_lit A h
  exact ⟨s, hs⟩
set_option maxRecDepth 100000 in
set_option maxHeartbeats 2000000 in
theorem qn_0 {x : Int} {cs : List Frame} {main : Bool} {Stop : Goroutine → World → Prop}
    (h : ∀ A, Slots 71 A [(0, .int .i64 x)] → Own Try.prog main F Stop (G (Frame.enter Try.prog 12 #[] .normal) (((Go.Conc.base 5).at ⟨A, []⟩ [.inRegion qno1 [0, 1], .code qnc11, .code qns4]) :: cs)) w) :
    Own Try.prog main F Stop (G (Frame.enter Try.prog 5 #[.int .i64 x] .normal) cs) w := by
  rw [enter_qn]
  walk_nrm
  rw [qns0_eq]
  refine own_go rfl (fun d => stepG_seq) ?_
  rw [qnr0_eq]
  refine own_go rfl (fun d => stepG_region) ?_
  simp only [qno0, Code.opsOf, qnr0, Code.piece, qnBody, Try.f5, Option.getD_some, List.size_toArray, List.length_cons, List.length_nil, Nat.reduceAdd, Nat.zero_add, List.range, List.range.loop]
  (refine oWd rfl rfl (by decide) fun dd K hK => ?_; go_simp; refine hK _ _ ⟨⟨⟨0, Grew.refl _ _⟩, fun e he => by (have hm := mem_listed he; simp [go_sem] at hm)⟩, Own.at ?_ dd⟩; clear hK K)
  refine own_go rfl (fun d => stepG_region_end) ?_
  rw [qns1_eq]
  refine own_go rfl (fun d => stepG_seq) ?_
  rw [qns2_eq]
  refine own_go rfl (fun d => stepG_seq) ?_
  rw [qnr1_eq]
  refine own_go rfl (fun d => stepG_region) ?_
  simp only [qno1, Code.opsOf, qnr1, Code.piece, qnBody, Try.f5, Option.getD_some, List.size_toArray, List.length_cons, List.length_nil, Nat.reduceAdd, Nat.zero_add, List.range, List.range.loop]
  refine own_call (f := 12) (args := #[]) rfl rfl (by decide) (fun w => by simp [execOp, Act.eval, resolve, invoke, Deferred.ofValue, callable12.run]) (fun w => by simp [execOp, Act.eval, resolve, invoke, Deferred.ofValue, callable12.run, callable12.quiet]) ?_
  refine h _ ?_
  exact ⟨rfl, rfl, trivial⟩
set_option maxRecDepth 100000 in
set_option maxHeartbeats 2000000 in
theorem qn_1 {n : Nat} (hU : Under F n) (hn : n ≤ w.heap.size) {x : Int} {A : Array Value} (hA : Slots 71 A [(0, .int .i64 x)]) {cs : List Frame} {main : Bool} {Stop : Goroutine → World → Prop}
    (h : ∀ A, Slots 71 A [(0, .int .i64 x), (4, .slice (some ⟨w.heap.size + 1, 0, none⟩) 2 2), (5, .int .i64 0)] → Own Try.prog main F Stop (G ((Go.Conc.base 5).at ⟨A, []⟩ [.code qns9, .inLoop qns9, .inBlock 0, .code qns18]) cs) ((w.alloc (.cells #[.pointer none, .pointer none] 62)).alloc (.cells #[.pointer none, .pointer (some ⟨w.heap.size, 0, none⟩)] 33))) :
    Own Try.prog main F Stop (G (((Go.Conc.base 5).at ⟨A, []⟩ [.inRegion qno1 [0, 1], .code qnc11, .code qns4]).finish (.bool true)) cs) w := by
  obtain ⟨hsz, h0, _⟩ := hA
  obtain ⟨s, rfl⟩ := qnT_of hsz
  change s 0 = _ at h0
  clear hsz
  simp only [qnT, h0]
  clear h0
  rw [Frame.finish_at]
  simp only [qno1, Code.opsOf, qnr1, Code.piece, qnBody, Try.f5, Option.getD_some, List.size_toArray, List.length_cons, List.length_nil, Nat.reduceAdd, Nat.zero_add, List.range, List.range.loop]
  walk_nrm
  (refine oWd rfl rfl (by decide) fun dd K hK => ?_; go_simp; refine hK _ _ ⟨⟨⟨0, Grew.refl _ _⟩, fun e he => by (have hm := mem_listed he; simp [go_sem] at hm)⟩, Own.at ?_ dd⟩; clear hK K)
  refine own_go rfl (fun d => stepG_region_end) ?_
  rw [qnc11_eq]
  refine own_go rfl (fun d => stepG_cond (t := false) rfl) ?_
  simp only [Bool.false_eq_true, if_false]
  refine own_go rfl (fun d => stepG_skip) ?_
  rw [qns4_eq]
  refine own_go rfl (fun d => stepG_seq) ?_
  rw [qnr3_eq]
  refine own_go rfl (fun d => stepG_region) ?_
  simp only [qno3, Code.opsOf, qnr3, Code.piece, qnBody, Try.f5, Option.getD_some, List.size_toArray, List.length_cons, List.length_nil, Nat.reduceAdd, Nat.zero_add, List.range, List.range.loop]
  (refine oWd rfl rfl (by decide) fun dd K hK => ?_; go_simp; refine hK _ _ ⟨⟨⟨0, Grew.refl _ _⟩, fun e he => by (have hm := mem_listed he; simp [go_sem] at hm)⟩, Own.at ?_ dd⟩; clear hK K)
  refine own_go rfl (fun d => stepG_region_end) ?_
  rw [qns5_eq]
  refine own_go rfl (fun d => stepG_seq) ?_
  rw [qnr4_eq]
  refine own_go rfl (fun d => stepG_region) ?_
  simp only [qno4, Code.opsOf, qnr4, Code.piece, qnBody, Try.f5, Option.getD_some, List.size_toArray, List.length_cons, List.length_nil, Nat.reduceAdd, Nat.zero_add, List.range, List.range.loop]
  (refine oWd rfl rfl (by decide) fun dd K hK => ?_; go_simp; refine hK _ _ ⟨⟨⟨0, Grew.refl _ _⟩, fun e he => by (have hm := mem_listed he; simp [go_sem] at hm)⟩, Own.at ?_ dd⟩; clear hK K)
  (refine oWd rfl rfl (by decide) fun dd K hK => ?_; go_simp; refine hK _ _ ⟨⟨⟨0, Grew.refl _ _⟩, fun e he => by (have hm := mem_listed he; simp [go_sem] at hm)⟩, Own.at ?_ dd⟩; clear hK K)
  (refine oWd rfl rfl (by decide) fun dd K hK => ?_; go_simp; refine hK _ _ ⟨⟨⟨0, grew_alloc hU (by first | (simp [go_sem]; done) | (simp [go_sem]; omega)) _⟩, fun e he => by (have hm := mem_listed he; simp [go_sem, storedEv] at hm)⟩, ?_⟩; clear hK K; rw [alloc_at']; refine Own.at ?_ dd)
  (refine oWd rfl rfl (by decide) fun dd K hK => ?_; go_simp; refine hK _ _ ⟨⟨⟨0, grew_alloc hU (by first | (simp [go_sem]; done) | (simp [go_sem]; omega)) _⟩, fun e he => by (have hm := mem_listed he; simp [go_sem, storedEv] at hm)⟩, ?_⟩; clear hK K; rw [alloc_at']; refine Own.at ?_ dd)
  (refine oWd rfl rfl (by decide) fun dd K hK => ?_; go_simp; refine hK _ _ ⟨⟨⟨0, Grew.refl _ _⟩, fun e he => by (have hm := mem_listed he; simp [go_sem] at hm)⟩, Own.at ?_ dd⟩; clear hK K)
  refine own_go rfl (fun d => stepG_region_end) ?_
  rw [qns6_eq]
  refine own_go rfl (fun d => stepG_seq) ?_
  rw [qns7_eq]
  refine own_go rfl (fun d => stepG_seq) ?_
  rw [qnr5_eq]
  refine own_go rfl (fun d => stepG_region) ?_
  simp only [qno5, Code.opsOf, qnr5, Code.piece, qnBody, Try.f5, Option.getD_some, List.size_toArray, List.length_cons, List.length_nil, Nat.reduceAdd, Nat.zero_add, List.range, List.range.loop]
  (refine oWd rfl rfl (by decide) fun dd K hK => ?_; go_simp; refine hK _ _ ⟨⟨⟨0, Grew.refl _ _⟩, fun e he => by (have hm := mem_listed he; simp [go_sem] at hm)⟩, Own.at ?_ dd⟩; clear hK K)
  refine own_go rfl (fun d => stepG_region_end) ?_
  rw [qnb0_eq]
  refine own_go rfl (fun d => stepG_block) ?_
  rw [qnl8_eq]
  refine own_go rfl (fun d => stepG_loop) ?_
  refine h _ ?_
  exact ⟨rfl, rfl, rfl, rfl, trivial⟩
set_option maxRecDepth 100000 in
set_option maxHeartbeats 2000000 in
theorem qn_20 {n : Nat} (hU : Under F n) (hn : n ≤ w.heap.size) {x : Int} {lb : Nat} {v : Value} (hv : NoQ w v) (hl : At w ⟨lb, 0, none⟩ v) {A : Array Value} (hA : Slots 71 A [(0, .int .i64 x), (4, .slice (some ⟨lb, 0, none⟩) 2 2), (5, .int .i64 0)]) {cs : List Frame} {main : Bool} {Stop : Goroutine → World → Prop}
    (h : ∀ A, Slots 71 A [(0, .int .i64 x), (4, .slice (some ⟨lb, 0, none⟩) 2 2), (5, .int .i64 1)] → Own Try.prog main F Stop (G ((Go.Conc.base 5).at ⟨A, []⟩ [.code qns9, .inLoop qns9, .inBlock 0, .code qns18]) cs) (w.alloc (.cells #[.int .i64 0] 39))) :
    Own Try.prog main F Stop (G ((Go.Conc.base 5).at ⟨A, []⟩ [.code qns9, .inLoop qns9, .inBlock 0, .code qns18]) cs) w := by
  obtain ⟨hsz, h0, h4, h5, _⟩ := hA
  obtain ⟨s, rfl⟩ := qnT_of hsz
  change s 0 = _ at h0
  change s 4 = _ at h4
  change s 5 = _ at h5
  clear hsz
  simp only [qnT, h0, h4, h5]
  clear h0 h4 h5
  rw [qns9_eq]
  refine own_go rfl (fun d => stepG_seq) ?_
  rw [qns10_eq]
  refine own_go rfl (fun d => stepG_seq) ?_
  rw [qnr6_eq]
  refine own_go rfl (fun d => stepG_region) ?_
  simp only [qno6, Code.opsOf, qnr6, Code.piece, qnBody, Try.f5, Option.getD_some, List.size_toArray, List.length_cons, List.length_nil, Nat.reduceAdd, Nat.zero_add, List.range, List.range.loop]
  (refine oWd rfl rfl (by decide) fun dd K hK => ?_; go_simp; refine hK _ _ ⟨⟨⟨0, Grew.refl _ _⟩, fun e he => by (have hm := mem_listed he; simp [go_sem] at hm)⟩, Own.at ?_ dd⟩; clear hK K)
  (refine oWd rfl rfl (by decide) fun dd K hK => ?_; go_simp; refine hK _ _ ⟨⟨⟨0, Grew.refl _ _⟩, fun e he => by (have hm := mem_listed he; simp [go_sem] at hm)⟩, Own.at ?_ dd⟩; clear hK K)
  (refine oWd rfl rfl (by decide) fun dd K hK => ?_; go_simp; refine hK _ _ ⟨⟨⟨0, Grew.refl _ _⟩, fun e he => by (have hm := mem_listed he; simp [go_sem] at hm)⟩, Own.at ?_ dd⟩; clear hK K)
  (refine oWd rfl rfl (by decide) fun dd K hK => ?_; go_simp; refine hK _ _ ⟨⟨⟨0, Grew.refl _ _⟩, fun e he => by (have hm := mem_listed he; simp [go_sem] at hm)⟩, Own.at ?_ dd⟩; clear hK K)
  refine own_go rfl (fun d => stepG_region_end) ?_
  rw [qnc19_eq]
  refine own_go rfl (fun d => stepG_cond (t := true) rfl) ?_
  simp only [if_true]
  refine own_go rfl (fun d => stepG_skip) ?_
  rw [qns11_eq]
  refine own_go rfl (fun d => stepG_seq) ?_
  rw [qnb1_eq]
  refine own_go rfl (fun d => stepG_block) ?_
  rw [qns12_eq]
  refine own_go rfl (fun d => stepG_seq) ?_
  rw [qnr8_eq]
  refine own_go rfl (fun d => stepG_region) ?_
  simp only [qno8, Code.opsOf, qnr8, Code.piece, qnBody, Try.f5, Option.getD_some, List.size_toArray, List.length_cons, List.length_nil, Nat.reduceAdd, Nat.zero_add, List.range, List.range.loop]
  (refine oWd rfl rfl (by decide) fun dd K hK => ?_; go_simp; refine hK _ _ ⟨⟨⟨0, Grew.refl _ _⟩, fun e he => by (have hm := mem_listed he; simp [go_sem] at hm)⟩, Own.at ?_ dd⟩; clear hK K)
  (refine oWd rfl rfl (by decide) fun dd K hK => ?_; go_simp; refine hK _ _ ⟨⟨⟨0, grew_alloc hU (by first | (simp [go_sem]; done) | (simp [go_sem]; omega)) _⟩, fun e he => by (have hm := mem_listed he; simp [go_sem, storedEv] at hm)⟩, ?_⟩; clear hK K; rw [alloc_at']; refine Own.at ?_ dd)
  have hs : At (w.alloc (.cells #[.int .i64 0] 39)) ⟨w.heap.size, 0, none⟩ (.int .i64 0) := ⟨by simp [go_sem], by simp [go_sem]⟩
  replace hl := hl.alloc (.cells #[.int .i64 0] 39)
  replace hv := hv.alloc (.cells #[.int .i64 0] 39)
  generalize w.alloc (.cells #[.int .i64 0] 39) = W at hl hv hs h ⊢
  generalize w.heap.size = T at hs h ⊢
  (refine oWd rfl rfl (by decide) fun dd K hK => ?_; go_simp; refine hK _ _ ⟨⟨⟨0, Grew.refl _ _⟩, fun e he => by (have hm := mem_listed he; simp [go_sem] at hm)⟩, Own.at ?_ dd⟩; clear hK K)
  refine own_go rfl (fun d => stepG_region_end) ?_
  rw [qns13_eq]
  refine own_go rfl (fun d => stepG_seq) ?_
  rw [qnr9_eq]
  refine own_go rfl (fun d => stepG_region) ?_
  simp only [qno9, Code.opsOf, qnr9, Code.piece, qnBody, Try.f5, Option.getD_some, List.size_toArray, List.length_cons, List.length_nil, Nat.reduceAdd, Nat.zero_add, List.range, List.range.loop]
  (refine oWd rfl rfl (by decide) fun dd K hK => ?_; go_simp; refine hK _ _ ⟨⟨⟨0, Grew.refl _ _⟩, fun e he => by (have hm := mem_listed he; simp [go_sem] at hm)⟩, Own.at ?_ dd⟩; clear hK K)
  (refine oWd rfl rfl (by decide) fun dd K hK => ?_; go_simp; refine hK _ _ ⟨⟨⟨0, Grew.refl _ _⟩, fun e he => by (have hm := mem_listed he; simp [go_sem] at hm)⟩, Own.at ?_ dd⟩; clear hK K)
  (refine oWd rfl rfl (by decide) fun dd K hK => ?_; go_simp; refine hK _ _ ⟨⟨⟨0, Grew.refl _ _⟩, fun e he => by (have hm := mem_listed he; simp [go_sem, *] at hm)⟩, Own.at ?_ dd⟩; clear hK K)
  (refine oWd rfl rfl (by decide) fun dd K hK => ?_; have c0 := ((hl).at dd).c; have z0 := ((hl).at dd).z; go_simp; refine hK _ _ ⟨⟨⟨0, Grew.refl _ _⟩, fun e he => by (have hm := mem_listed he; clear he hK; simp [go_sem, c0, z0] at hm; subst hm; exact evT_read _ _)⟩, Own.at ?_ dd⟩; clear hK K c0 z0)
  (refine oWd rfl rfl (by decide) fun dd K hK => ?_; go_simp; refine hK _ _ ⟨⟨⟨0, Grew.refl _ _⟩, fun e he => by (have hm := mem_listed he; simp [go_sem] at hm)⟩, Own.at ?_ dd⟩; clear hK K)
  refine own_go rfl (fun d => stepG_region_end) ?_
  rw [qns14_eq]
  refine own_go rfl (fun d => stepG_seq) ?_
  rw [qnr10_eq]
  refine own_go rfl (fun d => stepG_region) ?_
  simp only [qno10, Code.opsOf, qnr10, Code.piece, qnBody, Try.f5, Option.getD_some, List.size_toArray, List.length_cons, List.length_nil, Nat.reduceAdd, Nat.zero_add, List.range, List.range.loop]
  (refine oWd rfl rfl (by decide) fun dd K hK => ?_; go_simp; refine hK _ _ ⟨⟨⟨0, Grew.refl _ _⟩, fun e he => by (have hm := mem_listed he; simp [go_sem] at hm)⟩, Own.at ?_ dd⟩; clear hK K)
  (refine oWd rfl rfl (by decide) fun dd K hK => ?_; go_simp; refine hK _ _ ⟨⟨⟨0, Grew.refl _ _⟩, fun e he => by (have hm := mem_listed he; simp [go_sem] at hm)⟩, Own.at ?_ dd⟩; clear hK K)
  (refine oWd rfl rfl (by decide) fun dd K hK => ?_; go_simp; refine hK _ _ ⟨⟨⟨0, Grew.refl _ _⟩, fun e he => by (have hm := mem_listed he; simp [go_sem] at hm)⟩, Own.at ?_ dd⟩; clear hK K)
  (refine oWd rfl rfl (by decide) fun dd K hK => ?_; go_simp; refine hK _ _ ⟨⟨⟨0, Grew.refl _ _⟩, fun e he => by (have hm := mem_listed he; simp [go_sem] at hm)⟩, Own.at ?_ dd⟩; clear hK K)
  refine own_call (f := 25) (args := #[v, .iface 37 (.pointer (some ⟨T, 0, none⟩)), .int .i64 x]) rfl rfl (by decide) (fun w => by simp [execOp, Act.eval, resolve, invoke, Deferred.ofValue, callable25.run]) (fun w => by simp [execOp, Act.eval, resolve, invoke, Deferred.ofValue, callable25.run, callable25.quiet]) ?_
  refine put_none hv ?_
  rw [Frame.finish_at]
  walk_nrm
  refine own_go rfl (fun d => stepG_region_end) ?_
  rw [qns15_eq]
  refine own_go rfl (fun d => stepG_seq) ?_
  rw [qnr11_eq]
  refine own_go rfl (fun d => stepG_region) ?_
  simp only [qno11, Code.opsOf, qnr11, Code.piece, qnBody, Try.f5, Option.getD_some, List.size_toArray, List.length_cons, List.length_nil, Nat.reduceAdd, Nat.zero_add, List.range, List.range.loop]
  (refine oWd rfl rfl (by decide) fun dd K hK => ?_; go_simp; refine hK _ _ ⟨⟨⟨0, Grew.refl _ _⟩, fun e he => by (have hm := mem_listed he; simp [go_sem] at hm)⟩, Own.at ?_ dd⟩; clear hK K)
  (refine oWd rfl rfl (by decide) fun dd K hK => ?_; go_simp; refine hK _ _ ⟨⟨⟨0, Grew.refl _ _⟩, fun e he => by (have hm := mem_listed he; simp [go_sem] at hm)⟩, Own.at ?_ dd⟩; clear hK K)
  (refine oWd rfl rfl (by decide) fun dd K hK => ?_; go_simp; refine hK _ _ ⟨⟨⟨0, Grew.refl _ _⟩, fun e he => by (have hm := mem_listed he; simp [go_sem] at hm)⟩, Own.at ?_ dd⟩; clear hK K)
  refine own_call (f := 26) (args := #[v, .iface 37 (.pointer (some ⟨T, 0, none⟩))]) rfl rfl (by decide) (fun w => by simp [execOp, Act.eval, resolve, invoke, Deferred.ofValue, callable26.run]) (fun w => by simp [execOp, Act.eval, resolve, invoke, Deferred.ofValue, callable26.run, callable26.quiet]) ?_
  refine tak_none hv ?_
  rw [Frame.finish_at]
  walk_nrm
  (refine oWd rfl rfl (by decide) fun dd K hK => ?_; go_simp; refine hK _ _ ⟨⟨⟨0, Grew.refl _ _⟩, fun e he => by (have hm := mem_listed he; simp [go_sem] at hm)⟩, Own.at ?_ dd⟩; clear hK K)
  (refine oWd rfl rfl (by decide) fun dd K hK => ?_; go_simp; refine hK _ _ ⟨⟨⟨0, Grew.refl _ _⟩, fun e he => by (have hm := mem_listed he; simp [go_sem] at hm)⟩, Own.at ?_ dd⟩; clear hK K)
  (refine oWd rfl rfl (by decide) fun dd K hK => ?_; go_simp; refine hK _ _ ⟨⟨⟨0, Grew.refl _ _⟩, fun e he => by (have hm := mem_listed he; simp [go_sem] at hm)⟩, Own.at ?_ dd⟩; clear hK K)
  (refine oWd rfl rfl (by decide) fun dd K hK => ?_; go_simp; refine hK _ _ ⟨⟨⟨0, Grew.refl _ _⟩, fun e he => by (have hm := mem_listed he; simp [go_sem] at hm)⟩, Own.at ?_ dd⟩; clear hK K)
  (refine oWd rfl rfl (by decide) fun dd K hK => ?_; go_simp; refine hK _ _ ⟨⟨⟨0, Grew.refl _ _⟩, fun e he => by (have hm := mem_listed he; simp [go_sem] at hm)⟩, Own.at ?_ dd⟩; clear hK K)
  refine own_go rfl (fun d => stepG_region_end) ?_
  rw [qns16_eq]
  refine own_go rfl (fun d => stepG_seq) ?_
  rw [qnr12_eq]
  refine own_go rfl (fun d => stepG_region) ?_
  simp only [qno12, Code.opsOf, qnr12, Code.piece, qnBody, Try.f5, Option.getD_some, List.size_toArray, List.length_cons, List.length_nil, Nat.reduceAdd, Nat.zero_add, List.range, List.range.loop]
  (refine oWd rfl rfl (by decide) fun dd K hK => ?_; go_simp; refine hK _ _ ⟨⟨⟨0, Grew.refl _ _⟩, fun e he => by (have hm := mem_listed he; simp [go_sem] at hm)⟩, Own.at ?_ dd⟩; clear hK K)
  (refine oWd rfl rfl (by decide) fun dd K hK => ?_; go_simp; refine hK _ _ ⟨⟨⟨0, Grew.refl _ _⟩, fun e he => by (have hm := mem_listed he; simp [go_sem] at hm)⟩, Own.at ?_ dd⟩; clear hK K)
  (refine oWd rfl rfl (by decide) fun dd K hK => ?_; go_simp; refine hK _ _ ⟨⟨⟨0, Grew.refl _ _⟩, fun e he => by (have hm := mem_listed he; simp [go_sem] at hm)⟩, Own.at ?_ dd⟩; clear hK K)
  (refine oWd rfl rfl (by decide) fun dd K hK => ?_; go_simp; refine hK _ _ ⟨⟨⟨0, Grew.refl _ _⟩, fun e he => by (have hm := mem_listed he; simp [go_sem] at hm)⟩, Own.at ?_ dd⟩; clear hK K)
  (refine oWd rfl rfl (by decide) fun dd K hK => ?_; go_simp; refine hK _ _ ⟨⟨⟨0, Grew.refl _ _⟩, fun e he => by (have hm := mem_listed he; simp [go_sem] at hm)⟩, Own.at ?_ dd⟩; clear hK K)
  (refine oWd rfl rfl (by decide) fun dd K hK => ?_; go_simp; refine hK _ _ ⟨⟨⟨0, Grew.refl _ _⟩, fun e he => by (have hm := mem_listed he; simp [go_sem] at hm)⟩, Own.at ?_ dd⟩; clear hK K)
  (refine oWd rfl rfl (by decide) fun dd K hK => ?_; go_simp; refine hK _ _ ⟨⟨⟨0, Grew.refl _ _⟩, fun e he => by (have hm := mem_listed he; simp [go_sem] at hm)⟩, Own.at ?_ dd⟩; clear hK K)
  (refine oWd rfl rfl (by decide) fun dd K hK => ?_; go_simp; refine hK _ _ ⟨⟨⟨0, Grew.refl _ _⟩, fun e he => by (have hm := mem_listed he; simp [go_sem] at hm)⟩, Own.at ?_ dd⟩; clear hK K)
  (refine oWd rfl rfl (by decide) fun dd K hK => ?_; go_simp; refine hK _ _ ⟨⟨⟨0, Grew.refl _ _⟩, fun e he => by (have hm := mem_listed he; simp [go_sem] at hm)⟩, Own.at ?_ dd⟩; clear hK K)
  (refine oWd rfl rfl (by decide) fun dd K hK => ?_; go_simp; refine hK _ _ ⟨⟨⟨0, Grew.refl _ _⟩, fun e he => by (have hm := mem_listed he; simp [go_sem] at hm)⟩, Own.at ?_ dd⟩; clear hK K)
  refine own_call (f := 27) (args := #[v, .iface 37 (.pointer (some ⟨T, 0, none⟩))]) rfl rfl (by decide) (fun w => by simp [execOp, Act.eval, resolve, invoke, Deferred.ofValue, callable27.run]) (fun w => by simp [execOp, Act.eval, resolve, invoke, Deferred.ofValue, callable27.run, callable27.quiet]) ?_
  refine emp_none hv ?_
  rw [Frame.finish_at]
  walk_nrm
  (refine oWd rfl rfl (by decide) fun dd K hK => ?_; go_simp; refine hK _ _ ⟨⟨⟨0, Grew.refl _ _⟩, fun e he => by (have hm := mem_listed he; simp [go_sem] at hm)⟩, Own.at ?_ dd⟩; clear hK K)
  (refine oWd rfl rfl (by decide) fun dd K hK => ?_; go_simp; refine hK _ _ ⟨⟨⟨0, Grew.refl _ _⟩, fun e he => by (have hm := mem_listed he; simp [go_sem] at hm)⟩, Own.at ?_ dd⟩; clear hK K)
  (refine oWd rfl rfl (by decide) fun dd K hK => ?_; go_simp; refine hK _ _ ⟨⟨⟨0, Grew.refl _ _⟩, fun e he => by (have hm := mem_listed he; simp [go_sem] at hm)⟩, Own.at ?_ dd⟩; clear hK K)
  (refine oWd rfl rfl (by decide) fun dd K hK => ?_; go_simp; refine hK _ _ ⟨⟨⟨0, Grew.refl _ _⟩, fun e he => by (have hm := mem_listed he; simp [go_sem] at hm)⟩, Own.at ?_ dd⟩; clear hK K)
  refine own_call (f := 23) (args := #[v]) rfl rfl (by decide) (fun w => by simp [execOp, Act.eval, resolve, invoke, Deferred.ofValue, callable23.run]) (fun w => by simp [execOp, Act.eval, resolve, invoke, Deferred.ofValue, callable23.run, callable23.quiet]) ?_
  refine va_none hv ?_
  rw [Frame.finish_at]
  walk_nrm
  (refine oWd rfl rfl (by decide) fun dd K hK => ?_; go_simp; refine hK _ _ ⟨⟨⟨0, Grew.refl _ _⟩, fun e he => by (have hm := mem_listed he; simp [go_sem] at hm)⟩, Own.at ?_ dd⟩; clear hK K)
  (refine oWd rfl rfl (by decide) fun dd K hK => ?_; go_simp; refine hK _ _ ⟨⟨⟨0, Grew.refl _ _⟩, fun e he => by (have hm := mem_listed he; simp [go_sem] at hm)⟩, Own.at ?_ dd⟩; clear hK K)
  (refine oWd rfl rfl (by decide) fun dd K hK => ?_; go_simp; refine hK _ _ ⟨⟨⟨0, Grew.refl _ _⟩, fun e he => by (have hm := mem_listed he; simp [go_sem] at hm)⟩, Own.at ?_ dd⟩; clear hK K)
  (refine oWd rfl rfl (by decide) fun dd K hK => ?_; go_simp; refine hK _ _ ⟨⟨⟨0, Grew.refl _ _⟩, fun e he => by (have hm := mem_listed he; simp [go_sem] at hm)⟩, Own.at ?_ dd⟩; clear hK K)
  (refine oWd rfl rfl (by decide) fun dd K hK => ?_; go_simp; refine hK _ _ ⟨⟨⟨0, Grew.refl _ _⟩, fun e he => by (have hm := mem_listed he; simp [go_sem] at hm)⟩, Own.at ?_ dd⟩; clear hK K)
  refine own_call (f := 22) (args := #[v]) rfl rfl (by decide) (fun w => by simp [execOp, Act.eval, resolve, invoke, Deferred.ofValue, callable22.run]) (fun w => by simp [execOp, Act.eval, resolve, invoke, Deferred.ofValue, callable22.run, callable22.quiet]) ?_
  refine bh_none hv ?_
  rw [Frame.finish_at]
  walk_nrm
  (refine oWd rfl rfl (by decide) fun dd K hK => ?_; go_simp; refine hK _ _ ⟨⟨⟨0, Grew.refl _ _⟩, fun e he => by (have hm := mem_listed he; simp [go_sem] at hm)⟩, Own.at ?_ dd⟩; clear hK K)
  (refine oWd rfl rfl (by decide) fun dd K hK => ?_; go_simp; refine hK _ _ ⟨⟨⟨0, Grew.refl _ _⟩, fun e he => by (have hm := mem_listed he; simp [go_sem] at hm)⟩, Own.at ?_ dd⟩; clear hK K)
  (refine oWd rfl rfl (by decide) fun dd K hK => ?_; go_simp; refine hK _ _ ⟨⟨⟨0, Grew.refl _ _⟩, fun e he => by (have hm := mem_listed he; simp [go_sem] at hm)⟩, Own.at ?_ dd⟩; clear hK K)
  (refine oWd rfl rfl (by decide) fun dd K hK => ?_; go_simp; refine hK _ _ ⟨⟨⟨0, Grew.refl _ _⟩, fun e he => by (have hm := mem_listed he; simp [go_sem] at hm)⟩, Own.at ?_ dd⟩; clear hK K)
  (refine oWd rfl rfl (by decide) fun dd K hK => ?_; go_simp; refine hK _ _ ⟨⟨⟨0, Grew.refl _ _⟩, fun e he => by (have hm := mem_listed he; simp [go_sem] at hm)⟩, Own.at ?_ dd⟩; clear hK K)
  (refine oWd rfl rfl (by decide) fun dd K hK => ?_; go_simp; refine hK _ _ ⟨⟨⟨0, Grew.refl _ _⟩, fun e he => by (have hm := mem_listed he; simp [go_sem] at hm)⟩, Own.at ?_ dd⟩; clear hK K)
  (refine oWd rfl rfl (by decide) fun dd K hK => ?_; have c0 := ((hs).at dd).c; have z0 := ((hs).at dd).z; go_simp; refine hK _ _ ⟨⟨⟨0, Grew.refl _ _⟩, fun e he => by (have hm := mem_listed he; clear he hK; simp [go_sem, c0, z0] at hm; subst hm; exact evT_read _ _)⟩, Own.at ?_ dd⟩; clear hK K c0 z0)
  (refine oWd rfl rfl (by decide) fun dd K hK => ?_; go_simp; refine hK _ _ ⟨⟨⟨0, Grew.refl _ _⟩, fun e he => by (have hm := mem_listed he; simp [go_sem] at hm)⟩, Own.at ?_ dd⟩; clear hK K)
  (refine oWd rfl rfl (by decide) fun dd K hK => ?_; go_simp; refine hK _ _ ⟨⟨⟨0, Grew.refl _ _⟩, fun e he => by (have hm := mem_listed he; simp [go_sem] at hm)⟩, Own.at ?_ dd⟩; clear hK K)
  refine own_go rfl (fun d => stepG_region_end) ?_
  rw [qnc70_eq]
  refine own_go rfl (fun d => stepG_cond (t := false) rfl) ?_
  simp only [Bool.false_eq_true, if_false]
  refine own_go rfl (fun d => stepG_skip) ?_
  refine own_go rfl (fun d => stepG_inBlock) ?_
  rw [qnr7_eq]
  refine own_go rfl (fun d => stepG_region) ?_
  simp only [qno7, Code.opsOf, qnr7, Code.piece, qnBody, Try.f5, Option.getD_some, List.size_toArray, List.length_cons, List.length_nil, Nat.reduceAdd, Nat.zero_add, List.range, List.range.loop]
  (refine oWd rfl rfl (by decide) fun dd K hK => ?_; go_simp; refine hK _ _ ⟨⟨⟨0, Grew.refl _ _⟩, fun e he => by (have hm := mem_listed he; simp [go_sem] at hm)⟩, Own.at ?_ dd⟩; clear hK K)
  (refine oWd rfl rfl (by decide) fun dd K hK => ?_; go_simp; refine hK _ _ ⟨⟨⟨0, Grew.refl _ _⟩, fun e he => by (have hm := mem_listed he; simp [go_sem] at hm)⟩, Own.at ?_ dd⟩; clear hK K)
  (refine oWd rfl rfl (by decide) fun dd K hK => ?_; go_simp; refine hK _ _ ⟨⟨⟨0, Grew.refl _ _⟩, fun e he => by (have hm := mem_listed he; simp [go_sem] at hm)⟩, Own.at ?_ dd⟩; clear hK K)
  refine own_go rfl (fun d => stepG_region_end) ?_
  refine own_go rfl (fun d => stepG_inLoop) ?_
  refine h _ ?_
  exact ⟨rfl, rfl, rfl, rfl, trivial⟩
set_option maxRecDepth 100000 in
set_option maxHeartbeats 2000000 in
theorem qn_21 {n : Nat} (hU : Under F n) (hn : n ≤ w.heap.size) {x : Int} {lb : Nat} {v : Value} (hv : NoQ w v) (hl : At w ⟨lb, 1, none⟩ v) {A : Array Value} (hA : Slots 71 A [(0, .int .i64 x), (4, .slice (some ⟨lb, 0, none⟩) 2 2), (5, .int .i64 1)]) {cs : List Frame} {main : Bool} {Stop : Goroutine → World → Prop}
    (h : ∀ A, Slots 71 A [(0, .int .i64 x), (4, .slice (some ⟨lb, 0, none⟩) 2 2), (5, .int .i64 2)] → Own Try.prog main F Stop (G ((Go.Conc.base 5).at ⟨A, []⟩ [.code qns9, .inLoop qns9, .inBlock 0, .code qns18]) cs) (w.alloc (.cells #[.int .i64 0] 39))) :
    Own Try.prog main F Stop (G ((Go.Conc.base 5).at ⟨A, []⟩ [.code qns9, .inLoop qns9, .inBlock 0, .code qns18]) cs) w := by
  obtain ⟨hsz, h0, h4, h5, _⟩ := hA
  obtain ⟨s, rfl⟩ := qnT_of hsz
  change s 0 = _ at h0
  change s 4 = _ at h4
  change s 5 = _ at h5
  clear hsz
  simp only [qnT, h0, h4, h5]
  clear h0 h4 h5
  rw [qns9_eq]
  refine own_go rfl (fun d => stepG_seq) ?_
  rw [qns10_eq]
  refine own_go rfl (fun d => stepG_seq) ?_
  rw [qnr6_eq]
  refine own_go rfl (fun d => stepG_region) ?_
  simp only [qno6, Code.opsOf, qnr6, Code.piece, qnBody, Try.f5, Option.getD_some, List.size_toArray, List.length_cons, List.length_nil, Nat.reduceAdd, Nat.zero_add, List.range, List.range.loop]
  (refine oWd rfl rfl (by decide) fun dd K hK => ?_; go_simp; refine hK _ _ ⟨⟨⟨0, Grew.refl _ _⟩, fun e he => by (have hm := mem_listed he; simp [go_sem] at hm)⟩, Own.at ?_ dd⟩; clear hK K)
  (refine oWd rfl rfl (by decide) fun dd K hK => ?_; go_simp; refine hK _ _ ⟨⟨⟨0, Grew.refl _ _⟩, fun e he => by (have hm := mem_listed he; simp [go_sem] at hm)⟩, Own.at ?_ dd⟩; clear hK K)
  (refine oWd rfl rfl (by decide) fun dd K hK => ?_; go_simp; refine hK _ _ ⟨⟨⟨0, Grew.refl _ _⟩, fun e he => by (have hm := mem_listed he; simp [go_sem] at hm)⟩, Own.at ?_ dd⟩; clear hK K)
  (refine oWd rfl rfl (by decide) fun dd K hK => ?_; go_simp; refine hK _ _ ⟨⟨⟨0, Grew.refl _ _⟩, fun e he => by (have hm := mem_listed he; simp [go_sem] at hm)⟩, Own.at ?_ dd⟩; clear hK K)
  refine own_go rfl (fun d => stepG_region_end) ?_
  rw [qnc19_eq]
  refine own_go rfl (fun d => stepG_cond (t := true) rfl) ?_
  simp only [if_true]
  refine own_go rfl (fun d => stepG_skip) ?_
  rw [qns11_eq]
  refine own_go rfl (fun d => stepG_seq) ?_
  rw [qnb1_eq]
  refine own_go rfl (fun d => stepG_block) ?_
  rw [qns12_eq]
  refine own_go rfl (fun d => stepG_seq) ?_
  rw [qnr8_eq]
  refine own_go rfl (fun d => stepG_region) ?_
  simp only [qno8, Code.opsOf, qnr8, Code.piece, qnBody, Try.f5, Option.getD_some, List.size_toArray, List.length_cons, List.length_nil, Nat.reduceAdd, Nat.zero_add, List.range, List.range.loop]
  (refine oWd rfl rfl (by decide) fun dd K hK => ?_; go_simp; refine hK _ _ ⟨⟨⟨0, Grew.refl _ _⟩, fun e he => by (have hm := mem_listed he; simp [go_sem] at hm)⟩, Own.at ?_ dd⟩; clear hK K)
  (refine oWd rfl rfl (by decide) fun dd K hK => ?_; go_simp; refine hK _ _ ⟨⟨⟨0, grew_alloc hU (by first | (simp [go_sem]; done) | (simp [go_sem]; omega)) _⟩, fun e he => by (have hm := mem_listed he; simp [go_sem, storedEv] at hm)⟩, ?_⟩; clear hK K; rw [alloc_at']; refine Own.at ?_ dd)
  have hs : At (w.alloc (.cells #[.int .i64 0] 39)) ⟨w.heap.size, 0, none⟩ (.int .i64 0) := ⟨by simp [go_sem], by simp [go_sem]⟩
  replace hl := hl.alloc (.cells #[.int .i64 0] 39)
  replace hv := hv.alloc (.cells #[.int .i64 0] 39)
  generalize w.alloc (.cells #[.int .i64 0] 39) = W at hl hv hs h ⊢
  generalize w.heap.size = T at hs h ⊢
  (refine oWd rfl rfl (by decide) fun dd K hK => ?_; go_simp; refine hK _ _ ⟨⟨⟨0, Grew.refl _ _⟩, fun e he => by (have hm := mem_listed he; simp [go_sem] at hm)⟩, Own.at ?_ dd⟩; clear hK K)
  refine own_go rfl (fun d => stepG_region_end) ?_
  rw [qns13_eq]
  refine own_go rfl (fun d => stepG_seq) ?_
  rw [qnr9_eq]
  refine own_go rfl (fun d => stepG_region) ?_
  simp only [qno9, Code.opsOf, qnr9, Code.piece, qnBody, Try.f5, Option.getD_some, List.size_toArray, List.length_cons, List.length_nil, Nat.reduceAdd, Nat.zero_add, List.range, List.range.loop]
  (refine oWd rfl rfl (by decide) fun dd K hK => ?_; go_simp; refine hK _ _ ⟨⟨⟨0, Grew.refl _ _⟩, fun e he => by (have hm := mem_listed he; simp [go_sem] at hm)⟩, Own.at ?_ dd⟩; clear hK K)
  (refine oWd rfl rfl (by decide) fun dd K hK => ?_; go_simp; refine hK _ _ ⟨⟨⟨0, Grew.refl _ _⟩, fun e he => by (have hm := mem_listed he; simp [go_sem] at hm)⟩, Own.at ?_ dd⟩; clear hK K)
  (refine oWd rfl rfl (by decide) fun dd K hK => ?_; go_simp; refine hK _ _ ⟨⟨⟨0, Grew.refl _ _⟩, fun e he => by (have hm := mem_listed he; simp [go_sem, *] at hm)⟩, Own.at ?_ dd⟩; clear hK K)
  (refine oWd rfl rfl (by decide) fun dd K hK => ?_; have c0 := ((hl).at dd).c; have z0 := ((hl).at dd).z; go_simp; refine hK _ _ ⟨⟨⟨0, Grew.refl _ _⟩, fun e he => by (have hm := mem_listed he; clear he hK; simp [go_sem, c0, z0] at hm; subst hm; exact evT_read _ _)⟩, Own.at ?_ dd⟩; clear hK K c0 z0)
  (refine oWd rfl rfl (by decide) fun dd K hK => ?_; go_simp; refine hK _ _ ⟨⟨⟨0, Grew.refl _ _⟩, fun e he => by (have hm := mem_listed he; simp [go_sem] at hm)⟩, Own.at ?_ dd⟩; clear hK K)
  refine own_go rfl (fun d => stepG_region_end) ?_
  rw [qns14_eq]
  refine own_go rfl (fun d => stepG_seq) ?_
  rw [qnr10_eq]
  refine own_go rfl (fun d => stepG_region) ?_
  simp only [qno10, Code.opsOf, qnr10, Code.piece, qnBody, Try.f5, Option.getD_some, List.size_toArray, List.length_cons, List.length_nil, Nat.reduceAdd, Nat.zero_add, List.range, List.range.loop]
  (refine oWd rfl rfl (by decide) fun dd K hK => ?_; go_simp; refine hK _ _ ⟨⟨⟨0, Grew.refl _ _⟩, fun e he => by (have hm := mem_listed he; simp [go_sem] at hm)⟩, Own.at ?_ dd⟩; clear hK K)
  (refine oWd rfl rfl (by decide) fun dd K hK => ?_; go_simp; refine hK _ _ ⟨⟨⟨0, Grew.refl _ _⟩, fun e he => by (have hm := mem_listed he; simp [go_sem] at hm)⟩, Own.at ?_ dd⟩; clear hK K)
  (refine oWd rfl rfl (by decide) fun dd K hK => ?_; go_simp; refine hK _ _ ⟨⟨⟨0, Grew.refl _ _⟩, fun e he => by (have hm := mem_listed he; simp [go_sem] at hm)⟩, Own.at ?_ dd⟩; clear hK K)
  (refine oWd rfl rfl (by decide) fun dd K hK => ?_; go_simp; refine hK _ _ ⟨⟨⟨0, Grew.refl _ _⟩, fun e he => by (have hm := mem_listed he; simp [go_sem] at hm)⟩, Own.at ?_ dd⟩; clear hK K)
  refine own_call (f := 25) (args := #[v, .iface 37 (.pointer (some ⟨T, 0, none⟩)), .int .i64 x]) rfl rfl (by decide) (fun w => by simp [execOp, Act.eval, resolve, invoke, Deferred.ofValue, callable25.run]) (fun w => by simp [execOp, Act.eval, resolve, invoke, Deferred.ofValue, callable25.run, callable25.quiet]) ?_
  refine put_none hv ?_
  rw [Frame.finish_at]
  walk_nrm
  refine own_go rfl (fun d => stepG_region_end) ?_
  rw [qns15_eq]
  refine own_go rfl (fun d => stepG_seq) ?_
  rw [qnr11_eq]
  refine own_go rfl (fun d => stepG_region) ?_
  simp only [qno11, Code.opsOf, qnr11, Code.piece, qnBody, Try.f5, Option.getD_some, List.size_toArray, List.length_cons, List.length_nil, Nat.reduceAdd, Nat.zero_add, List.range, List.range.loop]
  (refine oWd rfl rfl (by decide) fun dd K hK => ?_; go_simp; refine hK _ _ ⟨⟨⟨0, Grew.refl _ _⟩, fun e he => by (have hm := mem_listed he; simp [go_sem] at hm)⟩, Own.at ?_ dd⟩; clear hK K)
  (refine oWd rfl rfl (by decide) fun dd K hK => ?_; go_simp; refine hK _ _ ⟨⟨⟨0, Grew.refl _ _⟩, fun e he => by (have hm := mem_listed he; simp [go_sem] at hm)⟩, Own.at ?_ dd⟩; clear hK K)
  (refine oWd rfl rfl (by decide) fun dd K hK => ?_; go_simp; refine hK _ _ ⟨⟨⟨0, Grew.refl _ _⟩, fun e he => by (have hm := mem_listed he; simp [go_sem] at hm)⟩, Own.at ?_ dd⟩; clear hK K)
  refine own_call (f := 26) (args := #[v, .iface 37 (.pointer (some ⟨T, 0, none⟩))]) rfl rfl (by decide) (fun w => by simp [execOp, Act.eval, resolve, invoke, Deferred.ofValue, callable26.run]) (fun w => by simp [execOp, Act.eval, resolve, invoke, Deferred.ofValue, callable26.run, callable26.quiet]) ?_
  refine tak_none hv ?_
  rw [Frame.finish_at]
  walk_nrm
  (refine oWd rfl rfl (by decide) fun dd K hK => ?_; go_simp; refine hK _ _ ⟨⟨⟨0, Grew.refl _ _⟩, fun e he => by (have hm := mem_listed he; simp [go_sem] at hm)⟩, Own.at ?_ dd⟩; clear hK K)
  (refine oWd rfl rfl (by decide) fun dd K hK => ?_; go_simp; refine hK _ _ ⟨⟨⟨0, Grew.refl _ _⟩, fun e he => by (have hm := mem_listed he; simp [go_sem] at hm)⟩, Own.at ?_ dd⟩; clear hK K)
  (refine oWd rfl rfl (by decide) fun dd K hK => ?_; go_simp; refine hK _ _ ⟨⟨⟨0, Grew.refl _ _⟩, fun e he => by (have hm := mem_listed he; simp [go_sem] at hm)⟩, Own.at ?_ dd⟩; clear hK K)
  (refine oWd rfl rfl (by decide) fun dd K hK => ?_; go_simp; refine hK _ _ ⟨⟨⟨0, Grew.refl _ _⟩, fun e he => by (have hm := mem_listed he; simp [go_sem] at hm)⟩, Own.at ?_ dd⟩; clear hK K)
  (refine oWd rfl rfl (by decide) fun dd K hK => ?_; go_simp; refine hK _ _ ⟨⟨⟨0, Grew.refl _ _⟩, fun e he => by (have hm := mem_listed he; simp [go_sem] at hm)⟩, Own.at ?_ dd⟩; clear hK K)
  refine own_go rfl (fun d => stepG_region_end) ?_
  rw [qns16_eq]
  refine own_go rfl (fun d => stepG_seq) ?_
  rw [qnr12_eq]
  refine own_go rfl (fun d => stepG_region) ?_
  simp only [qno12, Code.opsOf, qnr12, Code.piece, qnBody, Try.f5, Option.getD_some, List.size_toArray, List.length_cons, List.length_nil, Nat.reduceAdd, Nat.zero_add, List.range, List.range.loop]
  (refine oWd rfl rfl (by decide) fun dd K hK => ?_; go_simp; refine hK _ _ ⟨⟨⟨0, Grew.refl _ _⟩, fun e he => by (have hm := mem_listed he; simp [go_sem] at hm)⟩, Own.at ?_ dd⟩; clear hK K)
  (refine oWd rfl rfl (by decide) fun dd K hK => ?_; go_simp; refine hK _ _ ⟨⟨⟨0, Grew.refl _ _⟩, fun e he => by (have hm := mem_listed he; simp [go_sem] at hm)⟩, Own.at ?_ dd⟩; clear hK K)
  (refine oWd rfl rfl (by decide) fun dd K hK => ?_; go_simp; refine hK _ _ ⟨⟨⟨0, Grew.refl _ _⟩, fun e he => by (have hm := mem_listed he; simp [go_sem] at hm)⟩, Own.at ?_ dd⟩; clear hK K)
  (refine oWd rfl rfl (by decide) fun dd K hK => ?_; go_simp; refine hK _ _ ⟨⟨⟨0, Grew.refl _ _⟩, fun e he => by (have hm := mem_listed he; simp [go_sem] at hm)⟩, Own.at ?_ dd⟩; clear hK K)
  (refine oWd rfl rfl (by decide) fun dd K hK => ?_; go_simp; refine hK _ _ ⟨⟨⟨0, Grew.refl _ _⟩, fun e he => by (have hm := mem_listed he; simp [go_sem] at hm)⟩, Own.at ?_ dd⟩; clear hK K)
  (refine oWd rfl rfl (by decide) fun dd K hK => ?_; go_simp; refine hK _ _ ⟨⟨⟨0, Grew.refl _ _⟩, fun e he => by (have hm := mem_listed he; simp [go_sem] at hm)⟩, Own.at ?_ dd⟩; clear hK K)
  (refine oWd rfl rfl (by decide) fun dd K hK => ?_; go_simp; refine hK _ _ ⟨⟨⟨0, Grew.refl _ _⟩, fun e he => by (have hm := mem_listed he; simp [go_sem] at hm)⟩, Own.at ?_ dd⟩; clear hK K)
  (refine oWd rfl rfl (by decide) fun dd K hK => ?_; go_simp; refine hK _ _ ⟨⟨⟨0, Grew.refl _ _⟩, fun e he => by (have hm := mem_listed he; simp [go_sem] at hm)⟩, Own.at ?_ dd⟩; clear hK K)
  (refine oWd rfl rfl (by decide) fun dd K hK => ?_; go_simp; refine hK _ _ ⟨⟨⟨0, Grew.refl _ _⟩, fun e he => by (have hm := mem_listed he; simp [go_sem] at hm)⟩, Own.at ?_ dd⟩; clear hK K)
  (refine oWd rfl rfl (by decide) fun dd K hK => ?_; go_simp; refine hK _ _ ⟨⟨⟨0, Grew.refl _ _⟩, fun e he => by (have hm := mem_listed he; simp [go_sem] at hm)⟩, Own.at ?_ dd⟩; clear hK K)
  refine own_call (f := 27) (args := #[v, .iface 37 (.pointer (some ⟨T, 0, none⟩))]) rfl rfl (by decide) (fun w => by simp [execOp, Act.eval, resolve, invoke, Deferred.ofValue, callable27.run]) (fun w => by simp [execOp, Act.eval, resolve, invoke, Deferred.ofValue, callable27.run, callable27.quiet]) ?_
  refine emp_none hv ?_
  rw [Frame.finish_at]
  walk_nrm
  (refine oWd rfl rfl (by decide) fun dd K hK => ?_; go_simp; refine hK _ _ ⟨⟨⟨0, Grew.refl _ _⟩, fun e he => by (have hm := mem_listed he; simp [go_sem] at hm)⟩, Own.at ?_ dd⟩; clear hK K)
  (refine oWd rfl rfl (by decide) fun dd K hK => ?_; go_simp; refine hK _ _ ⟨⟨⟨0, Grew.refl _ _⟩, fun e he => by (have hm := mem_listed he; simp [go_sem] at hm)⟩, Own.at ?_ dd⟩; clear hK K)
  (refine oWd rfl rfl (by decide) fun dd K hK => ?_; go_simp; refine hK _ _ ⟨⟨⟨0, Grew.refl _ _⟩, fun e he => by (have hm := mem_listed he; simp [go_sem] at hm)⟩, Own.at ?_ dd⟩; clear hK K)
  (refine oWd rfl rfl (by decide) fun dd K hK => ?_; go_simp; refine hK _ _ ⟨⟨⟨0, Grew.refl _ _⟩, fun e he => by (have hm := mem_listed he; simp [go_sem] at hm)⟩, Own.at ?_ dd⟩; clear hK K)
  refine own_call (f := 23) (args := #[v]) rfl rfl (by decide) (fun w => by simp [execOp, Act.eval, resolve, invoke, Deferred.ofValue, callable23.run]) (fun w => by simp [execOp, Act.eval, resolve, invoke, Deferred.ofValue, callable23.run, callable23.quiet]) ?_
  refine va_none hv ?_
  rw [Frame.finish_at]
  walk_nrm
  (refine oWd rfl rfl (by decide) fun dd K hK => ?_; go_simp; refine hK _ _ ⟨⟨⟨0, Grew.refl _ _⟩, fun e he => by (have hm := mem_listed he; simp [go_sem] at hm)⟩, Own.at ?_ dd⟩; clear hK K)
  (refine oWd rfl rfl (by decide) fun dd K hK => ?_; go_simp; refine hK _ _ ⟨⟨⟨0, Grew.refl _ _⟩, fun e he => by (have hm := mem_listed he; simp [go_sem] at hm)⟩, Own.at ?_ dd⟩; clear hK K)
  (refine oWd rfl rfl (by decide) fun dd K hK => ?_; go_simp; refine hK _ _ ⟨⟨⟨0, Grew.refl _ _⟩, fun e he => by (have hm := mem_listed he; simp [go_sem] at hm)⟩, Own.at ?_ dd⟩; clear hK K)
  (refine oWd rfl rfl (by decide) fun dd K hK => ?_; go_simp; refine hK _ _ ⟨⟨⟨0, Grew.refl _ _⟩, fun e he => by (have hm := mem_listed he; simp [go_sem] at hm)⟩, Own.at ?_ dd⟩; clear hK K)
  (refine oWd rfl rfl (by decide) fun dd K hK => ?_; go_simp; refine hK _ _ ⟨⟨⟨0, Grew.refl _ _⟩, fun e he => by (have hm := mem_listed he; simp [go_sem] at hm)⟩, Own.at ?_ dd⟩; clear hK K)
  refine own_call (f := 22) (args := #[v]) rfl rfl (by decide) (fun w => by simp [execOp, Act.eval, resolve, invoke, Deferred.ofValue, callable22.run]) (fun w => by simp [execOp, Act.eval, resolve, invoke, Deferred.ofValue, callable22.run, callable22.quiet]) ?_
  refine bh_none hv ?_
  rw [Frame.finish_at]
  walk_nrm
  (refine oWd rfl rfl (by decide) fun dd K hK => ?_; go_simp; refine hK _ _ ⟨⟨⟨0, Grew.refl _ _⟩, fun e he => by (have hm := mem_listed he; simp [go_sem] at hm)⟩, Own.at ?_ dd⟩; clear hK K)
  (refine oWd rfl rfl (by decide) fun dd K hK => ?_; go_simp; refine hK _ _ ⟨⟨⟨0, Grew.refl _ _⟩, fun e he => by (have hm := mem_listed he; simp [go_sem] at hm)⟩, Own.at ?_ dd⟩; clear hK K)
  (refine oWd rfl rfl (by decide) fun dd K hK => ?_; go_simp; refine hK _ _ ⟨⟨⟨0, Grew.refl _ _⟩, fun e he => by (have hm := mem_listed he; simp [go_sem] at hm)⟩, Own.at ?_ dd⟩; clear hK K)
  (refine oWd rfl rfl (by decide) fun dd K hK => ?_; go_simp; refine hK _ _ ⟨⟨⟨0, Grew.refl _ _⟩, fun e he => by (have hm := mem_listed he; simp [go_sem] at hm)⟩, Own.at ?_ dd⟩; clear hK K)
  (refine oWd rfl rfl (by decide) fun dd K hK => ?_; go_simp; refine hK _ _ ⟨⟨⟨0, Grew.refl _ _⟩, fun e he => by (have hm := mem_listed he; simp [go_sem] at hm)⟩, Own.at ?_ dd⟩; clear hK K)
  (refine oWd rfl rfl (by decide) fun dd K hK => ?_; go_simp; refine hK _ _ ⟨⟨⟨0, Grew.refl _ _⟩, fun e he => by (have hm := mem_listed he; simp [go_sem] at hm)⟩, Own.at ?_ dd⟩; clear hK K)
  (refine oWd rfl rfl (by decide) fun dd K hK => ?_; have c0 := ((hs).at dd).c; have z0 := ((hs).at dd).z; go_simp; refine hK _ _ ⟨⟨⟨0, Grew.refl _ _⟩, fun e he => by (have hm := mem_listed he; clear he hK; simp [go_sem, c0, z0] at hm; subst hm; exact evT_read _ _)⟩, Own.at ?_ dd⟩; clear hK K c0 z0)
  (refine oWd rfl rfl (by decide) fun dd K hK => ?_; go_simp; refine hK _ _ ⟨⟨⟨0, Grew.refl _ _⟩, fun e he => by (have hm := mem_listed he; simp [go_sem] at hm)⟩, Own.at ?_ dd⟩; clear hK K)
  (refine oWd rfl rfl (by decide) fun dd K hK => ?_; go_simp; refine hK _ _ ⟨⟨⟨0, Grew.refl _ _⟩, fun e he => by (have hm := mem_listed he; simp [go_sem] at hm)⟩, Own.at ?_ dd⟩; clear hK K)
  refine own_go rfl (fun d => stepG_region_end) ?_
  rw [qnc70_eq]
  refine own_go rfl (fun d => stepG_cond (t := false) rfl) ?_
  simp only [Bool.false_eq_true, if_false]
  refine own_go rfl (fun d => stepG_skip) ?_
  refine own_go rfl (fun d => stepG_inBlock) ?_
  rw [qnr7_eq]
  refine own_go rfl (fun d => stepG_region) ?_
  simp only [qno7, Code.opsOf, qnr7, Code.piece, qnBody, Try.f5, Option.getD_some, List.size_toArray, List.length_cons, List.length_nil, Nat.reduceAdd, Nat.zero_add, List.range, List.range.loop]
  (refine oWd rfl rfl (by decide) fun dd K hK => ?_; go_simp; refine hK _ _ ⟨⟨⟨0, Grew.refl _ _⟩, fun e he => by (have hm := mem_listed he; simp [go_sem] at hm)⟩, Own.at ?_ dd⟩; clear hK K)
  (refine oWd rfl rfl (by decide) fun dd K hK => ?_; go_simp; refine hK _ _ ⟨⟨⟨0, Grew.refl _ _⟩, fun e he => by (have hm := mem_listed he; simp [go_sem] at hm)⟩, Own.at ?_ dd⟩; clear hK K)
  (refine oWd rfl rfl (by decide) fun dd K hK => ?_; go_simp; refine hK _ _ ⟨⟨⟨0, Grew.refl _ _⟩, fun e he => by (have hm := mem_listed he; simp [go_sem] at hm)⟩, Own.at ?_ dd⟩; clear hK K)
  refine own_go rfl (fun d => stepG_region_end) ?_
  refine own_go rfl (fun d => stepG_inLoop) ?_
  refine h _ ?_
  exact ⟨rfl, rfl, rfl, rfl, trivial⟩
set_option maxRecDepth 100000 in
set_option maxHeartbeats 2000000 in
theorem qn_3 {x : Int} {lb : Nat} {A : Array Value} (hA : Slots 71 A [(0, .int .i64 x), (4, .slice (some ⟨lb, 0, none⟩) 2 2), (5, .int .i64 2)]) {cs : List Frame} {main : Bool} {Stop : Goroutine → World → Prop}
    (h : ∀ A, Slots 71 A [(2, .bool true)] → Own Try.prog main F Stop (G { (Go.Conc.base 5).at ⟨A, []⟩ [.code .ret] with mode := .returning } cs) w) :
    Own Try.prog main F Stop (G ((Go.Conc.base 5).at ⟨A, []⟩ [.code qns9, .inLoop qns9, .inBlock 0, .code qns18]) cs) w := by
  obtain ⟨hsz, h0, h4, h5, _⟩ := hA
  obtain ⟨s, rfl⟩ := qnT_of hsz
  change s 0 = _ at h0
  change s 4 = _ at h4
  change s 5 = _ at h5
  clear hsz
  simp only [qnT, h0, h4, h5]
  clear h0 h4 h5
  rw [qns9_eq]
  refine own_go rfl (fun d => stepG_seq) ?_
  rw [qns10_eq]
  refine own_go rfl (fun d => stepG_seq) ?_
  rw [qnr6_eq]
  refine own_go rfl (fun d => stepG_region) ?_
  simp only [qno6, Code.opsOf, qnr6, Code.piece, qnBody, Try.f5, Option.getD_some, List.size_toArray, List.length_cons, List.length_nil, Nat.reduceAdd, Nat.zero_add, List.range, List.range.loop]
  (refine oWd rfl rfl (by decide) fun dd K hK => ?_; go_simp; refine hK _ _ ⟨⟨⟨0, Grew.refl _ _⟩, fun e he => by (have hm := mem_listed he; simp [go_sem] at hm)⟩, Own.at ?_ dd⟩; clear hK K)
  (refine oWd rfl rfl (by decide) fun dd K hK => ?_; go_simp; refine hK _ _ ⟨⟨⟨0, Grew.refl _ _⟩, fun e he => by (have hm := mem_listed he; simp [go_sem] at hm)⟩, Own.at ?_ dd⟩; clear hK K)
  (refine oWd rfl rfl (by decide) fun dd K hK => ?_; go_simp; refine hK _ _ ⟨⟨⟨0, Grew.refl _ _⟩, fun e he => by (have hm := mem_listed he; simp [go_sem] at hm)⟩, Own.at ?_ dd⟩; clear hK K)
  (refine oWd rfl rfl (by decide) fun dd K hK => ?_; go_simp; refine hK _ _ ⟨⟨⟨0, Grew.refl _ _⟩, fun e he => by (have hm := mem_listed he; simp [go_sem] at hm)⟩, Own.at ?_ dd⟩; clear hK K)
  refine own_go rfl (fun d => stepG_region_end) ?_
  rw [qnc19_eq]
  refine own_go rfl (fun d => stepG_cond (t := false) rfl) ?_
  simp only [Bool.false_eq_true, if_false]
  refine own_go rfl (fun d => stepG_exit rfl) ?_
  rw [qns18_eq]
  refine own_go rfl (fun d => stepG_seq) ?_
  rw [qnr14_eq]
  refine own_go rfl (fun d => stepG_region) ?_
  simp only [qno14, Code.opsOf, qnr14, Code.piece, qnBody, Try.f5, Option.getD_some, List.size_toArray, List.length_cons, List.length_nil, Nat.reduceAdd, Nat.zero_add, List.range, List.range.loop]
  (refine oWd rfl rfl (by decide) fun dd K hK => ?_; go_simp; refine hK _ _ ⟨⟨⟨0, Grew.refl _ _⟩, fun e he => by (have hm := mem_listed he; simp [go_sem] at hm)⟩, Own.at ?_ dd⟩; clear hK K)
  refine own_go rfl (fun d => stepG_region_end) ?_
  refine own_go rfl (fun d => stepG_ret') ?_
  refine h _ ?_
  exact ⟨rfl, rfl, trivial⟩
end Go.Proofs.Ytcejbandeikdjaa
namespace Go.Proofs.Ytcejbandeikdjaa
open Go Go.Conc Go.RowKit Go.Proofs
theorem bes_good {An : Anchor} {P : Program} {Post : Value → World → Prop} {fr : Frame} {W : World} (hA : An.Holds W)
    (hB : Bes An P (fun g w => g.status = .running ∧ ∀ d, ∃ v, stepG P true g (w.at d) = .ended (.done v) (w.at d) #[] ∧ (An.Holds (w.at d) → Post v (w.at d))) (G fr []) W) :
    ∃ M last o w' t', runNT P (M + 1) (solo (G fr []) W) #[] = (.ended o w', t') ∧ runN P M (solo (G fr []) W) = .next last ∧ step P last = .ended o w' ∧ Go.Conc.Good P Post last o w' t' := by
  rw [solo_eq_crowd]
  obtain ⟨N, gs', g', w', sl', T', q', B', hr, h0', ⟨hrun, hS⟩, hL', hP', hA'⟩ := hB #[G fr []] none #[] (fun _ => 0) 0 rfl (leavers_one _ _) past_nil hA
  obtain ⟨K, last, o, w2, t', e1, e2, e3, e4⟩ := beside_ends (P := P) (Post := Post) (D := fun _ _ es => ∀ e ∈ es, EvL NoShun B' e) (sl := sl') (n := 0) (fun _ _ _ h => h) h0' hL' hP' (Goes.stop fun w₂ r₂ => by
    obtain ⟨d, rfl⟩ := r₂
    obtain ⟨v, h1, h2⟩ := hS d
    exact ⟨hrun, v, #[], h1, by simp, h2 (hA'.at d)⟩)
  refine ⟨N + K, last, o, w2, t', ?_, ?_, e3, e4⟩
  · rw [Nat.add_assoc, runNT_add, hr]; exact e1
  · rw [runN_add, ← runNT_fst P _ _ #[], hr]; exact e2
theorem below_of {W w' : World} (h : (⟨W.heap.size, W⟩ : Anchor).Holds w') (hc : ∀ (r : Nat) (c : Array Value) (e : TypeId) (z : Nat × Nat), W.heap[r]? = some (.cells c e z) → w'.heap[r]? = some (.cells c e z)) : Below W.heap.size W w' := by
  refine ⟨h.os, h.tape, h.output, h.low, fun r hr => ?_⟩
  obtain ⟨o, ho⟩ : ∃ o, W.heap[r]? = some o := ⟨_, Array.getElem?_eq_getElem hr⟩
  by_cases e : ∃ c e z, o = .cells c e z
  · obtain ⟨c, e, z, rfl⟩ := e
    rw [hc r c e z ho, ho]
  · rw [h.obj r o hr ho fun c e1 z e2 => e ⟨c, e1, z, e2⟩, ho]
theorem law_ends {f k : Nat} {fn : Func} {A : Array Value} (h2 : ¬ 2 = f) (hf : Try.prog.funcs[f]? = some fn) (hr : fn.results = #[.tmp k]) {v : Value} (hA : A.getD k undef = v) (w : World) :
    stepG Try.prog true (G { (base f).at ⟨A, []⟩ [.code .ret] with mode := .returning } []) w = .ended (.done v) w #[] := by
  subst hA
  simp [G, stepG, unwind, doReturn, results, Frame.at, base, hf, hr, seen, GStep.after, h2]
end Go.Proofs.Ytcejbandeikdjaa
namespace Go.Proofs.Ytcejbandeikdjaa
open Go Go.Conc Go.RowKit Go.Proofs
variable {An : Anchor} {w w' : World}
def awOps : Nat → List Op4 := fun i => if i = 0 then [⟨2, 0, 0, 0⟩, ⟨2, 0, 0, 0⟩] else if i = 1 then [⟨1, 7, 0, 0⟩] else []
def awS : List Int := [1, 1, 1, 0, 0, 0, 0, 0, 0, 0, 0, 1]
def awE : PS × List Nat := pOver awOps 2 100 awS 10 (q00 [5])
theorem awE_done : pDone 2 100 awE := by decide +kernel
theorem awE_order : awE.2.length = 16 := by decide +kernel
theorem awE_ans : (awE.1.th 0).ans = [(true, 5), (true, 7)] := by decide +kernel
theorem awE_live : cnt awE.1.live 2 = 0 := by decide +kernel
theorem awE_tl : awE.1.q.nx awE.1.q.tl = none := by decide +kernel
theorem awE_hd : awE.1.q.nx awE.1.q.hd = none := by decide +kernel
theorem awE_is {t : PS × List Nat} (h : ∃ k, ∀ f, k ≤ f → pOver awOps 2 100 awS f (q00 [5]) = t) : t = awE := by
  obtain ⟨k, hk⟩ := h
  rw [← hk (max k 10) (by omega)]
  exact pRounds_stays 10 _ awE_done (max k 10) (by omega)
theorem aw_old {r : Nat} (h : r < w.heap.size) : (awW w).heap[r]? = w.heap[r]? := by
  simp only [awW]
  rw [heap_alloc_lt _ _ (by simp; try omega), heap_alloc_lt _ _ (by simp; try omega), heap_alloc_lt _ _ (by simp; try omega), heap_alloc_lt _ _ (by simp; try omega), heap_alloc_lt _ _ h]
theorem aw_size : (awW w).heap.size = w.heap.size + 5 := by simp [awW]
theorem aw_b0 : (awW w).heap[w.heap.size]? = some (.cells #[.int .i64 5] 2 (0, 0)) := by
  simp only [awW]
  rw [heap_alloc_lt _ _ (by simp; try omega), heap_alloc_lt _ _ (by simp; try omega), heap_alloc_lt _ _ (by simp; try omega), heap_alloc_lt _ _ (by simp; try omega)]
  exact heap_alloc_new _ _
theorem new_at {X : World} {k : Nat} (h : X.heap.size = k) (o : Obj) : (X.alloc o).heap[k]? = some o := h ▸ heap_alloc_new _ _
theorem aw_b1 : (awW w).heap[w.heap.size + 1]? = some (.cells #[.int .i64 2, .int .i64 0, .int .i64 0, .int .i64 0, .int .i64 2, .int .i64 0, .int .i64 0, .int .i64 0] 44 (0, 0)) := by
  simp only [awW]
  rw [heap_alloc_lt _ _ (by simp; try omega), heap_alloc_lt _ _ (by simp; try omega), heap_alloc_lt _ _ (by simp; try omega)]
  exact new_at (by simp) _
theorem aw_b2 : (awW w).heap[w.heap.size + 2]? = some (.cells #[.int .i64 1, .int .i64 7, .int .i64 0, .int .i64 0] 44 (0, 0)) := by
  simp only [awW]
  rw [heap_alloc_lt _ _ (by simp; try omega), heap_alloc_lt _ _ (by simp; try omega)]
  exact new_at (by simp) _
theorem aw_b3 : (awW w).heap[w.heap.size + 3]? = some (.cells #[.slice (some ⟨w.heap.size + 1, 0, none⟩) 2 2, .slice (some ⟨w.heap.size + 2, 0, none⟩) 1 1] 32 (0, 0)) := by
  simp only [awW]
  rw [heap_alloc_lt _ _ (by simp; try omega)]
  exact new_at (by simp) _
theorem aw_b4 : (awW w).heap[w.heap.size + 4]? = some (.cells #[.int .i64 1, .int .i64 1, .int .i64 1, .int .i64 0, .int .i64 0, .int .i64 0, .int .i64 0, .int .i64 0, .int .i64 0, .int .i64 0, .int .i64 0, .int .i64 1] 3 (0, 0)) := by
  simp only [awW]
  exact new_at (by simp) _
theorem cell_of {u : World} {b k : Nat} {c : Array Value} {e : TypeId} {v : Value} (h : u.heap[b]? = some (.cells c e (0, 0))) (hc : c[k]? = some v) : At u ⟨b, k, none⟩ v := by
  constructor
  · simp only [World.cell?, h]; simpa using hc
  · simp [World.frozen?, h]
theorem aw_in (d : Nat) : OpsIn ((awW w).at d) (fun _ => False) 2 (w.heap.size + 3) 0 2 (some ⟨w.heap.size + 3, 0, none⟩) (fun i => some ⟨w.heap.size + 1 + i, 0, none⟩) (fun i => if i = 0 then 2 else 1) (fun i => if i = 0 then 2 else 1) awOps awS (some ⟨w.heap.size + 4, 0, none⟩) := by
  have h1 : ((awW w).at d).heap[w.heap.size + 1]? = _ := aw_b1
  have h2 : ((awW w).at d).heap[w.heap.size + 2]? = _ := aw_b2
  have h3 : ((awW w).at d).heap[w.heap.size + 3]? = _ := aw_b3
  have h4 : ((awW w).at d).heap[w.heap.size + 4]? = _ := aw_b4
  refine ⟨rfl, fun _ => rfl, fun _ => by show _ < (awW w).heap.size; rw [aw_size]; omega, fun j hj => ?_, fun j hj => ?_, fun j hj k x hx => ?_, by decide, fun _ => ⟨_, _, _, _, _, rfl, id, h4, fun k u hu => ?_⟩⟩
  · have : j = 0 ∨ j = 1 := by omega
    rcases this with rfl | rfl
    · exact ⟨(cell_of h3 rfl).c, (cell_of (k := 0) h3 rfl).z, Nat.le_refl _⟩
    · exact ⟨(cell_of h3 rfl).c, (cell_of (k := 1) h3 rfl).z, Nat.le_refl _⟩
  · have : j = 0 ∨ j = 1 := by omega
    rcases this with rfl | rfl <;> rfl
  · have : j = 0 ∨ j = 1 := by omega
    rcases this with rfl | rfl
    · have hk : k = 0 ∨ k = 1 := by
        have := (List.getElem?_eq_some_iff.1 hx).1
        simp [awOps] at this
        omega
      rcases hk with rfl | rfl
      · obtain rfl : (⟨2, 0, 0, 0⟩ : Op4) = x := by simpa [awOps] using hx
        exact ⟨_, _, rfl, id, (cell_of h1 rfl).c, (cell_of h1 rfl).c, (cell_of h1 rfl).c, (cell_of h1 rfl).c, (cell_of (k := 0) h1 rfl).z, (cell_of (k := 1) h1 rfl).z, (cell_of (k := 2) h1 rfl).z, (cell_of (k := 3) h1 rfl).z⟩
      · obtain rfl : (⟨2, 0, 0, 0⟩ : Op4) = x := by simpa [awOps] using hx
        exact ⟨_, _, rfl, id, (cell_of h1 rfl).c, (cell_of h1 rfl).c, (cell_of h1 rfl).c, (cell_of h1 rfl).c, (cell_of (k := 4) h1 rfl).z, (cell_of (k := 5) h1 rfl).z, (cell_of (k := 6) h1 rfl).z, (cell_of (k := 7) h1 rfl).z⟩
    · have hk : k = 0 := by
        have := (List.getElem?_eq_some_iff.1 hx).1
        simp [awOps] at this
        omega
      subst hk
      obtain rfl : (⟨1, 7, 0, 0⟩ : Op4) = x := by simpa [awOps] using hx
      exact ⟨_, _, rfl, id, (cell_of h2 rfl).c, (cell_of h2 rfl).c, (cell_of h2 rfl).c, (cell_of h2 rfl).c, (cell_of (k := 0) h2 rfl).z, (cell_of (k := 1) h2 rfl).z, (cell_of (k := 2) h2 rfl).z, (cell_of (k := 3) h2 rfl).z⟩
  · refine ⟨?_, by simp⟩
    rw [Nat.zero_add]
    have e : (#[.int .i64 1, .int .i64 1, .int .i64 1, .int .i64 0, .int .i64 0, .int .i64 0, .int .i64 0, .int .i64 0, .int .i64 0, .int .i64 0, .int .i64 0, .int .i64 1] : Array Value) = (awS.map fun i : Int => Value.int .i64 i).toArray := rfl
    rw [e]
    simpa using hu
theorem row_get {u : World} {base n size k : Nat} {e : TypeId} {v x : Value} {xs : List Value} (h : u.ownsRow base e size v n xs) (hx : xs[k]? = some x) : ∃ b cap, v = .slice (some ⟨b, 0, none⟩) n cap ∧ At u ⟨b, k, none⟩ x := by
  rcases h.2 with ⟨rfl, rfl⟩ | ⟨b, cap, cur, rfl, h3, h4, h5, h6, h7, h8⟩
  · have := (List.getElem?_eq_some_iff.1 hx).1
    have := h.1
    omega
  · refine ⟨b, cap, rfl, cell_of h4 ?_⟩
    have h9 := (List.getElem?_eq_some_iff.1 hx).1
    rw [← h8, List.getElem?_take_of_lt (by have := h.1; omega)] at hx
    simpa using hx
theorem bes_awake {c : Frame} {cs : List Frame} {Stop : Goroutine → World → Prop} (K : ∀ w', w.heap.size ≤ w'.heap.size → (∀ (r : Nat) (c : Array Value) (e : TypeId) (z : Nat × Nat), w.heap[r]? = some (.cells c e z) → w'.heap[r]? = some (.cells c e z)) → Bes An Try.prog Stop (G (c.finish (.bool true)) cs) w') :
    Bes An Try.prog Stop (G (Frame.enter Try.prog 12 #[] .normal) (c :: cs)) w := by
  refine bes_own (F := F0) (Stop := fun a u => ∃ A d, A.size = 73 ∧ u = (awW w).at d ∧ a = G (Frame.enter Try.prog 14 #[.slice (some ⟨w.heap.size, 0, none⟩) 1 1, .slice (some ⟨w.heap.size + 3, 0, none⟩) 2 2, .slice (some ⟨w.heap.size + 4, 0, none⟩) 12 12, .int .i64 100] .normal) (((Go.Conc.base 12).at ⟨A, []⟩ [.inRegion awo1 [8, 9, 10], .code aws2]) :: c :: cs))
    (aw_0 under_F0 (Nat.zero_le _) fun A hA => .stop fun d => ⟨A, d, hA, rfl, rfl⟩) fun a u ⟨A, d, hA, hu, ha⟩ => ?_
  subst ha
  have hin := aw_in (w := w) d
  have hb0 : ((awW w).at d).heap[w.heap.size]? = _ := aw_b0 (w := w)
  have hol : ∀ r, r < w.heap.size → u.heap[r]? = w.heap[r]? := fun r hr => by rw [hu]; exact aw_old hr
  have hsz : u.heap.size = w.heap.size + 5 := by rw [hu]; exact aw_size
  rw [← hu] at hin hb0
  clear hu
  refine bes_play (vs := [5]) (vb := w.heap.size) (vo := 0) (by decide) (fun _ => rfl) (fun _ => by omega) (fun k v hk => ?_) (n := 2) (M := 100) (S := awS) hin rfl ?_
  · have : k = 0 := by have := (List.getElem?_eq_some_iff.1 hk).1; simpa using this
    subst this
    obtain rfl : 5 = v := by simpa using hk
    exact ⟨(cell_of hb0 rfl).c, (cell_of (k := 0) hb0 rfl).z⟩
  · intro s order hd hov
    have he := awE_is hov
    have e1 : s = awE.1 := congrArg Prod.fst he
    have e2 : order = awE.2 := congrArg Prod.snd he
    subst e1
    subst e2
    rw [awE_tl, awE_hd]
    refine ⟨[], [], .nil, .nil, by decide, by decide, fun aa oa' oc' xa xc w' hP => ?_⟩
    rw [awE_live, awE_order] at *
    obtain ⟨ca, ha1, ha2, ha3⟩ := hP.arr
    obtain ⟨v, hv1, _, hv3⟩ := ha3 0 (by decide)
    rw [awE_ans] at hv3
    obtain ⟨rb, rc, rfl, h1⟩ := row_get (k := 1) hv3 rfl
    obtain ⟨_, _, e4, h4⟩ := row_get (k := 4) hv3 rfl
    cases e4
    obtain ⟨_, _, e3, h3⟩ := row_get (k := 3) hv3 rfl
    cases e3
    obtain ⟨xb, xc', e5, hx⟩ := row_get (k := 0) hP.st rfl
    cases e5
    refine bes_own (F := F0) (Stop := fun a u2 => a = G (c.finish (.bool true)) cs ∧ w'.heap.size ≤ u2.heap.size ∧ ∀ r, r < w'.heap.size → u2.heap[r]? = w'.heap[r]?)
      (aw_1 under_F0 (Nat.zero_le _) (cell_of ha1 hv1) h1 h4 h3 hx hA (.stop fun d => ⟨rfl, ?_, fun r hr => heap_alloc_lt _ _ hr⟩)) fun a u2 ⟨ha, hs2, ho2⟩ => ?_
    · show _ ≤ (w'.alloc _).heap.size
      simp
    · subst ha
      have hsz3 := hP.size
      refine K u2 (by omega) fun r cc e z hr => ?_
      have hlt := (Array.getElem?_eq_some_iff.1 hr).1
      have h6 := hP.old r cc e z ((hol r hlt).trans hr)
      rw [ho2 r (Array.getElem?_eq_some_iff.1 h6).1]
      exact h6
end Go.Proofs.Ytcejbandeikdjaa
namespace Go.Proofs.Ytcejbandeikdjaa
open Go Go.Conc Go.RowKit Go.Proofs
variable {An : Anchor} {W : World}
def LawPost (W : World) (v : Value) (w' : World) : Prop := v = .bool true ∧ ∀ (r : Nat) (c : Array Value) (e : TypeId) (z : Nat × Nat), W.heap[r]? = some (.cells c e z) → w'.heap[r]? = some (.cells c e z)
def LawStop (An : Anchor) (Post : Value → World → Prop) (g : Goroutine) (w : World) : Prop := g.status = .running ∧ ∀ d, ∃ v, stepG Try.prog true g (w.at d) = .ended (.done v) (w.at d) #[] ∧ (An.Holds (w.at d) → Post v (w.at d))
theorem law_stop {f k : Nat} {fn : Func} {A : Array Value} (hf : Try.prog.funcs[f]? = some fn) (hr : fn.results = #[.tmp k]) (h2 : ¬ 2 = f) (hA : A.getD k undef = .bool true) {w : World} (h : ∀ (r : Nat) (c : Array Value) (e : TypeId) (z : Nat × Nat), W.heap[r]? = some (.cells c e z) → w.heap[r]? = some (.cells c e z)) :
    LawStop An (LawPost W) (G { (base f).at ⟨A, []⟩ [.code .ret] with mode := .returning } []) w :=
  ⟨rfl, fun d => ⟨_, law_ends h2 hf hr hA _, fun _ => ⟨rfl, h⟩⟩⟩
theorem bes_nil {x : Int} : Bes An Try.prog (LawStop An (LawPost W)) (G (Frame.enter Try.prog 5 #[.int .i64 x] .normal) []) W := by
  refine bes_own (F := F0) (Stop := fun a u => ∃ A d, Slots 71 A [(0, .int .i64 x)] ∧ u = W.at d ∧ a = G (Frame.enter Try.prog 12 #[] .normal) [(Go.Conc.base 5).at ⟨A, []⟩ [.inRegion qno1 [0, 1], .code qnc11, .code qns4]])
    (qn_0 fun A hA => .stop fun d => ⟨A, d, hA, rfl, rfl⟩) fun a u ⟨A, d, hA, hu, ha⟩ => ?_
  subst ha
  refine bes_awake fun w1 hs hold => ?_
  have hold1 : ∀ (r : Nat) (c : Array Value) (e : TypeId) (z : Nat × Nat), W.heap[r]? = some (.cells c e z) → w1.heap[r]? = some (.cells c e z) := fun r c e z h => hold r c e z (by rw [hu]; exact h)
  refine bes_own (F := F0) (Stop := LawStop An (LawPost W)) ?_ fun a u h => Bes.stop h
  refine qn_1 under_F0 (Nat.zero_le _) hA fun A2 hA2 => ?_
  have hz : (w1.alloc (.cells #[.pointer none, .pointer none] 62)).heap[w1.heap.size]? = some (.cells #[.pointer none, .pointer none] 62 (0, 0)) := heap_alloc_new _ _
  have e0 : ∀ r, r < w1.heap.size → ((w1.alloc (.cells #[.pointer none, .pointer none] 62)).alloc (.cells #[.pointer none, .pointer (some ⟨w1.heap.size, 0, none⟩)] 33)).heap[r]? = w1.heap[r]? := fun r hr => (heap_alloc_lt _ _ (by simp; omega)).trans (heap_alloc_lt _ _ hr)
  have e1 : ((w1.alloc (.cells #[.pointer none, .pointer none] 62)).alloc (.cells #[.pointer none, .pointer (some ⟨w1.heap.size, 0, none⟩)] 33)).heap[w1.heap.size]? = some (.cells #[.pointer none, .pointer none] 62 (0, 0)) := (heap_alloc_lt _ _ (by simp)).trans (heap_alloc_new _ _)
  have e2 : ((w1.alloc (.cells #[.pointer none, .pointer none] 62)).alloc (.cells #[.pointer none, .pointer (some ⟨w1.heap.size, 0, none⟩)] 33)).heap[w1.heap.size + 1]? = some (.cells #[.pointer none, .pointer (some ⟨w1.heap.size, 0, none⟩)] 33 (0, 0)) := new_at (by simp) _
  generalize (w1.alloc (.cells #[.pointer none, .pointer none] 62)).alloc (.cells #[.pointer none, .pointer (some ⟨w1.heap.size, 0, none⟩)] 33) = Wa at e0 e1 e2 ⊢
  have hl0 : At Wa ⟨w1.heap.size + 1, 0, none⟩ (.pointer none) := cell_of e2 rfl
  have hl1 : At Wa ⟨w1.heap.size + 1, 1, none⟩ (.pointer (some ⟨w1.heap.size, 0, none⟩)) := cell_of e2 rfl
  have hq : At Wa ⟨w1.heap.size, 0, none⟩ (.pointer none) := cell_of e1 rfl
  refine qn_20 under_F0 (Nat.zero_le _) (.inl rfl) hl0 hA2 fun A3 hA3 => ?_
  refine qn_21 under_F0 (Nat.zero_le _) (.inr ⟨_, rfl, (hq.alloc _).c⟩) (hl1.alloc _) hA3 fun A4 hA4 => ?_
  refine qn_3 hA4 fun A5 hA5 => .stop fun d => ?_
  refine law_stop Try.func5 rfl (by decide) ?_ fun r c e z h => ?_
  · exact hA5.2.1
  · have h2 := hold1 r c e z h
    have hlt := (Array.getElem?_eq_some_iff.1 h2).1
    have h3 := e0 r hlt
    show ((Wa.alloc _).alloc _).heap[r]? = _
    have h4 : r < Wa.heap.size := (Array.getElem?_eq_some_iff.1 (h3.trans h2)).1
    rw [heap_alloc_lt _ _ (by simp; omega), heap_alloc_lt _ _ h4, h3, h2]
end Go.Proofs.Ytcejbandeikdjaa
namespace Go.Proofs.Ytcejbandeikdjaa
open Go Go.Conc Go.RowKit Go.Proofs
open Go.ChangeShapes Go.WideShapes Go.ChangeAt
theorem Try.own : ownKnob Try.prog.godebug = none := by kernel_rfl
theorem Try.laidOut : laidOutB Try.prog = true := by kernel_rfl
set_option maxRecDepth 100000 in
theorem nil_lifted (os : Os) (started : os.Started) (H : Type) (enc : TypeId × Value → H) :
    ReturnsInLeavingWide {} Try.checked os 5 .any (Rows.queueNilSpec.pre6 enc Try.prog Try.f5 Rows.queueNilRow.domain false) (Rows.queueNilSpec.post enc Try.prog Try.f5 false true false false) := by
  refine returnsInLeavingWide_of_change_sized (C := Try.checked) Try.own started Try.func5
    (ChangeSpec.witness6 (enc := enc) (C := Try.checked) false ⟨#[], #[.int .i64 0], []⟩ 8 (by kernel_rfl) (by kernel_rfl) (by kernel_rfl) (by kernel_rfl)) ?_
  intro W base args ds gs before hval0 hW _ hsz0 _
  have hval : ∀ (j : Nat) t v, Try.f5.params[j]? = some t → args[j]? = some v → Value.okWide Try.prog W .any base t v := hval0
  have hW' := hW
  obtain ⟨p, q, hA0, hV, rfl, _, _⟩ := hW
  have hA : DataW.TrodAll enc Try.prog W 0 (fun _ => true) true Try.f5.params.toList args.toList ds p := hA0
  rw [Try.params5] at hA hval
  obtain ⟨v0, d0, rfl, rfl, h0⟩ := trodAll_one hA
  obtain ⟨rfl, rfl⟩ := trodVars_none hV
  obtain ⟨a, rfl, rfl, rfl, wa⟩ := open_int Try.underlying2 (hval 0 2 v0 rfl rfl) h0
  clear hA0 hval0
  simp only [List.append_nil] at hW'
  obtain ⟨M, last, o, w', t', h1, h2, h3, h4⟩ := bes_good (An := ⟨W.heap.size, W⟩) (Post := fun v w' => LawPost W v w' ∧ (⟨W.heap.size, W⟩ : Anchor).Holds w') (W := W) (fr := Frame.enter Try.prog 5 #[.int .i64 a] .normal) ⟨rfl, rfl, rfl, Nat.le_refl _, fun r o _ h _ => h⟩ (Bes.bind bes_nil fun g w h => Bes.stop ⟨h.1, fun d => by
    obtain ⟨v, e1, e2⟩ := h.2 d
    exact ⟨v, e1, fun hh => ⟨e2 hh, hh⟩⟩⟩)
  refine ⟨M, last, o, w', t', h1, h2, h3, h4.mono fun v hF => ?_⟩
  obtain ⟨⟨rfl, hk⟩, hh⟩ := hF
  have hbelow := below_of hh hk
  refine ⟨_, _, _, [], [], [], hW', ?_, ?_, rfl, hbelow.frame _, fun h => by cases h⟩
  · exact trodAll_mk1 (shut_bool Try.underlying4 true)
  · exact trodAll_mk1 (shut_int Try.underlying2 wa)
theorem queueNil_holds : Rows.QueueNilSaid :=
  OpenClaim.holds_of_wide_leaving 5 Try.f5 rfl rfl rfl rfl rfl rfl rfl ⟨rfl, rfl, rfl, rfl, rfl⟩ rfl rfl rfl rfl rfl (by kernel_rfl) Try.func5 (by kernel_rfl)
    (of_decide_eq_true (by kernel_rfl)) (by unfold Func.isWrapper; first | (rw [if_pos (by decide +kernel)]; kernel_rfl) | (rw [if_neg (by decide +kernel)]; exact ⟨rfl, rfl⟩))
    (fun os started H enc _ => nil_lifted os started H enc)
end Go.Proofs.Ytcejbandeikdjaa
