/-
  QueueNil holds for every number: a nil queue and the zero queue do nothing and no step; the law's own first run of a queue by a schedule (awake) comes to the document's answers. No condition beyond the row's own.
  Part 3 of 6.
-/
import Derived.Test.YtcejbandeikdjaaZB
import Derived.Conc.AppendWalk
import Derived.Conc.AppendEvents3
set_option linter.unusedSimpArgs false
set_option linter.unusedVariables false
namespace Go.Proofs.Ytcejbandeikdjaa
open Go Go.Conc Go.RowKit Go.Proofs
variable {g : Gate} {F : Fz} {w : World}
theorem callable71 : Callable 71 := callable Try.func71 rfl rfl
def stepFn (g : Gate) (v : Mine) : Value := .func (.func 71) #[] #[.pointer (some ⟨v.n, 0, none⟩), .pointer (some ⟨g.tv, 0, none⟩), .pointer (some ⟨v.od, 0, none⟩), .pointer (some ⟨v.mo, 0, none⟩), .pointer (some ⟨v.lf, 0, none⟩)]
def ovRnd (g : Gate) (v : Mine) : List (Nat × Value) := (7, .bool false) :: (13, stepFn g v) :: ovBase g v
def ovSched (g : Gate) (v : Mine) (sch : Value) (sl k : Nat) : List (Nat × Value) := (7, .bool false) :: (13, stepFn g v) :: (76, sch) :: (77, .int .i64 sl) :: (78, .int .i64 k) :: ovBase g v
def ovRnd2 (g : Gate) (v : Mine) (i : Nat) : List (Nat × Value) := (94, .int .i64 g.n) :: (95, .int .i64 i) :: ovRnd g v
def ovEnds (g : Gate) (v : Mine) (st : Bool) (j : Nat) : List (Nat × Value) := (7, .bool st) :: (107, g.sl) :: (108, .int .i64 g.n) :: (109, .int .i64 j) :: ovBase g v
set_option maxRecDepth 100000 in
set_option maxHeartbeats 2000000 in
theorem ov_t1 {v : Mine} {thr : Value} {sa : Option Addr} {sl sc : Nat} {A : Array Value} (hA : Slots 129 A (ovBirth g v thr (.slice sa sl sc) g.n)) {cs : List Frame} {main : Bool} {Stop : Goroutine → World → Prop}
    (h : ∀ A, Slots 129 A (ovSched g v (.slice sa sl sc) sl 0) → Own Try.prog main F Stop (G ((Go.Conc.base 62).at ⟨A, []⟩ [.code ovs25, .inLoop ovs25, .inBlock 4, .code ovs29]) cs) w) : Own Try.prog main F Stop (G ((Go.Conc.base 62).at ⟨A, []⟩ [.code ovs14, .inLoop ovs14, .inBlock 2, .code ovs21]) cs) w := by
  obtain ⟨hsz, h0, h1, h7, h46, h47, h5, h6, h8, h9, h10, h11, _⟩ := hA
  obtain ⟨s, rfl⟩ := ovT_of hsz
  change s 0 = _ at h0
  change s 1 = _ at h1
  change s 7 = _ at h7
  change s 46 = _ at h46
  change s 47 = _ at h47
  change s 5 = _ at h5
  change s 6 = _ at h6
  change s 8 = _ at h8
  change s 9 = _ at h9
  change s 10 = _ at h10
  change s 11 = _ at h11
  clear hsz
  simp only [ovT, h0, h1, h7, h46, h47, h5, h6, h8, h9, h10, h11]
  clear h0 h1 h7 h46 h47 h5 h6 h8 h9 h10 h11
  have hlt : decide ((g.n : Int) < (g.n : Int)) = false := by simp
  rw [ovs14_eq]
  refine own_go rfl (fun d => stepG_seq) ?_
  rw [ovr10_eq]
  refine own_go rfl (fun d => stepG_region) ?_
  simp only [ovo10, Code.opsOf, ovr10, Code.piece, ovBody, Try.f62, Option.getD_some, List.size_toArray, List.length_cons, List.length_nil, Nat.reduceAdd, Nat.zero_add, List.range, List.range.loop]
  (refine oWd rfl rfl (by decide) fun dd K hK => ?_; go_simp; refine hK _ _ ⟨⟨⟨0, Grew.refl _ _⟩, fun e he => by (have hm := mem_listed he; simp [go_sem] at hm)⟩, Own.at ?_ dd⟩; clear hK K)
  refine own_go rfl (fun d => stepG_region_end) ?_
  rw [ovs15_eq]
  refine own_go rfl (fun d => stepG_seq) ?_
  rw [ovc48_eq]
  refine own_go rfl (fun d => stepG_cond (t := false) rfl) ?_
  simp only [Bool.false_eq_true, if_false]
  refine own_go rfl (fun d => stepG_exit rfl) ?_
  rw [ovs21_eq]
  refine own_go rfl (fun d => stepG_seq) ?_
  rw [ovr17_eq]
  refine own_go rfl (fun d => stepG_region) ?_
  simp only [ovo17, Code.opsOf, ovr17, Code.piece, ovBody, Try.f62, Option.getD_some, List.size_toArray, List.length_cons, List.length_nil, Nat.reduceAdd, Nat.zero_add, List.range, List.range.loop]
  (refine oWd rfl rfl (by decide) fun dd K hK => ?_; go_simp; refine hK _ _ ⟨⟨⟨0, Grew.refl _ _⟩, fun e he => by (have hm := mem_listed he; simp [go_sem] at hm)⟩, Own.at ?_ dd⟩; clear hK K)
  (refine oWd rfl rfl (by decide) fun dd K hK => ?_; go_simp; refine hK _ _ ⟨⟨⟨0, Grew.refl _ _⟩, fun e he => by (have hm := mem_listed he; simp [go_sem] at hm)⟩, Own.at ?_ dd⟩; clear hK K)
  refine own_go rfl (fun d => stepG_region_end) ?_
  rw [ovs22_eq]
  refine own_go rfl (fun d => stepG_seq) ?_
  rw [ovs23_eq]
  refine own_go rfl (fun d => stepG_seq) ?_
  rw [ovr18_eq]
  refine own_go rfl (fun d => stepG_region) ?_
  simp only [ovo18, Code.opsOf, ovr18, Code.piece, ovBody, Try.f62, Option.getD_some, List.size_toArray, List.length_cons, List.length_nil, Nat.reduceAdd, Nat.zero_add, List.range, List.range.loop]
  (refine oWd rfl rfl (by decide) fun dd K hK => ?_; go_simp; refine hK _ _ ⟨⟨⟨0, Grew.refl _ _⟩, fun e he => by (have hm := mem_listed he; simp [go_sem] at hm)⟩, Own.at ?_ dd⟩; clear hK K)
  (refine oWd rfl rfl (by decide) fun dd K hK => ?_; go_simp; refine hK _ _ ⟨⟨⟨0, Grew.refl _ _⟩, fun e he => by (have hm := mem_listed he; simp [go_sem] at hm)⟩, Own.at ?_ dd⟩; clear hK K)
  (refine oWd rfl rfl (by decide) fun dd K hK => ?_; go_simp; refine hK _ _ ⟨⟨⟨0, Grew.refl _ _⟩, fun e he => by (have hm := mem_listed he; simp [go_sem] at hm)⟩, Own.at ?_ dd⟩; clear hK K)
  refine own_go rfl (fun d => stepG_region_end) ?_
  rw [ovb4_eq]
  refine own_go rfl (fun d => stepG_block) ?_
  rw [ovl24_eq]
  refine own_go rfl (fun d => stepG_loop) ?_
  exact h _ ⟨rfl, rfl, rfl, rfl, rfl, rfl, rfl, rfl, rfl, rfl, rfl, rfl, trivial⟩
set_option maxRecDepth 100000 in
set_option maxHeartbeats 2000000 in
theorem ov_t2 {v : Mine} {sb so sl sc k : Nat} {i : Int} (hk : k < sl) (hsl : sl < 10000000) (hc : w.cell? ⟨sb, so + k, none⟩ = some (.int .i64 i)) (hz : w.frozen? ⟨sb, so + k, none⟩ = false) {A : Array Value} (hA : Slots 129 A (ovSched g v (.slice (some ⟨sb, so, none⟩) sl sc) sl k)) {cs : List Frame} {main : Bool} {Stop : Goroutine → World → Prop}
    (h : ∀ A, Slots 129 A (ovSched g v (.slice (some ⟨sb, so, none⟩) sl sc) sl k) → Own Try.prog main F Stop (G (Frame.enter Try.prog 71 (step1Args g v i) .normal) (((Go.Conc.base 62).at ⟨A, []⟩ [.inRegion ovo21 [2], .inBlock 5, .code ovr22, .inLoop ovs25, .inBlock 4, .code ovs29]) :: cs)) w) : Own Try.prog main F Stop (G ((Go.Conc.base 62).at ⟨A, []⟩ [.code ovs25, .inLoop ovs25, .inBlock 4, .code ovs29]) cs) w := by
  obtain ⟨hsz, h7, h13, h76, h77, h78, h5, h6, h8, h9, h10, h11, _⟩ := hA
  obtain ⟨s, rfl⟩ := ovT_of hsz
  change s 7 = _ at h7
  change s 13 = _ at h13
  change s 76 = _ at h76
  change s 77 = _ at h77
  change s 78 = _ at h78
  change s 5 = _ at h5
  change s 6 = _ at h6
  change s 8 = _ at h8
  change s 9 = _ at h9
  change s 10 = _ at h10
  change s 11 = _ at h11
  clear hsz
  simp only [ovT, h7, h13, h76, h77, h78, h5, h6, h8, h9, h10, h11]
  clear h7 h13 h76 h77 h78 h5 h6 h8 h9 h10 h11
  have hlt : decide ((k : Int) < (sl : Int)) = true := by simp; omega
  have hlt2 : decide (k < sl) = true := by simp; omega
  rw [ovs25_eq]
  refine own_go rfl (fun d => stepG_seq) ?_
  rw [ovr19_eq]
  refine own_go rfl (fun d => stepG_region) ?_
  simp only [ovo19, Code.opsOf, ovr19, Code.piece, ovBody, Try.f62, Option.getD_some, List.size_toArray, List.length_cons, List.length_nil, Nat.reduceAdd, Nat.zero_add, List.range, List.range.loop]
  (refine oWd rfl rfl (by decide) fun dd K hK => ?_; go_simp; refine hK _ _ ⟨⟨⟨0, Grew.refl _ _⟩, fun e he => by (have hm := mem_listed he; simp [go_sem] at hm)⟩, Own.at ?_ dd⟩; clear hK K)
  refine own_go rfl (fun d => stepG_region_end) ?_
  rw [ovs26_eq]
  refine own_go rfl (fun d => stepG_seq) ?_
  rw [ovc79_eq]
  refine own_go rfl (fun d => stepG_cond (t := true) rfl) ?_
  simp only [if_true]
  refine own_go rfl (fun d => stepG_skip) ?_
  rw [ovs27_eq]
  refine own_go rfl (fun d => stepG_seq) ?_
  rw [ovb5_eq]
  refine own_go rfl (fun d => stepG_block) ?_
  rw [ovs28_eq]
  refine own_go rfl (fun d => stepG_seq) ?_
  rw [ovr20_eq]
  refine own_go rfl (fun d => stepG_region) ?_
  simp only [ovo20, Code.opsOf, ovr20, Code.piece, ovBody, Try.f62, Option.getD_some, List.size_toArray, List.length_cons, List.length_nil, Nat.reduceAdd, Nat.zero_add, List.range, List.range.loop]
  (refine oWd rfl rfl (by decide) fun dd K hK => ?_; go_simp; refine hK _ _ ⟨⟨⟨0, Grew.refl _ _⟩, fun e he => by (have hm := mem_listed he; simp [go_sem, *] at hm)⟩, Own.at ?_ dd⟩; clear hK K)
  (refine oWd rfl rfl (by decide) fun dd K hK => ?_; go_simp; refine hK _ _ ⟨⟨⟨0, Grew.refl _ _⟩, fun e he => by (have hm := mem_listed he; simp [go_sem, *] at hm; subst hm; exact evT_read _ _)⟩, Own.at ?_ dd⟩; clear hK K)
  (refine oWd rfl rfl (by decide) fun dd K hK => ?_; go_simp; refine hK _ _ ⟨⟨⟨0, Grew.refl _ _⟩, fun e he => by (have hm := mem_listed he; simp [go_sem] at hm)⟩, Own.at ?_ dd⟩; clear hK K)
  refine own_go rfl (fun d => stepG_region_end) ?_
  rw [ovr21_eq]
  refine own_go rfl (fun d => stepG_region) ?_
  simp only [ovo21, Code.opsOf, ovr21, Code.piece, ovBody, Try.f62, Option.getD_some, List.size_toArray, List.length_cons, List.length_nil, Nat.reduceAdd, Nat.zero_add, List.range, List.range.loop]
  (refine oWd rfl rfl (by decide) fun dd K hK => ?_; go_simp; refine hK _ _ ⟨⟨⟨0, Grew.refl _ _⟩, fun e he => by (have hm := mem_listed he; simp [go_sem] at hm)⟩, Own.at ?_ dd⟩; clear hK K)
  (refine oWd rfl rfl (by decide) fun dd K hK => ?_; go_simp; refine hK _ _ ⟨⟨⟨0, Grew.refl _ _⟩, fun e he => by (have hm := mem_listed he; simp [go_sem] at hm)⟩, Own.at ?_ dd⟩; clear hK K)
  refine own_call (f := 71) (args := step1Args g v i) rfl rfl (by decide) (fun w => by simp [execOp, Act.eval, resolve, invoke, Deferred.ofValue, callable71.run, step1Args, stepFn]) (fun w => by simp [execOp, Act.eval, resolve, invoke, Deferred.ofValue, callable71.run, callable71.quiet, step1Args, stepFn]) ?_
  exact h _ ⟨rfl, rfl, rfl, rfl, rfl, rfl, rfl, rfl, rfl, rfl, rfl, rfl, trivial⟩
set_option maxRecDepth 100000 in
set_option maxHeartbeats 2000000 in
theorem ov_t3 {v : Mine} {sch : Value} {sl k : Nat} (hk : k < 10000000) {A : Array Value} (hA : Slots 129 A (ovSched g v sch sl k)) {cs : List Frame} {main : Bool} {Stop : Goroutine → World → Prop}
    (h : ∀ A, Slots 129 A (ovSched g v sch sl (k + 1)) → Own Try.prog main F Stop (G ((Go.Conc.base 62).at ⟨A, []⟩ [.code ovs25, .inLoop ovs25, .inBlock 4, .code ovs29]) cs) w) : Own Try.prog main F Stop (G (((Go.Conc.base 62).at ⟨A, []⟩ [.inRegion ovo21 [2], .inBlock 5, .code ovr22, .inLoop ovs25, .inBlock 4, .code ovs29]).finish (.tuple #[])) cs) w := by
  obtain ⟨hsz, h7, h13, h76, h77, h78, h5, h6, h8, h9, h10, h11, _⟩ := hA
  obtain ⟨s, rfl⟩ := ovT_of hsz
  change s 7 = _ at h7
  change s 13 = _ at h13
  change s 76 = _ at h76
  change s 77 = _ at h77
  change s 78 = _ at h78
  change s 5 = _ at h5
  change s 6 = _ at h6
  change s 8 = _ at h8
  change s 9 = _ at h9
  change s 10 = _ at h10
  change s 11 = _ at h11
  clear hsz
  simp only [ovT, h7, h13, h76, h77, h78, h5, h6, h8, h9, h10, h11]
  clear h7 h13 h76 h77 h78 h5 h6 h8 h9 h10 h11
  have hk64 : IntKind.i64.wrap ((k : Int) + 1) = (k : Int) + 1 := IntWalk.i64_in _ (by omega)
  rw [Frame.finish_at]
  simp only [ovo21, Code.opsOf, ovr21, Code.piece, ovBody, Try.f62, Option.getD_some, List.size_toArray, List.length_cons, List.length_nil, Nat.reduceAdd, Nat.zero_add, List.range, List.range.loop]
  walk_nrm
  refine own_go rfl (fun d => stepG_region_end) ?_
  refine own_go rfl (fun d => stepG_inBlock) ?_
  rw [ovr22_eq]
  refine own_go rfl (fun d => stepG_region) ?_
  simp only [ovo22, Code.opsOf, ovr22, Code.piece, ovBody, Try.f62, Option.getD_some, List.size_toArray, List.length_cons, List.length_nil, Nat.reduceAdd, Nat.zero_add, List.range, List.range.loop]
  (refine oWd rfl rfl (by decide) fun dd K hK => ?_; go_simp; refine hK _ _ ⟨⟨⟨0, Grew.refl _ _⟩, fun e he => by (have hm := mem_listed he; simp [go_sem] at hm)⟩, Own.at ?_ dd⟩; clear hK K)
  (refine oWd rfl rfl (by decide) fun dd K hK => ?_; go_simp; refine hK _ _ ⟨⟨⟨0, Grew.refl _ _⟩, fun e he => by (have hm := mem_listed he; simp [go_sem] at hm)⟩, Own.at ?_ dd⟩; clear hK K)
  refine own_go rfl (fun d => stepG_region_end) ?_
  refine own_go rfl (fun d => stepG_inLoop) ?_
  exact h _ ⟨rfl, rfl, rfl, rfl, rfl, rfl, rfl, rfl, rfl, rfl, rfl, rfl, trivial⟩
set_option maxRecDepth 100000 in
set_option maxHeartbeats 2000000 in
theorem ov_t4 {v : Mine} {sch : Value} {sl : Nat} {A : Array Value} (hA : Slots 129 A (ovSched g v sch sl sl)) {cs : List Frame} {main : Bool} {Stop : Goroutine → World → Prop}
    (h : ∀ A, Slots 129 A (ovRnd g v) → Own Try.prog main F Stop (G ((Go.Conc.base 62).at ⟨A, []⟩ [.code ovs31, .inLoop ovs31, .inBlock 6, .code ovs39]) cs) w) : Own Try.prog main F Stop (G ((Go.Conc.base 62).at ⟨A, []⟩ [.code ovs25, .inLoop ovs25, .inBlock 4, .code ovs29]) cs) w := by
  obtain ⟨hsz, h7, h13, h76, h77, h78, h5, h6, h8, h9, h10, h11, _⟩ := hA
  obtain ⟨s, rfl⟩ := ovT_of hsz
  change s 7 = _ at h7
  change s 13 = _ at h13
  change s 76 = _ at h76
  change s 77 = _ at h77
  change s 78 = _ at h78
  change s 5 = _ at h5
  change s 6 = _ at h6
  change s 8 = _ at h8
  change s 9 = _ at h9
  change s 10 = _ at h10
  change s 11 = _ at h11
  clear hsz
  simp only [ovT, h7, h13, h76, h77, h78, h5, h6, h8, h9, h10, h11]
  clear h7 h13 h76 h77 h78 h5 h6 h8 h9 h10 h11
  have hlt : decide ((sl : Int) < (sl : Int)) = false := by simp
  rw [ovs25_eq]
  refine own_go rfl (fun d => stepG_seq) ?_
  rw [ovr19_eq]
  refine own_go rfl (fun d => stepG_region) ?_
  simp only [ovo19, Code.opsOf, ovr19, Code.piece, ovBody, Try.f62, Option.getD_some, List.size_toArray, List.length_cons, List.length_nil, Nat.reduceAdd, Nat.zero_add, List.range, List.range.loop]
  (refine oWd rfl rfl (by decide) fun dd K hK => ?_; go_simp; refine hK _ _ ⟨⟨⟨0, Grew.refl _ _⟩, fun e he => by (have hm := mem_listed he; simp [go_sem] at hm)⟩, Own.at ?_ dd⟩; clear hK K)
  refine own_go rfl (fun d => stepG_region_end) ?_
  rw [ovs26_eq]
  refine own_go rfl (fun d => stepG_seq) ?_
  rw [ovc79_eq]
  refine own_go rfl (fun d => stepG_cond (t := false) rfl) ?_
  simp only [Bool.false_eq_true, if_false]
  refine own_go rfl (fun d => stepG_exit rfl) ?_
  rw [ovs29_eq]
  refine own_go rfl (fun d => stepG_seq) ?_
  rw [ovb6_eq]
  refine own_go rfl (fun d => stepG_block) ?_
  rw [ovl30_eq]
  refine own_go rfl (fun d => stepG_loop) ?_
  exact h _ ⟨rfl, rfl, rfl, rfl, rfl, rfl, rfl, rfl, rfl, trivial⟩
set_option maxRecDepth 100000 in
set_option maxHeartbeats 2000000 in
theorem ov_t5b {v : Mine} (hl : Lies w ⟨v.lf, 0, none⟩ (.int .i64 (0 : Nat))) {A : Array Value} (hA : Slots 129 A (ovRnd g v)) {cs : List Frame} {main : Bool} {Stop : Goroutine → World → Prop}
    (h : ∀ A, Slots 129 A (ovRnd g v) → Own Try.prog main F Stop (G ((Go.Conc.base 62).at ⟨A, []⟩ [.code ovs39]) cs) w) : Own Try.prog main F Stop (G ((Go.Conc.base 62).at ⟨A, []⟩ [.code ovs31, .inLoop ovs31, .inBlock 6, .code ovs39]) cs) w := by
  obtain ⟨hsz, h7, h13, h5, h6, h8, h9, h10, h11, _⟩ := hA
  obtain ⟨s, rfl⟩ := ovT_of hsz
  change s 7 = _ at h7
  change s 13 = _ at h13
  change s 5 = _ at h5
  change s 6 = _ at h6
  change s 8 = _ at h8
  change s 9 = _ at h9
  change s 10 = _ at h10
  change s 11 = _ at h11
  clear hsz
  simp only [ovT, h7, h13, h5, h6, h8, h9, h10, h11]
  clear h7 h13 h5 h6 h8 h9 h10 h11
  have c1 := hl.c
  have z1 := hl.z
  rw [ovs31_eq]
  refine own_go rfl (fun d => stepG_seq) ?_
  rw [ovs32_eq]
  refine own_go rfl (fun d => stepG_seq) ?_
  rw [ovr23_eq]
  refine own_go rfl (fun d => stepG_region) ?_
  simp only [ovo23, Code.opsOf, ovr23, Code.piece, ovBody, Try.f62, Option.getD_some, List.size_toArray, List.length_cons, List.length_nil, Nat.reduceAdd, Nat.zero_add, List.range, List.range.loop]
  (refine oWd rfl rfl (by decide) fun dd K hK => ?_; go_simp; refine hK _ _ ⟨⟨⟨0, Grew.refl _ _⟩, fun e he => by (have hm := mem_listed he; simp [go_sem, *] at hm; subst hm; exact evT_read _ _)⟩, Own.at ?_ dd⟩; clear hK K)
  (refine oWd rfl rfl (by decide) fun dd K hK => ?_; go_simp; refine hK _ _ ⟨⟨⟨0, Grew.refl _ _⟩, fun e he => by (have hm := mem_listed he; simp [go_sem] at hm)⟩, Own.at ?_ dd⟩; clear hK K)
  (refine oWd rfl rfl (by decide) fun dd K hK => ?_; go_simp; refine hK _ _ ⟨⟨⟨0, Grew.refl _ _⟩, fun e he => by (have hm := mem_listed he; simp [go_sem] at hm)⟩, Own.at ?_ dd⟩; clear hK K)
  refine own_go rfl (fun d => stepG_unwanted rfl rfl) ?_
  walk_nrm
  refine own_go rfl (fun d => stepG_unwanted rfl rfl) ?_
  walk_nrm
  refine own_go rfl (fun d => stepG_unwanted rfl rfl) ?_
  walk_nrm
  refine own_go rfl (fun d => stepG_unwanted rfl rfl) ?_
  walk_nrm
  (refine oWd rfl rfl (by decide) fun dd K hK => ?_; go_simp; refine hK _ _ ⟨⟨⟨0, Grew.refl _ _⟩, fun e he => by (have hm := mem_listed he; simp [go_sem] at hm)⟩, Own.at ?_ dd⟩; clear hK K)
  refine own_go rfl (fun d => stepG_region_end) ?_
  rw [ovc93_eq]
  refine own_go rfl (fun d => stepG_cond (t := false) rfl) ?_
  simp only [Bool.false_eq_true, if_false]
  refine own_go rfl (fun d => stepG_exit rfl) ?_
  exact h _ ⟨rfl, rfl, rfl, rfl, rfl, rfl, rfl, rfl, rfl, trivial⟩
set_option maxRecDepth 100000 in
set_option maxHeartbeats 2000000 in
theorem ov_t5c {v : Mine} {lf : Nat} {oa : Option Addr} {ol oc M : Nat} (hl : Lies w ⟨v.lf, 0, none⟩ (.int .i64 lf)) (hlf : 0 < lf) (lo : Lies w ⟨v.od, 0, none⟩ (.slice oa ol oc)) (lm : Lies w ⟨v.mo, 0, none⟩ (.int .i64 M)) (hM : M ≤ ol) {A : Array Value} (hA : Slots 129 A (ovRnd g v)) {cs : List Frame} {main : Bool} {Stop : Goroutine → World → Prop}
    (h : ∀ A, Slots 129 A (ovRnd g v) → Own Try.prog main F Stop (G ((Go.Conc.base 62).at ⟨A, []⟩ [.code ovs39]) cs) w) : Own Try.prog main F Stop (G ((Go.Conc.base 62).at ⟨A, []⟩ [.code ovs31, .inLoop ovs31, .inBlock 6, .code ovs39]) cs) w := by
  obtain ⟨hsz, h7, h13, h5, h6, h8, h9, h10, h11, _⟩ := hA
  obtain ⟨s, rfl⟩ := ovT_of hsz
  change s 7 = _ at h7
  change s 13 = _ at h13
  change s 5 = _ at h5
  change s 6 = _ at h6
  change s 8 = _ at h8
  change s 9 = _ at h9
  change s 10 = _ at h10
  change s 11 = _ at h11
  clear hsz
  simp only [ovT, h7, h13, h5, h6, h8, h9, h10, h11]
  clear h7 h13 h5 h6 h8 h9 h10 h11
  have c1 := hl.c
  have z1 := hl.z
  have c2 := lo.c
  have z2 := lo.z
  have c3 := lm.c
  have z3 := lm.z
  have hp : decide ((0 : Int) < (lf : Int)) = true := by simp; omega
  have hp2 : decide (0 < lf) = true := by simp; omega
  have hlt : decide ((ol : Int) < (M : Int)) = false := by simp; omega
  have hlt2 : decide (ol < M) = false := by simp; omega
  rw [ovs31_eq]
  refine own_go rfl (fun d => stepG_seq) ?_
  rw [ovs32_eq]
  refine own_go rfl (fun d => stepG_seq) ?_
  rw [ovr23_eq]
  refine own_go rfl (fun d => stepG_region) ?_
  simp only [ovo23, Code.opsOf, ovr23, Code.piece, ovBody, Try.f62, Option.getD_some, List.size_toArray, List.length_cons, List.length_nil, Nat.reduceAdd, Nat.zero_add, List.range, List.range.loop]
  (refine oWd rfl rfl (by decide) fun dd K hK => ?_; go_simp; refine hK _ _ ⟨⟨⟨0, Grew.refl _ _⟩, fun e he => by (have hm := mem_listed he; simp [go_sem, *] at hm; subst hm; exact evT_read _ _)⟩, Own.at ?_ dd⟩; clear hK K)
  (refine oWd rfl rfl (by decide) fun dd K hK => ?_; go_simp; refine hK _ _ ⟨⟨⟨0, Grew.refl _ _⟩, fun e he => by (have hm := mem_listed he; simp [go_sem] at hm)⟩, Own.at ?_ dd⟩; clear hK K)
  (refine oWd rfl rfl (by decide) fun dd K hK => ?_; go_simp; refine hK _ _ ⟨⟨⟨0, Grew.refl _ _⟩, fun e he => by (have hm := mem_listed he; simp [go_sem] at hm)⟩, Own.at ?_ dd⟩; clear hK K)
  (refine oWd rfl rfl (by decide) fun dd K hK => ?_; go_simp; refine hK _ _ ⟨⟨⟨0, Grew.refl _ _⟩, fun e he => by (have hm := mem_listed he; simp [go_sem, *] at hm; subst hm; exact evT_read _ _)⟩, Own.at ?_ dd⟩; clear hK K)
  (refine oWd rfl rfl (by decide) fun dd K hK => ?_; go_simp; refine hK _ _ ⟨⟨⟨0, Grew.refl _ _⟩, fun e he => by (have hm := mem_listed he; simp [go_sem] at hm)⟩, Own.at ?_ dd⟩; clear hK K)
  (refine oWd rfl rfl (by decide) fun dd K hK => ?_; go_simp; refine hK _ _ ⟨⟨⟨0, Grew.refl _ _⟩, fun e he => by (have hm := mem_listed he; simp [go_sem, *] at hm; subst hm; exact evT_read _ _)⟩, Own.at ?_ dd⟩; clear hK K)
  (refine oWd rfl rfl (by decide) fun dd K hK => ?_; go_simp; refine hK _ _ ⟨⟨⟨0, Grew.refl _ _⟩, fun e he => by (have hm := mem_listed he; simp [go_sem] at hm)⟩, Own.at ?_ dd⟩; clear hK K)
  (refine oWd rfl rfl (by decide) fun dd K hK => ?_; go_simp; refine hK _ _ ⟨⟨⟨0, Grew.refl _ _⟩, fun e he => by (have hm := mem_listed he; simp [go_sem] at hm)⟩, Own.at ?_ dd⟩; clear hK K)
  refine own_go rfl (fun d => stepG_region_end) ?_
  rw [ovc93_eq]
  refine own_go rfl (fun d => stepG_cond (t := false) rfl) ?_
  simp only [Bool.false_eq_true, if_false]
  refine own_go rfl (fun d => stepG_exit rfl) ?_
  exact h _ ⟨rfl, rfl, rfl, rfl, rfl, rfl, rfl, rfl, rfl, trivial⟩
set_option maxRecDepth 100000 in
set_option maxHeartbeats 2000000 in
theorem ov_t5a {v : Mine} {lf : Nat} {oa : Option Addr} {ol oc M : Nat} (hl : Lies w ⟨v.lf, 0, none⟩ (.int .i64 lf)) (hlf : 0 < lf) (lo : Lies w ⟨v.od, 0, none⟩ (.slice oa ol oc)) (lm : Lies w ⟨v.mo, 0, none⟩ (.int .i64 M)) (hM : ol < M) (hn : Lies w ⟨v.n, 0, none⟩ (.int .i64 g.n)) {A : Array Value} (hA : Slots 129 A (ovRnd g v)) {cs : List Frame} {main : Bool} {Stop : Goroutine → World → Prop}
    (h : ∀ A, Slots 129 A (ovRnd2 g v 0) → Own Try.prog main F Stop (G ((Go.Conc.base 62).at ⟨A, []⟩ [.code ovs35, .inLoop ovs35, .inBlock 8, .inBlock 7, .inLoop ovs31, .inBlock 6, .code ovs39]) cs) w) : Own Try.prog main F Stop (G ((Go.Conc.base 62).at ⟨A, []⟩ [.code ovs31, .inLoop ovs31, .inBlock 6, .code ovs39]) cs) w := by
  obtain ⟨hsz, h7, h13, h5, h6, h8, h9, h10, h11, _⟩ := hA
  obtain ⟨s, rfl⟩ := ovT_of hsz
  change s 7 = _ at h7
  change s 13 = _ at h13
  change s 5 = _ at h5
  change s 6 = _ at h6
  change s 8 = _ at h8
  change s 9 = _ at h9
  change s 10 = _ at h10
  change s 11 = _ at h11
  clear hsz
  simp only [ovT, h7, h13, h5, h6, h8, h9, h10, h11]
  clear h7 h13 h5 h6 h8 h9 h10 h11
  have c1 := hl.c
  have z1 := hl.z
  have c2 := lo.c
  have z2 := lo.z
  have c3 := lm.c
  have z3 := lm.z
  have hp : decide ((0 : Int) < (lf : Int)) = true := by simp; omega
  have hp2 : decide (0 < lf) = true := by simp; omega
  have hlt : decide ((ol : Int) < (M : Int)) = true := by simp; omega
  have hlt2 : decide (ol < M) = true := by simp; omega
  have c4 := hn.c
  have z4 := hn.z
  rw [ovs31_eq]
  refine own_go rfl (fun d => stepG_seq) ?_
  rw [ovs32_eq]
  refine own_go rfl (fun d => stepG_seq) ?_
  rw [ovr23_eq]
  refine own_go rfl (fun d => stepG_region) ?_
  simp only [ovo23, Code.opsOf, ovr23, Code.piece, ovBody, Try.f62, Option.getD_some, List.size_toArray, List.length_cons, List.length_nil, Nat.reduceAdd, Nat.zero_add, List.range, List.range.loop]
  (refine oWd rfl rfl (by decide) fun dd K hK => ?_; go_simp; refine hK _ _ ⟨⟨⟨0, Grew.refl _ _⟩, fun e he => by (have hm := mem_listed he; simp [go_sem, *] at hm; subst hm; exact evT_read _ _)⟩, Own.at ?_ dd⟩; clear hK K)
  (refine oWd rfl rfl (by decide) fun dd K hK => ?_; go_simp; refine hK _ _ ⟨⟨⟨0, Grew.refl _ _⟩, fun e he => by (have hm := mem_listed he; simp [go_sem] at hm)⟩, Own.at ?_ dd⟩; clear hK K)
  (refine oWd rfl rfl (by decide) fun dd K hK => ?_; go_simp; refine hK _ _ ⟨⟨⟨0, Grew.refl _ _⟩, fun e he => by (have hm := mem_listed he; simp [go_sem] at hm)⟩, Own.at ?_ dd⟩; clear hK K)
  (refine oWd rfl rfl (by decide) fun dd K hK => ?_; go_simp; refine hK _ _ ⟨⟨⟨0, Grew.refl _ _⟩, fun e he => by (have hm := mem_listed he; simp [go_sem, *] at hm; subst hm; exact evT_read _ _)⟩, Own.at ?_ dd⟩; clear hK K)
  (refine oWd rfl rfl (by decide) fun dd K hK => ?_; go_simp; refine hK _ _ ⟨⟨⟨0, Grew.refl _ _⟩, fun e he => by (have hm := mem_listed he; simp [go_sem] at hm)⟩, Own.at ?_ dd⟩; clear hK K)
  (refine oWd rfl rfl (by decide) fun dd K hK => ?_; go_simp; refine hK _ _ ⟨⟨⟨0, Grew.refl _ _⟩, fun e he => by (have hm := mem_listed he; simp [go_sem, *] at hm; subst hm; exact evT_read _ _)⟩, Own.at ?_ dd⟩; clear hK K)
  (refine oWd rfl rfl (by decide) fun dd K hK => ?_; go_simp; refine hK _ _ ⟨⟨⟨0, Grew.refl _ _⟩, fun e he => by (have hm := mem_listed he; simp [go_sem] at hm)⟩, Own.at ?_ dd⟩; clear hK K)
  (refine oWd rfl rfl (by decide) fun dd K hK => ?_; go_simp; refine hK _ _ ⟨⟨⟨0, Grew.refl _ _⟩, fun e he => by (have hm := mem_listed he; simp [go_sem] at hm)⟩, Own.at ?_ dd⟩; clear hK K)
  refine own_go rfl (fun d => stepG_region_end) ?_
  rw [ovc93_eq]
  refine own_go rfl (fun d => stepG_cond (t := true) rfl) ?_
  simp only [if_true]
  refine own_go rfl (fun d => stepG_skip) ?_
  rw [ovb7_eq]
  refine own_go rfl (fun d => stepG_block) ?_
  rw [ovs33_eq]
  refine own_go rfl (fun d => stepG_seq) ?_
  rw [ovr24_eq]
  refine own_go rfl (fun d => stepG_region) ?_
  simp only [ovo24, Code.opsOf, ovr24, Code.piece, ovBody, Try.f62, Option.getD_some, List.size_toArray, List.length_cons, List.length_nil, Nat.reduceAdd, Nat.zero_add, List.range, List.range.loop]
  (refine oWd rfl rfl (by decide) fun dd K hK => ?_; go_simp; refine hK _ _ ⟨⟨⟨0, Grew.refl _ _⟩, fun e he => by (have hm := mem_listed he; simp [go_sem, *] at hm; subst hm; exact evT_read _ _)⟩, Own.at ?_ dd⟩; clear hK K)
  (refine oWd rfl rfl (by decide) fun dd K hK => ?_; go_simp; refine hK _ _ ⟨⟨⟨0, Grew.refl _ _⟩, fun e he => by (have hm := mem_listed he; simp [go_sem] at hm)⟩, Own.at ?_ dd⟩; clear hK K)
  refine own_go rfl (fun d => stepG_region_end) ?_
  rw [ovb8_eq]
  refine own_go rfl (fun d => stepG_block) ?_
  rw [ovl34_eq]
  refine own_go rfl (fun d => stepG_loop) ?_
  exact h _ ⟨rfl, rfl, rfl, rfl, rfl, rfl, rfl, rfl, rfl, rfl, rfl, trivial⟩
set_option maxRecDepth 100000 in
set_option maxHeartbeats 2000000 in
theorem ov_t7 {v : Mine} {i : Nat} (hi : i < g.n) {A : Array Value} (hA : Slots 129 A (ovRnd2 g v i)) {cs : List Frame} {main : Bool} {Stop : Goroutine → World → Prop}
    (h : ∀ A, Slots 129 A (ovRnd2 g v i) → Own Try.prog main F Stop (G (Frame.enter Try.prog 71 (step1Args g v i) .normal) (((Go.Conc.base 62).at ⟨A, []⟩ [.inRegion ovo27 [2], .inBlock 9, .code ovr28, .inLoop ovs35, .inBlock 8, .inBlock 7, .inLoop ovs31, .inBlock 6, .code ovs39]) :: cs)) w) : Own Try.prog main F Stop (G ((Go.Conc.base 62).at ⟨A, []⟩ [.code ovs35, .inLoop ovs35, .inBlock 8, .inBlock 7, .inLoop ovs31, .inBlock 6, .code ovs39]) cs) w := by
  obtain ⟨hsz, h94, h95, h7, h13, h5, h6, h8, h9, h10, h11, _⟩ := hA
  obtain ⟨s, rfl⟩ := ovT_of hsz
  change s 94 = _ at h94
  change s 95 = _ at h95
  change s 7 = _ at h7
  change s 13 = _ at h13
  change s 5 = _ at h5
  change s 6 = _ at h6
  change s 8 = _ at h8
  change s 9 = _ at h9
  change s 10 = _ at h10
  change s 11 = _ at h11
  clear hsz
  simp only [ovT, h94, h95, h7, h13, h5, h6, h8, h9, h10, h11]
  clear h94 h95 h7 h13 h5 h6 h8 h9 h10 h11
  have hlt : decide ((i : Int) < (g.n : Int)) = true := by simp; omega
  have hlt2 : decide (i < g.n) = true := by simp; omega
  rw [ovs35_eq]
  refine own_go rfl (fun d => stepG_seq) ?_
  rw [ovr25_eq]
  refine own_go rfl (fun d => stepG_region) ?_
  simp only [ovo25, Code.opsOf, ovr25, Code.piece, ovBody, Try.f62, Option.getD_some, List.size_toArray, List.length_cons, List.length_nil, Nat.reduceAdd, Nat.zero_add, List.range, List.range.loop]
  (refine oWd rfl rfl (by decide) fun dd K hK => ?_; go_simp; refine hK _ _ ⟨⟨⟨0, Grew.refl _ _⟩, fun e he => by (have hm := mem_listed he; simp [go_sem] at hm)⟩, Own.at ?_ dd⟩; clear hK K)
  refine own_go rfl (fun d => stepG_region_end) ?_
  rw [ovs36_eq]
  refine own_go rfl (fun d => stepG_seq) ?_
  rw [ovc96_eq]
  refine own_go rfl (fun d => stepG_cond (t := true) rfl) ?_
  simp only [if_true]
  refine own_go rfl (fun d => stepG_skip) ?_
  rw [ovs37_eq]
  refine own_go rfl (fun d => stepG_seq) ?_
  rw [ovb9_eq]
  refine own_go rfl (fun d => stepG_block) ?_
  rw [ovs38_eq]
  refine own_go rfl (fun d => stepG_seq) ?_
  rw [ovr26_eq]
  refine own_go rfl (fun d => stepG_region) ?_
  simp only [ovo26, Code.opsOf, ovr26, Code.piece, ovBody, Try.f62, Option.getD_some, List.size_toArray, List.length_cons, List.length_nil, Nat.reduceAdd, Nat.zero_add, List.range, List.range.loop]
  (refine oWd rfl rfl (by decide) fun dd K hK => ?_; go_simp; refine hK _ _ ⟨⟨⟨0, Grew.refl _ _⟩, fun e he => by (have hm := mem_listed he; simp [go_sem] at hm)⟩, Own.at ?_ dd⟩; clear hK K)
  (refine oWd rfl rfl (by decide) fun dd K hK => ?_; go_simp; refine hK _ _ ⟨⟨⟨0, Grew.refl _ _⟩, fun e he => by (have hm := mem_listed he; simp [go_sem] at hm)⟩, Own.at ?_ dd⟩; clear hK K)
  refine own_go rfl (fun d => stepG_region_end) ?_
  rw [ovr27_eq]
  refine own_go rfl (fun d => stepG_region) ?_
  simp only [ovo27, Code.opsOf, ovr27, Code.piece, ovBody, Try.f62, Option.getD_some, List.size_toArray, List.length_cons, List.length_nil, Nat.reduceAdd, Nat.zero_add, List.range, List.range.loop]
  (refine oWd rfl rfl (by decide) fun dd K hK => ?_; go_simp; refine hK _ _ ⟨⟨⟨0, Grew.refl _ _⟩, fun e he => by (have hm := mem_listed he; simp [go_sem] at hm)⟩, Own.at ?_ dd⟩; clear hK K)
  (refine oWd rfl rfl (by decide) fun dd K hK => ?_; go_simp; refine hK _ _ ⟨⟨⟨0, Grew.refl _ _⟩, fun e he => by (have hm := mem_listed he; simp [go_sem] at hm)⟩, Own.at ?_ dd⟩; clear hK K)
  refine own_call (f := 71) (args := step1Args g v i) rfl rfl (by decide) (fun w => by simp [execOp, Act.eval, resolve, invoke, Deferred.ofValue, callable71.run, step1Args, stepFn]) (fun w => by simp [execOp, Act.eval, resolve, invoke, Deferred.ofValue, callable71.run, callable71.quiet, step1Args, stepFn]) ?_
  exact h _ ⟨rfl, rfl, rfl, rfl, rfl, rfl, rfl, rfl, rfl, rfl, rfl, trivial⟩
set_option maxRecDepth 100000 in
set_option maxHeartbeats 2000000 in
theorem ov_t8 {v : Mine} {i : Nat} (hi : i < 10000000) {A : Array Value} (hA : Slots 129 A (ovRnd2 g v i)) {cs : List Frame} {main : Bool} {Stop : Goroutine → World → Prop}
    (h : ∀ A, Slots 129 A (ovRnd2 g v (i + 1)) → Own Try.prog main F Stop (G ((Go.Conc.base 62).at ⟨A, []⟩ [.code ovs35, .inLoop ovs35, .inBlock 8, .inBlock 7, .inLoop ovs31, .inBlock 6, .code ovs39]) cs) w) : Own Try.prog main F Stop (G (((Go.Conc.base 62).at ⟨A, []⟩ [.inRegion ovo27 [2], .inBlock 9, .code ovr28, .inLoop ovs35, .inBlock 8, .inBlock 7, .inLoop ovs31, .inBlock 6, .code ovs39]).finish (.tuple #[])) cs) w := by
  obtain ⟨hsz, h94, h95, h7, h13, h5, h6, h8, h9, h10, h11, _⟩ := hA
  obtain ⟨s, rfl⟩ := ovT_of hsz
  change s 94 = _ at h94
  change s 95 = _ at h95
  change s 7 = _ at h7
  change s 13 = _ at h13
  change s 5 = _ at h5
  change s 6 = _ at h6
  change s 8 = _ at h8
  change s 9 = _ at h9
  change s 10 = _ at h10
  change s 11 = _ at h11
  clear hsz
  simp only [ovT, h94, h95, h7, h13, h5, h6, h8, h9, h10, h11]
  clear h94 h95 h7 h13 h5 h6 h8 h9 h10 h11
  have hk64 : IntKind.i64.wrap ((i : Int) + 1) = (i : Int) + 1 := IntWalk.i64_in _ (by omega)
  rw [Frame.finish_at]
  simp only [ovo27, Code.opsOf, ovr27, Code.piece, ovBody, Try.f62, Option.getD_some, List.size_toArray, List.length_cons, List.length_nil, Nat.reduceAdd, Nat.zero_add, List.range, List.range.loop]
  walk_nrm
  refine own_go rfl (fun d => stepG_region_end) ?_
  refine own_go rfl (fun d => stepG_inBlock) ?_
  rw [ovr28_eq]
  refine own_go rfl (fun d => stepG_region) ?_
  simp only [ovo28, Code.opsOf, ovr28, Code.piece, ovBody, Try.f62, Option.getD_some, List.size_toArray, List.length_cons, List.length_nil, Nat.reduceAdd, Nat.zero_add, List.range, List.range.loop]
  (refine oWd rfl rfl (by decide) fun dd K hK => ?_; go_simp; refine hK _ _ ⟨⟨⟨0, Grew.refl _ _⟩, fun e he => by (have hm := mem_listed he; simp [go_sem] at hm)⟩, Own.at ?_ dd⟩; clear hK K)
  (refine oWd rfl rfl (by decide) fun dd K hK => ?_; go_simp; refine hK _ _ ⟨⟨⟨0, Grew.refl _ _⟩, fun e he => by (have hm := mem_listed he; simp [go_sem] at hm)⟩, Own.at ?_ dd⟩; clear hK K)
  refine own_go rfl (fun d => stepG_region_end) ?_
  refine own_go rfl (fun d => stepG_inLoop) ?_
  exact h _ ⟨rfl, rfl, rfl, rfl, rfl, rfl, rfl, rfl, rfl, rfl, rfl, trivial⟩
set_option maxRecDepth 100000 in
set_option maxHeartbeats 2000000 in
theorem ov_t9 {v : Mine} {A : Array Value} (hA : Slots 129 A (ovRnd2 g v g.n)) {cs : List Frame} {main : Bool} {Stop : Goroutine → World → Prop}
    (h : ∀ A, Slots 129 A (ovRnd g v) → Own Try.prog main F Stop (G ((Go.Conc.base 62).at ⟨A, []⟩ [.code ovs31, .inLoop ovs31, .inBlock 6, .code ovs39]) cs) w) : Own Try.prog main F Stop (G ((Go.Conc.base 62).at ⟨A, []⟩ [.code ovs35, .inLoop ovs35, .inBlock 8, .inBlock 7, .inLoop ovs31, .inBlock 6, .code ovs39]) cs) w := by
  obtain ⟨hsz, h94, h95, h7, h13, h5, h6, h8, h9, h10, h11, _⟩ := hA
  obtain ⟨s, rfl⟩ := ovT_of hsz
  change s 94 = _ at h94
  change s 95 = _ at h95
  change s 7 = _ at h7
  change s 13 = _ at h13
  change s 5 = _ at h5
  change s 6 = _ at h6
  change s 8 = _ at h8
  change s 9 = _ at h9
  change s 10 = _ at h10
  change s 11 = _ at h11
  clear hsz
  simp only [ovT, h94, h95, h7, h13, h5, h6, h8, h9, h10, h11]
  clear h94 h95 h7 h13 h5 h6 h8 h9 h10 h11
  have hlt : decide ((g.n : Int) < (g.n : Int)) = false := by simp
  rw [ovs35_eq]
  refine own_go rfl (fun d => stepG_seq) ?_
  rw [ovr25_eq]
  refine own_go rfl (fun d => stepG_region) ?_
  simp only [ovo25, Code.opsOf, ovr25, Code.piece, ovBody, Try.f62, Option.getD_some, List.size_toArray, List.length_cons, List.length_nil, Nat.reduceAdd, Nat.zero_add, List.range, List.range.loop]
  (refine oWd rfl rfl (by decide) fun dd K hK => ?_; go_simp; refine hK _ _ ⟨⟨⟨0, Grew.refl _ _⟩, fun e he => by (have hm := mem_listed he; simp [go_sem] at hm)⟩, Own.at ?_ dd⟩; clear hK K)
  refine own_go rfl (fun d => stepG_region_end) ?_
  rw [ovs36_eq]
  refine own_go rfl (fun d => stepG_seq) ?_
  rw [ovc96_eq]
  refine own_go rfl (fun d => stepG_cond (t := false) rfl) ?_
  simp only [Bool.false_eq_true, if_false]
  refine own_go rfl (fun d => stepG_exit rfl) ?_
  refine own_go rfl (fun d => stepG_inBlock) ?_
  refine own_go rfl (fun d => stepG_inLoop) ?_
  exact h _ ⟨rfl, rfl, rfl, rfl, rfl, rfl, rfl, rfl, rfl, trivial⟩
set_option maxRecDepth 100000 in
set_option maxHeartbeats 2000000 in
theorem ov_t10 {v : Mine} {lf : Nat} {st : Bool} (hst : decide (0 < lf) = st) (hK : g.K w) (hl : Lies w ⟨v.lf, 0, none⟩ (.int .i64 lf)) {osa : Option Addr} (hsl : g.sl = .slice osa g.n g.sc) {A : Array Value} (hA : Slots 129 A (ovRnd g v)) {cs : List Frame} {main : Bool} {Stop : Goroutine → World → Prop}
    (h : ∀ A, Slots 129 A (ovEnds g v st 0) → Own Try.prog main F Stop (G ((Go.Conc.base 62).at ⟨A, []⟩ [.code ovs43, .inLoop ovs43, .inBlock 10, .code ovs48]) cs) w) : Own Try.prog main F Stop (G ((Go.Conc.base 62).at ⟨A, []⟩ [.code ovs39]) cs) w := by
  obtain ⟨hsz, h7, h13, h5, h6, h8, h9, h10, h11, _⟩ := hA
  obtain ⟨s, rfl⟩ := ovT_of hsz
  change s 7 = _ at h7
  change s 13 = _ at h13
  change s 5 = _ at h5
  change s 6 = _ at h6
  change s 8 = _ at h8
  change s 9 = _ at h9
  change s 10 = _ at h10
  change s 11 = _ at h11
  clear hsz
  simp only [ovT, h7, h13, h5, h6, h8, h9, h10, h11]
  clear h7 h13 h5 h6 h8 h9 h10 h11
  have c1 := hl.c
  have z1 := hl.z
  have ct := (hK _ _ .tv).c
  have zt := (hK _ _ .tv).z
  have c3 := (hK _ _ .stands).c
  have z3 := (hK _ _ .stands).z
  have hst2 : decide ((0 : Int) < (lf : Int)) = st := by rw [← hst]; simp
  rw [hsl] at c3
  rw [ovs39_eq]
  refine own_go rfl (fun d => stepG_seq) ?_
  rw [ovr29_eq]
  refine own_go rfl (fun d => stepG_region) ?_
  simp only [ovo29, Code.opsOf, ovr29, Code.piece, ovBody, Try.f62, Option.getD_some, List.size_toArray, List.length_cons, List.length_nil, Nat.reduceAdd, Nat.zero_add, List.range, List.range.loop]
  (refine oWd rfl rfl (by decide) fun dd K hK => ?_; go_simp; refine hK _ _ ⟨⟨⟨0, Grew.refl _ _⟩, fun e he => by (have hm := mem_listed he; simp [go_sem, *] at hm; subst hm; exact evT_read _ _)⟩, Own.at ?_ dd⟩; clear hK K)
  (refine oWd rfl rfl (by decide) fun dd K hK => ?_; go_simp; refine hK _ _ ⟨⟨⟨0, Grew.refl _ _⟩, fun e he => by (have hm := mem_listed he; simp [go_sem] at hm)⟩, Own.at ?_ dd⟩; clear hK K)
  (refine oWd rfl rfl (by decide) fun dd K hK => ?_; go_simp; refine hK _ _ ⟨⟨⟨0, Grew.refl _ _⟩, fun e he => by (have hm := mem_listed he; simp [go_sem] at hm)⟩, Own.at ?_ dd⟩; clear hK K)
  refine own_go rfl (fun d => stepG_region_end) ?_
  rw [ovs40_eq]
  refine own_go rfl (fun d => stepG_seq) ?_
  rw [ovs41_eq]
  refine own_go rfl (fun d => stepG_seq) ?_
  rw [ovr30_eq]
  refine own_go rfl (fun d => stepG_region) ?_
  simp only [ovo30, Code.opsOf, ovr30, Code.piece, ovBody, Try.f62, Option.getD_some, List.size_toArray, List.length_cons, List.length_nil, Nat.reduceAdd, Nat.zero_add, List.range, List.range.loop]
  (refine oWd rfl rfl (by decide) fun dd K hK => ?_; go_simp; refine hK _ _ ⟨⟨⟨0, Grew.refl _ _⟩, fun e he => by (have hm := mem_listed he; simp [go_sem, *] at hm; subst hm; exact evT_read _ _)⟩, Own.at ?_ dd⟩; clear hK K)
  (refine oWd rfl rfl (by decide) fun dd K hK => ?_; go_simp; refine hK _ _ ⟨⟨⟨0, Grew.refl _ _⟩, fun e he => by (have hm := mem_listed he; simp [go_sem] at hm)⟩, Own.at ?_ dd⟩; clear hK K)
  (refine oWd rfl rfl (by decide) fun dd K hK => ?_; go_simp; refine hK _ _ ⟨⟨⟨0, Grew.refl _ _⟩, fun e he => by (have hm := mem_listed he; simp [go_sem] at hm)⟩, Own.at ?_ dd⟩; clear hK K)
  (refine oWd rfl rfl (by decide) fun dd K hK => ?_; go_simp; refine hK _ _ ⟨⟨⟨0, Grew.refl _ _⟩, fun e he => by (have hm := mem_listed he; simp [go_sem, *] at hm; subst hm; exact evT_read _ _)⟩, Own.at ?_ dd⟩; clear hK K)
  (refine oWd rfl rfl (by decide) fun dd K hK => ?_; go_simp; refine hK _ _ ⟨⟨⟨0, Grew.refl _ _⟩, fun e he => by (have hm := mem_listed he; simp [go_sem] at hm)⟩, Own.at ?_ dd⟩; clear hK K)
  (refine oWd rfl rfl (by decide) fun dd K hK => ?_; go_simp; refine hK _ _ ⟨⟨⟨0, Grew.refl _ _⟩, fun e he => by (have hm := mem_listed he; simp [go_sem] at hm)⟩, Own.at ?_ dd⟩; clear hK K)
  refine own_go rfl (fun d => stepG_region_end) ?_
  rw [ovb10_eq]
  refine own_go rfl (fun d => stepG_block) ?_
  rw [ovl42_eq]
  refine own_go rfl (fun d => stepG_loop) ?_
  exact h _ ⟨rfl, rfl, hsl.symm, rfl, rfl, rfl, rfl, rfl, rfl, rfl, rfl, trivial⟩
set_option maxRecDepth 100000 in
set_option maxHeartbeats 2000000 in
theorem ov_t11a [ok : Fits g] {v : Mine} {st : Bool} {j : Nat} [hi : Has g j] (hK : g.K w) (ho : Lies w ⟨g.st j, 2, none⟩ (.bool false)) {A : Array Value} (hA : Slots 129 A (ovEnds g v st j)) {cs : List Frame} {main : Bool} {Stop : Goroutine → World → Prop}
    (h : ∀ A, Slots 129 A (ovEnds g v st j) → Own Try.prog main F Stop (G (Frame.enter Try.prog 72 #[.pointer (some ⟨g.tb, 0, none⟩), .int .i64 j, .bool false] .normal) (((Go.Conc.base 62).at ⟨A, []⟩ [.inRegion ovo34 [2], .inBlock 11, .code ovr35, .inLoop ovs43, .inBlock 10, .code ovs48]) :: cs)) w) : Own Try.prog main F Stop (G ((Go.Conc.base 62).at ⟨A, []⟩ [.code ovs43, .inLoop ovs43, .inBlock 10, .code ovs48]) cs) w := by
  obtain ⟨hsz, h7, h107, h108, h109, h5, h6, h8, h9, h10, h11, _⟩ := hA
  obtain ⟨s, rfl⟩ := ovT_of hsz
  change s 7 = _ at h7
  change s 107 = _ at h107
  change s 108 = _ at h108
  change s 109 = _ at h109
  change s 5 = _ at h5
  change s 6 = _ at h6
  change s 8 = _ at h8
  change s 9 = _ at h9
  change s 10 = _ at h10
  change s 11 = _ at h11
  clear hsz
  simp only [ovT, h7, h107, h108, h109, h5, h6, h8, h9, h10, h11]
  clear h7 h107 h108 h109 h5 h6 h8 h9 h10 h11
  have ct := (hK _ _ .tv).c
  have zt := (hK _ _ .tv).z
  have c3 := (hK _ _ .stands).c
  have z3 := (hK _ _ .stands).z
  have hin := hi.lt
  have hsl := ok.ok.sl (Nat.lt_of_le_of_lt (Nat.zero_le _) hin)
  have c4 := (hK _ _ (.stand j hin)).c
  have z4 := (hK _ _ (.stand j hin)).z
  have c5 := ho.c
  have z5 := ho.z
  rw [hsl] at c3
  simp only [hsl]
  have hlt : decide ((j : Int) < (g.n : Int)) = true := by simp; omega
  have hlt2 : decide (j < g.n) = true := by simp; omega
  rw [ovs43_eq]
  refine own_go rfl (fun d => stepG_seq) ?_
  rw [ovr31_eq]
  refine own_go rfl (fun d => stepG_region) ?_
  simp only [ovo31, Code.opsOf, ovr31, Code.piece, ovBody, Try.f62, Option.getD_some, List.size_toArray, List.length_cons, List.length_nil, Nat.reduceAdd, Nat.zero_add, List.range, List.range.loop]
  (refine oWd rfl rfl (by decide) fun dd K hK => ?_; go_simp; refine hK _ _ ⟨⟨⟨0, Grew.refl _ _⟩, fun e he => by (have hm := mem_listed he; simp [go_sem] at hm)⟩, Own.at ?_ dd⟩; clear hK K)
  refine own_go rfl (fun d => stepG_region_end) ?_
  rw [ovs44_eq]
  refine own_go rfl (fun d => stepG_seq) ?_
  rw [ovc110_eq]
  refine own_go rfl (fun d => stepG_cond (t := true) rfl) ?_
  simp only [if_true]
  refine own_go rfl (fun d => stepG_skip) ?_
  rw [ovs45_eq]
  refine own_go rfl (fun d => stepG_seq) ?_
  rw [ovb11_eq]
  refine own_go rfl (fun d => stepG_block) ?_
  rw [ovs46_eq]
  refine own_go rfl (fun d => stepG_seq) ?_
  rw [ovr32_eq]
  refine own_go rfl (fun d => stepG_region) ?_
  simp only [ovo32, Code.opsOf, ovr32, Code.piece, ovBody, Try.f62, Option.getD_some, List.size_toArray, List.length_cons, List.length_nil, Nat.reduceAdd, Nat.zero_add, List.range, List.range.loop]
  (refine oWd rfl rfl (by decide) fun dd K hK => ?_; go_simp; refine hK _ _ ⟨⟨⟨0, Grew.refl _ _⟩, fun e he => by (have hm := mem_listed he; simp [go_sem] at hm)⟩, Own.at ?_ dd⟩; clear hK K)
  (refine oWd rfl rfl (by decide) fun dd K hK => ?_; go_simp; refine hK _ _ ⟨⟨⟨0, Grew.refl _ _⟩, fun e he => by (have hm := mem_listed he; simp [go_sem, *] at hm)⟩, Own.at ?_ dd⟩; clear hK K)
  (refine oWd rfl rfl (by decide) fun dd K hK => ?_; go_simp; refine hK _ _ ⟨⟨⟨0, Grew.refl _ _⟩, fun e he => by (have hm := mem_listed he; simp [go_sem, *] at hm; subst hm; exact evT_read _ _)⟩, Own.at ?_ dd⟩; clear hK K)
  (refine oWd rfl rfl (by decide) fun dd K hK => ?_; go_simp; refine hK _ _ ⟨⟨⟨0, Grew.refl _ _⟩, fun e he => by (have hm := mem_listed he; simp [go_sem] at hm)⟩, Own.at ?_ dd⟩; clear hK K)
  (refine oWd rfl rfl (by decide) fun dd K hK => ?_; go_simp; refine hK _ _ ⟨⟨⟨0, Grew.refl _ _⟩, fun e he => by (have hm := mem_listed he; simp [go_sem] at hm)⟩, Own.at ?_ dd⟩; clear hK K)
  refine own_go rfl (fun d => stepG_region_end) ?_
  rw [ovs47_eq]
  refine own_go rfl (fun d => stepG_seq) ?_
  rw [ovr33_eq]
  refine own_go rfl (fun d => stepG_region) ?_
  simp only [ovo33, Code.opsOf, ovr33, Code.piece, ovBody, Try.f62, Option.getD_some, List.size_toArray, List.length_cons, List.length_nil, Nat.reduceAdd, Nat.zero_add, List.range, List.range.loop]
  (refine oWd rfl rfl (by decide) fun dd K hK => ?_; go_simp; refine hK _ _ ⟨⟨⟨0, Grew.refl _ _⟩, fun e he => by (have hm := mem_listed he; simp [go_sem] at hm)⟩, Own.at ?_ dd⟩; clear hK K)
  (refine oWd rfl rfl (by decide) fun dd K hK => ?_; go_simp; refine hK _ _ ⟨⟨⟨0, Grew.refl _ _⟩, fun e he => by (have hm := mem_listed he; simp [go_sem] at hm)⟩, Own.at ?_ dd⟩; clear hK K)
  (refine oWd rfl rfl (by decide) fun dd K hK => ?_; go_simp; refine hK _ _ ⟨⟨⟨0, Grew.refl _ _⟩, fun e he => by (have hm := mem_listed he; simp [go_sem] at hm)⟩, Own.at ?_ dd⟩; clear hK K)
  (refine oWd rfl rfl (by decide) fun dd K hK => ?_; go_simp; refine hK _ _ ⟨⟨⟨0, Grew.refl _ _⟩, fun e he => by (have hm := mem_listed he; simp [go_sem, *] at hm; subst hm; exact evT_read _ _)⟩, Own.at ?_ dd⟩; clear hK K)
  (refine oWd rfl rfl (by decide) fun dd K hK => ?_; go_simp; refine hK _ _ ⟨⟨⟨0, Grew.refl _ _⟩, fun e he => by (have hm := mem_listed he; simp [go_sem] at hm)⟩, Own.at ?_ dd⟩; clear hK K)
  refine own_go rfl (fun d => stepG_region_end) ?_
  rw [ovc118_eq]
  refine own_go rfl (fun d => stepG_cond (t := true) rfl) ?_
  simp only [if_true]
  rw [ovr34_eq]
  refine own_go rfl (fun d => stepG_region) ?_
  simp only [ovo34, Code.opsOf, ovr34, Code.piece, ovBody, Try.f62, Option.getD_some, List.size_toArray, List.length_cons, List.length_nil, Nat.reduceAdd, Nat.zero_add, List.range, List.range.loop]
  (refine oWd rfl rfl (by decide) fun dd K hK => ?_; go_simp; refine hK _ _ ⟨⟨⟨0, Grew.refl _ _⟩, fun e he => by (have hm := mem_listed he; simp [go_sem, *] at hm; subst hm; exact evT_read _ _)⟩, Own.at ?_ dd⟩; clear hK K)
  (refine oWd rfl rfl (by decide) fun dd K hK => ?_; go_simp; refine hK _ _ ⟨⟨⟨0, Grew.refl _ _⟩, fun e he => by (have hm := mem_listed he; simp [go_sem] at hm)⟩, Own.at ?_ dd⟩; clear hK K)
  refine own_call (f := 72) (args := #[.pointer (some ⟨g.tb, 0, none⟩), .int .i64 j, .bool false]) rfl rfl (by decide) (fun w => by simp [execOp, Act.eval, resolve, invoke, Deferred.ofValue, callable72.run]) (fun w => by simp [execOp, Act.eval, resolve, invoke, Deferred.ofValue, callable72.run, callable72.quiet]) ?_
  exact h _ ⟨rfl, rfl, hsl.symm, rfl, rfl, rfl, rfl, rfl, rfl, rfl, rfl, trivial⟩
set_option maxRecDepth 100000 in
set_option maxHeartbeats 2000000 in
theorem ov_t12 {v : Mine} {st : Bool} {j : Nat} (hj : j < 10000000) {A : Array Value} (hA : Slots 129 A (ovEnds g v st j)) {cs : List Frame} {main : Bool} {Stop : Goroutine → World → Prop}
    (h : ∀ A, Slots 129 A (ovEnds g v st (j + 1)) → Own Try.prog main F Stop (G ((Go.Conc.base 62).at ⟨A, []⟩ [.code ovs43, .inLoop ovs43, .inBlock 10, .code ovs48]) cs) w) : Own Try.prog main F Stop (G (((Go.Conc.base 62).at ⟨A, []⟩ [.inRegion ovo34 [2], .inBlock 11, .code ovr35, .inLoop ovs43, .inBlock 10, .code ovs48]).finish (.tuple #[])) cs) w := by
  obtain ⟨hsz, h7, h107, h108, h109, h5, h6, h8, h9, h10, h11, _⟩ := hA
  obtain ⟨s, rfl⟩ := ovT_of hsz
  change s 7 = _ at h7
  change s 107 = _ at h107
  change s 108 = _ at h108
  change s 109 = _ at h109
  change s 5 = _ at h5
  change s 6 = _ at h6
  change s 8 = _ at h8
  change s 9 = _ at h9
  change s 10 = _ at h10
  change s 11 = _ at h11
  clear hsz
  simp only [ovT, h7, h107, h108, h109, h5, h6, h8, h9, h10, h11]
  clear h7 h107 h108 h109 h5 h6 h8 h9 h10 h11
  have hk64 : IntKind.i64.wrap ((j : Int) + 1) = (j : Int) + 1 := IntWalk.i64_in _ (by omega)
  rw [Frame.finish_at]
  simp only [ovo34, Code.opsOf, ovr34, Code.piece, ovBody, Try.f62, Option.getD_some, List.size_toArray, List.length_cons, List.length_nil, Nat.reduceAdd, Nat.zero_add, List.range, List.range.loop]
  walk_nrm
  refine own_go rfl (fun d => stepG_region_end) ?_
  refine own_go rfl (fun d => stepG_inBlock) ?_
  rw [ovr35_eq]
  refine own_go rfl (fun d => stepG_region) ?_
  simp only [ovo35, Code.opsOf, ovr35, Code.piece, ovBody, Try.f62, Option.getD_some, List.size_toArray, List.length_cons, List.length_nil, Nat.reduceAdd, Nat.zero_add, List.range, List.range.loop]
  (refine oWd rfl rfl (by decide) fun dd K hK => ?_; go_simp; refine hK _ _ ⟨⟨⟨0, Grew.refl _ _⟩, fun e he => by (have hm := mem_listed he; simp [go_sem] at hm)⟩, Own.at ?_ dd⟩; clear hK K)
  (refine oWd rfl rfl (by decide) fun dd K hK => ?_; go_simp; refine hK _ _ ⟨⟨⟨0, Grew.refl _ _⟩, fun e he => by (have hm := mem_listed he; simp [go_sem] at hm)⟩, Own.at ?_ dd⟩; clear hK K)
  refine own_go rfl (fun d => stepG_region_end) ?_
  refine own_go rfl (fun d => stepG_inLoop) ?_
  exact h _ ⟨rfl, rfl, rfl, rfl, rfl, rfl, rfl, rfl, rfl, rfl, rfl, trivial⟩
set_option maxRecDepth 100000 in
set_option maxHeartbeats 2000000 in
theorem ov_t13 [ok : Fits g] {v : Mine} {st : Bool} {j : Nat} [hi : Has g j] (hn64 : g.n ≤ 64) (hK : g.K w) (ho : Lies w ⟨g.st j, 2, none⟩ (.bool true)) {A : Array Value} (hA : Slots 129 A (ovEnds g v st j)) {cs : List Frame} {main : Bool} {Stop : Goroutine → World → Prop}
    (h : ∀ A, Slots 129 A (ovEnds g v st (j + 1)) → Own Try.prog main F Stop (G ((Go.Conc.base 62).at ⟨A, []⟩ [.code ovs43, .inLoop ovs43, .inBlock 10, .code ovs48]) cs) w) : Own Try.prog main F Stop (G ((Go.Conc.base 62).at ⟨A, []⟩ [.code ovs43, .inLoop ovs43, .inBlock 10, .code ovs48]) cs) w := by
  obtain ⟨hsz, h7, h107, h108, h109, h5, h6, h8, h9, h10, h11, _⟩ := hA
  obtain ⟨s, rfl⟩ := ovT_of hsz
  change s 7 = _ at h7
  change s 107 = _ at h107
  change s 108 = _ at h108
  change s 109 = _ at h109
  change s 5 = _ at h5
  change s 6 = _ at h6
  change s 8 = _ at h8
  change s 9 = _ at h9
  change s 10 = _ at h10
  change s 11 = _ at h11
  clear hsz
  simp only [ovT, h7, h107, h108, h109, h5, h6, h8, h9, h10, h11]
  clear h7 h107 h108 h109 h5 h6 h8 h9 h10 h11
  have ct := (hK _ _ .tv).c
  have zt := (hK _ _ .tv).z
  have c3 := (hK _ _ .stands).c
  have z3 := (hK _ _ .stands).z
  have hin := hi.lt
  have hsl := ok.ok.sl (Nat.lt_of_le_of_lt (Nat.zero_le _) hin)
  have c4 := (hK _ _ (.stand j hin)).c
  have z4 := (hK _ _ (.stand j hin)).z
  have c5 := ho.c
  have z5 := ho.z
  rw [hsl] at c3
  simp only [hsl]
  have hlt : decide ((j : Int) < (g.n : Int)) = true := by simp; omega
  have hlt2 : decide (j < g.n) = true := by simp; omega
  have hk64 : IntKind.i64.wrap ((j : Int) + 1) = (j : Int) + 1 := IntWalk.i64_in _ (by omega)
  rw [ovs43_eq]
  refine own_go rfl (fun d => stepG_seq) ?_
  rw [ovr31_eq]
  refine own_go rfl (fun d => stepG_region) ?_
  simp only [ovo31, Code.opsOf, ovr31, Code.piece, ovBody, Try.f62, Option.getD_some, List.size_toArray, List.length_cons, List.length_nil, Nat.reduceAdd, Nat.zero_add, List.range, List.range.loop]
  (refine oWd rfl rfl (by decide) fun dd K hK => ?_; go_simp; refine hK _ _ ⟨⟨⟨0, Grew.refl _ _⟩, fun e he => by (have hm := mem_listed he; simp [go_sem] at hm)⟩, Own.at ?_ dd⟩; clear hK K)
  refine own_go rfl (fun d => stepG_region_end) ?_
  rw [ovs44_eq]
  refine own_go rfl (fun d => stepG_seq) ?_
  rw [ovc110_eq]
  refine own_go rfl (fun d => stepG_cond (t := true) rfl) ?_
  simp only [if_true]
  refine own_go rfl (fun d => stepG_skip) ?_
  rw [ovs45_eq]
  refine own_go rfl (fun d => stepG_seq) ?_
  rw [ovb11_eq]
  refine own_go rfl (fun d => stepG_block) ?_
  rw [ovs46_eq]
  refine own_go rfl (fun d => stepG_seq) ?_
  rw [ovr32_eq]
  refine own_go rfl (fun d => stepG_region) ?_
  simp only [ovo32, Code.opsOf, ovr32, Code.piece, ovBody, Try.f62, Option.getD_some, List.size_toArray, List.length_cons, List.length_nil, Nat.reduceAdd, Nat.zero_add, List.range, List.range.loop]
  (refine oWd rfl rfl (by decide) fun dd K hK => ?_; go_simp; refine hK _ _ ⟨⟨⟨0, Grew.refl _ _⟩, fun e he => by (have hm := mem_listed he; simp [go_sem] at hm)⟩, Own.at ?_ dd⟩; clear hK K)
  (refine oWd rfl rfl (by decide) fun dd K hK => ?_; go_simp; refine hK _ _ ⟨⟨⟨0, Grew.refl _ _⟩, fun e he => by (have hm := mem_listed he; simp [go_sem, *] at hm)⟩, Own.at ?_ dd⟩; clear hK K)
  (refine oWd rfl rfl (by decide) fun dd K hK => ?_; go_simp; refine hK _ _ ⟨⟨⟨0, Grew.refl _ _⟩, fun e he => by (have hm := mem_listed he; simp [go_sem, *] at hm; subst hm; exact evT_read _ _)⟩, Own.at ?_ dd⟩; clear hK K)
  (refine oWd rfl rfl (by decide) fun dd K hK => ?_; go_simp; refine hK _ _ ⟨⟨⟨0, Grew.refl _ _⟩, fun e he => by (have hm := mem_listed he; simp [go_sem] at hm)⟩, Own.at ?_ dd⟩; clear hK K)
  (refine oWd rfl rfl (by decide) fun dd K hK => ?_; go_simp; refine hK _ _ ⟨⟨⟨0, Grew.refl _ _⟩, fun e he => by (have hm := mem_listed he; simp [go_sem] at hm)⟩, Own.at ?_ dd⟩; clear hK K)
  refine own_go rfl (fun d => stepG_region_end) ?_
  rw [ovs47_eq]
  refine own_go rfl (fun d => stepG_seq) ?_
  rw [ovr33_eq]
  refine own_go rfl (fun d => stepG_region) ?_
  simp only [ovo33, Code.opsOf, ovr33, Code.piece, ovBody, Try.f62, Option.getD_some, List.size_toArray, List.length_cons, List.length_nil, Nat.reduceAdd, Nat.zero_add, List.range, List.range.loop]
  (refine oWd rfl rfl (by decide) fun dd K hK => ?_; go_simp; refine hK _ _ ⟨⟨⟨0, Grew.refl _ _⟩, fun e he => by (have hm := mem_listed he; simp [go_sem] at hm)⟩, Own.at ?_ dd⟩; clear hK K)
  (refine oWd rfl rfl (by decide) fun dd K hK => ?_; go_simp; refine hK _ _ ⟨⟨⟨0, Grew.refl _ _⟩, fun e he => by (have hm := mem_listed he; simp [go_sem] at hm)⟩, Own.at ?_ dd⟩; clear hK K)
  (refine oWd rfl rfl (by decide) fun dd K hK => ?_; go_simp; refine hK _ _ ⟨⟨⟨0, Grew.refl _ _⟩, fun e he => by (have hm := mem_listed he; simp [go_sem] at hm)⟩, Own.at ?_ dd⟩; clear hK K)
  (refine oWd rfl rfl (by decide) fun dd K hK => ?_; go_simp; refine hK _ _ ⟨⟨⟨0, Grew.refl _ _⟩, fun e he => by (have hm := mem_listed he; simp [go_sem, *] at hm; subst hm; exact evT_read _ _)⟩, Own.at ?_ dd⟩; clear hK K)
  (refine oWd rfl rfl (by decide) fun dd K hK => ?_; go_simp; refine hK _ _ ⟨⟨⟨0, Grew.refl _ _⟩, fun e he => by (have hm := mem_listed he; simp [go_sem] at hm)⟩, Own.at ?_ dd⟩; clear hK K)
  refine own_go rfl (fun d => stepG_region_end) ?_
  rw [ovc118_eq]
  refine own_go rfl (fun d => stepG_cond (t := false) rfl) ?_
  simp only [Bool.false_eq_true, if_false]
  refine own_go rfl (fun d => stepG_skip) ?_
  refine own_go rfl (fun d => stepG_inBlock) ?_
  rw [ovr35_eq]
  refine own_go rfl (fun d => stepG_region) ?_
  simp only [ovo35, Code.opsOf, ovr35, Code.piece, ovBody, Try.f62, Option.getD_some, List.size_toArray, List.length_cons, List.length_nil, Nat.reduceAdd, Nat.zero_add, List.range, List.range.loop]
  (refine oWd rfl rfl (by decide) fun dd K hK => ?_; go_simp; refine hK _ _ ⟨⟨⟨0, Grew.refl _ _⟩, fun e he => by (have hm := mem_listed he; simp [go_sem] at hm)⟩, Own.at ?_ dd⟩; clear hK K)
  (refine oWd rfl rfl (by decide) fun dd K hK => ?_; go_simp; refine hK _ _ ⟨⟨⟨0, Grew.refl _ _⟩, fun e he => by (have hm := mem_listed he; simp [go_sem] at hm)⟩, Own.at ?_ dd⟩; clear hK K)
  refine own_go rfl (fun d => stepG_region_end) ?_
  refine own_go rfl (fun d => stepG_inLoop) ?_
  exact h _ ⟨rfl, rfl, hsl.symm, rfl, rfl, rfl, rfl, rfl, rfl, rfl, rfl, trivial⟩
set_option maxRecDepth 100000 in
set_option maxHeartbeats 2000000 in
theorem ov_t14 {v : Mine} {st : Bool} {A : Array Value} (hA : Slots 129 A (ovEnds g v st g.n)) {cs : List Frame} {main : Bool} {Stop : Goroutine → World → Prop}
    (h : ∀ A, Slots 129 A (ovEnds g v st g.n) → Own Try.prog main F Stop (G ((Go.Conc.base 62).at ⟨A, []⟩ [.code ovs48]) cs) w) : Own Try.prog main F Stop (G ((Go.Conc.base 62).at ⟨A, []⟩ [.code ovs43, .inLoop ovs43, .inBlock 10, .code ovs48]) cs) w := by
  obtain ⟨hsz, h7, h107, h108, h109, h5, h6, h8, h9, h10, h11, _⟩ := hA
  obtain ⟨s, rfl⟩ := ovT_of hsz
  change s 7 = _ at h7
  change s 107 = _ at h107
  change s 108 = _ at h108
  change s 109 = _ at h109
  change s 5 = _ at h5
  change s 6 = _ at h6
  change s 8 = _ at h8
  change s 9 = _ at h9
  change s 10 = _ at h10
  change s 11 = _ at h11
  clear hsz
  simp only [ovT, h7, h107, h108, h109, h5, h6, h8, h9, h10, h11]
  clear h7 h107 h108 h109 h5 h6 h8 h9 h10 h11
  have hlt : decide ((g.n : Int) < (g.n : Int)) = false := by simp
  rw [ovs43_eq]
  refine own_go rfl (fun d => stepG_seq) ?_
  rw [ovr31_eq]
  refine own_go rfl (fun d => stepG_region) ?_
  simp only [ovo31, Code.opsOf, ovr31, Code.piece, ovBody, Try.f62, Option.getD_some, List.size_toArray, List.length_cons, List.length_nil, Nat.reduceAdd, Nat.zero_add, List.range, List.range.loop]
  (refine oWd rfl rfl (by decide) fun dd K hK => ?_; go_simp; refine hK _ _ ⟨⟨⟨0, Grew.refl _ _⟩, fun e he => by (have hm := mem_listed he; simp [go_sem] at hm)⟩, Own.at ?_ dd⟩; clear hK K)
  refine own_go rfl (fun d => stepG_region_end) ?_
  rw [ovs44_eq]
  refine own_go rfl (fun d => stepG_seq) ?_
  rw [ovc110_eq]
  refine own_go rfl (fun d => stepG_cond (t := false) rfl) ?_
  simp only [Bool.false_eq_true, if_false]
  refine own_go rfl (fun d => stepG_exit rfl) ?_
  exact h _ ⟨rfl, rfl, rfl, rfl, rfl, rfl, rfl, rfl, rfl, rfl, rfl, trivial⟩
end Go.Proofs.Ytcejbandeikdjaa
namespace Go.Proofs.Ytcejbandeikdjaa
open Go Go.Conc Go.RowKit Go.Proofs
open Go.ConcN (sumTo upd sumTo_upd upd_ne upd_same)
variable {g : Gate} {F : Fz} {Z : Users} {x y : Z.X} {w w' : World} {s0 nn h : Nat} {Gl : Machine → Trace → Prop} {v : Mine} {base M : Nat} {Inb : Nat → Option Seat}
theorem tok_go [ok : Fits g] {SL : List (Nat × Value)} {a : Goroutine} (Φ : Array Value → Goroutine) (ho : ∀ Stop : Goroutine → World → Prop, (∀ A, Slots 129 A SL → Own Try.prog (h == 0) (FK g) Stop (Φ A) w) → Own Try.prog (h == 0) (FK g) Stop a w)
    (hk : ∀ A d, Slots 129 A SL → Tok Try.prog g.K g.Still g.top Gl Inb h nn (Φ A) (w.at d)) : Tok Try.prog g.K g.Still g.top Gl Inb h nn a w := by
  refine tok_own (F := FK g) (Stop := fun a u => ∃ A, Slots 129 A SL ∧ a = Φ A ∧ ∃ d, u = w.at d) K_at fk_covers fk_K (ho _ fun A hA => .stop fun d => ⟨A, hA, rfl, d, rfl⟩) fun g' w0 d hS => ?_
  obtain ⟨A, hA, rfl, d', e⟩ := hS d
  rw [e]
  exact hk A d' hA
theorem turns_append {n : Nat} {l m : List Int} {s t : Z.X × List Nat} : Turns Z n M (l ++ m) s t ↔ ∃ u, Turns Z n M l s u ∧ Turns Z n M m u t := by
  induction l generalizing s with
  | nil => simp [Turns]
  | cons i l ih =>
    simp only [List.cons_append, Turns, ih]
    constructor
    · rintro ⟨u, h1, v, h2, h3⟩; exact ⟨v, ⟨u, h1, h2⟩, h3⟩
    · rintro ⟨v, ⟨u, h1, h2⟩, h3⟩; exact ⟨u, h1, v, h2, h3⟩
theorem turns_one {n : Nat} {i : Int} {s t : Z.X × List Nat} : Turns Z n M [i] s t ↔ Turn Z n M s i t := by
  simp only [Turns]
  constructor
  · rintro ⟨u, h, rfl⟩; exact h
  · exact fun h => ⟨t, h, rfl⟩
theorem turn_len {n : Nat} {i : Int} {s t : Z.X × List Nat} (h : Turn Z n M s i t) : s.2.length ≤ t.2.length ∧ (t.2.length = s.2.length → t = s) := by
  unfold Turn at h
  split at h
  · rw [h.2]; simp
  · rw [h]; simp
theorem turns_len {n : Nat} {l : List Int} {s t : Z.X × List Nat} (h : Turns Z n M l s t) : s.2.length ≤ t.2.length ∧ (t.2.length = s.2.length → t = s ∧ ∀ i ∈ l, Turn Z n M s i s) := by
  induction l generalizing s with
  | nil => simp only [Turns] at h; subst h; simp
  | cons i l ih =>
    obtain ⟨u, h1, h2⟩ := h
    obtain ⟨a1, a2⟩ := turn_len h1
    obtain ⟨b1, b2⟩ := ih h2
    refine ⟨Nat.le_trans a1 b1, fun e => ?_⟩
    have e1 : u = s := a2 (by omega)
    subst e1
    obtain ⟨c1, c2⟩ := b2 e
    exact ⟨c1, fun j hj => by
      rcases List.mem_cons.1 hj with rfl | hj
      · exact h1
      · exact c2 j hj⟩
theorem round_grows {n : Nat} {s t : Z.X × List Nat} (hc : 0 < cnt (Z.liv s.1) n) (hl : s.2.length < M) (h : Turns Z n M ((List.range n).map fun j : Nat => (j : Int)) s t) : s.2.length < t.2.length := by
  obtain ⟨h1, h2⟩ := turns_len h
  rcases Nat.lt_or_eq_of_le h1 with h1 | h1
  · exact h1
  exfalso
  obtain ⟨_, h3⟩ := h2 h1.symm
  have : ∃ j, j < n ∧ Z.liv s.1 j = true := by
    apply Classical.byContradiction
    intro hno
    have : cnt (Z.liv s.1) n = 0 := cnt_zero.2 fun j hj => by
      cases e : Z.liv s.1 j with
      | false => rfl
      | true => exact absurd ⟨j, hj, e⟩ hno
    omega
  obtain ⟨j, hj, hlj⟩ := this
  have ht := h3 j (by simp; exact ⟨j, hj, rfl⟩)
  unfold Turn at ht
  rw [if_pos ⟨by omega, by omega, by simpa using hlj, by omega⟩] at ht
  have := congrArg List.length ht.2
  simp at this
theorem tok_sched [ok : Fits g] (zok : Z.Ok g) (hs0 : 0 < s0) (hM : M ≤ 1048576) (hn64 : g.n ≤ 64) {S : List Int} {sa : Option Addr} {sb so sc : Nat} (hsa : 0 < S.length → sa = some ⟨sb, so, none⟩) (hS : RowIs Z sb so (S.map fun i : Int => Value.int .i64 i)) (hSl : S.length < 10000000) {cs : List Frame} {st : Z.X × List Nat}
    (hk : ∀ t Inb w A, Turns Z g.n M S st t → Under2 Z g v base M s0 t Inb w → Slots 129 A (ovRnd g v) → Tok Try.prog g.K g.Still g.top Gl Inb 0 (s0 + g.n) (G ((Go.Conc.base 62).at ⟨A, []⟩ [.code ovs31, .inLoop ovs31, .inBlock 6, .code ovs39]) cs) w) :
    ∀ (k j : Nat), j + k = S.length → ∀ s Inb w A, Turns Z g.n M (S.take j) st s → Under2 Z g v base M s0 s Inb w → Slots 129 A (ovSched g v (.slice sa S.length sc) S.length j) →
      Tok Try.prog g.K g.Still g.top Gl Inb 0 (s0 + g.n) (G ((Go.Conc.base 62).at ⟨A, []⟩ [.code ovs25, .inLoop ovs25, .inBlock 4, .code ovs29]) cs) w := by
  intro k
  induction k with
  | zero =>
    intro j hj s Inb w A ht hU hA
    obtain rfl : j = S.length := by omega
    rw [List.take_length] at ht
    exact tok_go _ (fun Stop h => ov_t4 hA h) fun A d hA => hk s _ _ A ht (hU.at zok d) hA
  | succ k ih =>
    intro j hj s Inb w A ht hU hA
    have hjl : j < S.length := by omega
    obtain rfl := hsa (by omega)
    have hU' := hU
    obtain ⟨hlen, vs, N, oa, oc, ms, rfl, HT, HM⟩ := hU'
    obtain ⟨hc, hz⟩ := hS.cell (k := j) (u := .int .i64 S[j]) zok HT.u (by simp [hjl])
    refine tok_go (fun A => G (Frame.enter Try.prog 71 (step1Args g v S[j]) .normal) (((Go.Conc.base 62).at ⟨A, []⟩ [.inRegion ovo21 [2], .inBlock 5, .code ovr22, .inLoop ovs25, .inBlock 4, .code ovs29]) :: cs)) (fun Stop h => ov_t2 hjl hSl hc hz hA h) fun A d hA => ?_
    refine tok_any zok hs0 hM hn64 (hU.at zok d) fun t Inb' w' htn hU' => ?_
    refine tok_go _ (fun Stop h => ov_t3 (by omega) hA h) fun A d hA => ?_
    refine ih (j + 1) (by omega) t Inb' _ A ?_ (hU'.at zok d) hA
    rw [← List.take_append_getElem hjl]
    exact turns_append.2 ⟨s, ht, turns_one.2 htn⟩
theorem tok_round [ok : Fits g] (zok : Z.Ok g) (hs0 : 0 < s0) (hM : M ≤ 1048576) (hn64 : g.n ≤ 64) {cs : List Frame} {st : Z.X × List Nat}
    (hk : ∀ t Inb w A, Turns Z g.n M ((List.range g.n).map fun j : Nat => (j : Int)) st t → Under2 Z g v base M s0 t Inb w → Slots 129 A (ovRnd g v) → Tok Try.prog g.K g.Still g.top Gl Inb 0 (s0 + g.n) (G ((Go.Conc.base 62).at ⟨A, []⟩ [.code ovs31, .inLoop ovs31, .inBlock 6, .code ovs39]) cs) w) :
    ∀ (k j : Nat), j + k = g.n → ∀ s Inb w A, Turns Z g.n M ((List.range j).map fun j : Nat => (j : Int)) st s → Under2 Z g v base M s0 s Inb w → Slots 129 A (ovRnd2 g v j) →
      Tok Try.prog g.K g.Still g.top Gl Inb 0 (s0 + g.n) (G ((Go.Conc.base 62).at ⟨A, []⟩ [.code ovs35, .inLoop ovs35, .inBlock 8, .inBlock 7, .inLoop ovs31, .inBlock 6, .code ovs39]) cs) w := by
  intro k
  induction k with
  | zero =>
    intro j hj s Inb w A ht hU hA
    obtain rfl : j = g.n := by omega
    exact tok_go _ (fun Stop h => ov_t9 hA h) fun A d hA => hk s _ _ A ht (hU.at zok d) hA
  | succ k ih =>
    intro j hj s Inb w A ht hU hA
    refine tok_go (fun A => G (Frame.enter Try.prog 71 (step1Args g v j) .normal) (((Go.Conc.base 62).at ⟨A, []⟩ [.inRegion ovo27 [2], .inBlock 9, .code ovr28, .inLoop ovs35, .inBlock 8, .inBlock 7, .inLoop ovs31, .inBlock 6, .code ovs39]) :: cs)) (fun Stop h => ov_t7 (by omega) hA h) fun A d hA => ?_
    refine tok_any zok hs0 hM hn64 (hU.at zok d) fun t Inb' w' htn hU' => ?_
    refine tok_go _ (fun Stop h => ov_t8 (by omega) hA h) fun A d hA => ?_
    refine ih (j + 1) (by omega) t Inb' _ A ?_ (hU'.at zok d) hA
    rw [List.range_succ, List.map_append]
    exact turns_append.2 ⟨s, ht, turns_one.2 htn⟩
theorem tok_rounds [ok : Fits g] (zok : Z.Ok g) (hs0 : 0 < s0) (hM : M ≤ 1048576) (hn64 : g.n ≤ 64) {cs : List Frame} :
    ∀ (m : Nat) (s : Z.X × List Nat), M - s.2.length ≤ m → ∀ Inb w A, (∀ t Inb w A, Rounds Z g.n M s t → Under2 Z g v base M s0 t Inb w → Slots 129 A (ovRnd g v) → Tok Try.prog g.K g.Still g.top Gl Inb 0 (s0 + g.n) (G ((Go.Conc.base 62).at ⟨A, []⟩ [.code ovs39]) cs) w) →
      Under2 Z g v base M s0 s Inb w → Slots 129 A (ovRnd g v) →
      Tok Try.prog g.K g.Still g.top Gl Inb 0 (s0 + g.n) (G ((Go.Conc.base 62).at ⟨A, []⟩ [.code ovs31, .inLoop ovs31, .inBlock 6, .code ovs39]) cs) w := by
  intro m
  induction m with
  | zero => ?_
  | succ m ih => ?_
  all_goals
    intro s hm Inb w A hk hU hA
    have hU' := hU
    obtain ⟨hlen, vs, N, oa, oc, ms, rfl, HT, HM⟩ := hU'
    obtain ⟨cod, hod1, hod2⟩ := HM.od
    rcases Nat.eq_zero_or_pos (cnt (Z.liv s.1) g.n) with h0 | h0
    · have hl := HM.lf
      rw [h0] at hl
      exact tok_go _ (fun Stop h => ov_t5b hl hA h) fun A d hA => hk s _ _ A (.done (.inl h0)) (hU.at zok d) hA
    by_cases hfull : M ≤ s.2.length
    · exact tok_go _ (fun Stop h => ov_t5c HM.lf h0 ⟨⟨cod, _, hod1, hod2⟩, rfl⟩ HM.mo hfull hA h) fun A d hA => hk s _ _ A (.done (.inr hfull)) (hU.at zok d) hA
    first
    | (exfalso; omega)
    | (refine tok_go _ (fun Stop h => ov_t5a HM.lf h0 ⟨⟨cod, _, hod1, hod2⟩, rfl⟩ HM.mo (by omega) HM.n hA h) fun A d hA => ?_
       refine tok_round zok hs0 hM hn64 (st := s) (fun t Inb w A ht hU hA => ?_) g.n 0 (by omega) s _ _ A rfl (hU.at zok d) hA
       have := round_grows h0 (by omega) ht
       exact ih t (by omega) Inb w A (fun t' Inb w A hr => hk t' Inb w A (.more h0 (by omega) ht hr)) hU hA)
end Go.Proofs.Ytcejbandeikdjaa
namespace Go.Proofs.Ytcejbandeikdjaa
open Go Go.Conc Go.RowKit Go.Proofs
open Go.ConcN (sumTo upd sumTo_upd upd_ne upd_same)
variable {g : Gate} {F : Fz} {Z : Users} {x y : Z.X} {w w' : World} {s0 nn h : Nat} {Gl : Machine → Trace → Prop} {v : Mine} {base M : Nat} {Inb : Nat → Option Seat}
theorem tok_bes' {An : Anchor} {P : Program} {K : World → Prop} (hKA : ∀ w, K w → An.Holds w) {Still : Loc → Prop} {B0 n : Nat} {Stop : Goroutine → World → Prop} {a : Goroutine} (hI : ∀ i, i ≠ 0 → Inb i = none) (h : Bes An P Stop a w) : Tok P K Still B0 (BesG An P Stop) Inb 0 n a w := by
  intro gs sl T q B hB hn hg C
  obtain ⟨hL, hP⟩ := ring_end C (.inr rfl) hI
  obtain ⟨N, gs', g', w', sl', T', q', B', hr, hg', hS', hL', hP', hA'⟩ := h gs sl T q B hg hL hP (hKA _ C.keep)
  exact ⟨N, _, T', hr, gs', g', w', sl', q', B', rfl, hg', hS', hL', hP', hA'⟩
def lateA (Z : Users) (x : Z.X) (n j : Nat) : Nat → Bool := fun k => decide (j ≤ k) && (decide (k < n) && Z.liv x k)
def lateO (Z : Users) (x : Z.X) (n j : Nat) : Nat → Bool := fun k => decide (k < n) && (!Z.liv x k || decide (k < j))
theorem lateA_next {n j : Nat} : (fun k => lateA Z x n j k && k != j) = lateA Z x n (j + 1) := by
  funext k
  unfold lateA
  by_cases e : k = j
  · subst e; simp; omega
  · have e1 : (k != j) = true := by simpa using e
    have e2 : decide (j ≤ k) = decide (j + 1 ≤ k) := by by_cases h : j ≤ k <;> simp [h] <;> omega
    rw [e1, e2]; simp
theorem lateO_next {n j : Nat} (hj : j < n) : (fun k => if k = j then true else lateO Z x n j k) = lateO Z x n (j + 1) := by
  funext k
  unfold lateO
  by_cases e : k = j
  · subst e; simp [hj]
  · have e2 : decide (k < j) = decide (k < j + 1) := by by_cases h : k < j <;> simp [h] <;> omega
    rw [if_neg e, e2]
theorem lateA_skip {n j : Nat} (hl : Z.liv x j = false) : lateA Z x n j = lateA Z x n (j + 1) := by
  rw [← lateA_next]
  funext k
  by_cases e : k = j
  · subst e; simp [lateA, hl]
  · have e1 : (k != j) = true := by simpa using e
    rw [e1]; simp
theorem lateO_skip {n j : Nat} (hj : j < n) (hl : Z.liv x j = false) : lateO Z x n j = lateO Z x n (j + 1) := by
  rw [← lateO_next hj]
  funext k
  by_cases e : k = j
  · subst e; simp [lateO, hl, hj]
  · rw [if_neg e]
theorem tok_kills [ok : Fits g] (zok : Z.Ok g) (hs0 : 0 < s0) (hn64 : g.n ≤ 64) {osa : Option Addr} (hsl : g.sl = .slice osa g.n g.sc) {oa0 : Unit} {cs : List Frame} {x : Z.X} {ord : List Nat} {st : Bool} {lf : Nat} {Stop : Goroutine → World → Prop}
    (hk : ∀ w A vs N oa oc ov, TI Z g (fun _ => False) vs N ov x w → MI Z g vs (fun _ => False) N v base M oa ord.length oc (ord.map fun i : Nat => Value.int .i64 i) lf w → g.K w → Slots 129 A (ovEnds g v st g.n) → Bes g.an Try.prog Stop (G ((Go.Conc.base 62).at ⟨A, []⟩ [.code ovs48]) cs) w) :
    ∀ (k j : Nat), j + k = g.n → ∀ w A vs N oa oc ms, TI Z g (fun k => lateA Z x g.n j k = true) vs N (lateO Z x g.n j) x w → MI Z g vs (fun k => lateA Z x g.n j k = true) N v base M oa ord.length oc (ord.map fun i : Nat => Value.int .i64 i) lf w → Slots 129 A (ovEnds g v st j) →
      Tok Try.prog g.K g.Still g.top (BesG g.an Try.prog Stop) (inb Z g s0 (lateA Z x g.n j) vs ms x) 0 (s0 + g.n) (G ((Go.Conc.base 62).at ⟨A, []⟩ [.code ovs43, .inLoop ovs43, .inBlock 10, .code ovs48]) cs) w := by
  intro k
  induction k with
  | zero =>
    intro j hj w A vs N oa oc ms H HM hA
    obtain rfl : j = g.n := by omega
    refine tok_intro fun _ hK _ => ?_
    refine tok_go _ (fun Stop h => ov_t14 hA h) fun A d hA => ?_
    have hno : ∀ k, ¬ lateA Z x g.n g.n k = true := fun k hk => by
      simp only [lateA, Bool.and_eq_true, decide_eq_true_eq] at hk; omega
    refine tok_bes' (fun w h => h.an) (fun i hi => ?_) (hk _ A vs N oa oc _ ((H.mono fun j hj => hj.elim).at zok d) ((HM.mono fun j hj => hj.elim).at d) (hK.at d) hA)
    unfold inb
    rw [if_neg hi, if_neg fun h => hno _ h.2]
  | succ k ih =>
    intro j hj w A vs N oa oc ms H HM hA
    have hin : j < g.n := by omega
    have hiH : Has g j := ⟨hin⟩
    refine tok_intro fun _ hK _ => ?_
    have ho := H.over j hin
    rcases Bool.eq_false_or_eq_true (Z.liv x j) with hl | hl
    · have e0 : lateO Z x g.n j j = false := by simp [lateO, hl]
      have eA : lateA Z x g.n j j = true := by simp [lateA, hl, hin]
      rw [e0] at ho
      refine tok_go (fun A => G (Frame.enter Try.prog 72 #[.pointer (some ⟨g.tb, 0, none⟩), .int .i64 j, .bool false] .normal) (((Go.Conc.base 62).at ⟨A, []⟩ [.inRegion ovo34 [2], .inBlock 11, .code ovr35, .inLoop ovs43, .inBlock 10, .code ovs48]) :: cs)) (fun Stop h => ov_t11a hK ho hA h) fun A d hA => ?_
      refine tok_let_end zok hs0 (fun k hk => ?_) eA hl (H.at zok d) e0 fun w1 H1 k1 => ?_
      · simp only [lateA, Bool.and_eq_true, decide_eq_true_eq] at hk
        exact ⟨hk.2.1, by omega⟩
      have eP : (fun k => (lateA Z x g.n j k && k != j) = true) = fun k => lateA Z x g.n (j + 1) k = true := by
        funext k; rw [show (lateA Z x g.n j k && k != j) = _ from congrFun lateA_next k]
      rw [eP, lateO_next hin] at H1
      rw [lateA_next]
      have HM1 := ((HM.at d).kept hin eA k1).mono (Al' := fun k => lateA Z x g.n (j + 1) k = true) fun k hk => by
        rw [← lateA_next] at hk
        simp only [Bool.and_eq_true] at hk
        exact hk.1
      refine tok_go _ (fun Stop h => ov_t12 (by omega) hA h) fun A d hA => ?_
      exact ih (j + 1) (by omega) _ A vs N oa oc _ (H1.at zok d) (HM1.at d) hA
    · have e0 : lateO Z x g.n j j = true := by simp [lateO, hl, hin]
      rw [e0] at ho
      refine tok_go _ (fun Stop h => ov_t13 hn64 hK ho hA h) fun A d hA => ?_
      have H1 := H.at zok d
      have HM1 := HM.at d
      rw [lateA_skip hl] at HM1 ⊢
      rw [lateA_skip hl, lateO_skip hin hl] at H1
      exact ih (j + 1) (by omega) _ A vs N oa oc _ H1 HM1 hA
theorem tok_ends [ok : Fits g] (zok : Z.Ok g) (hs0 : 0 < s0) (hn64 : g.n ≤ 64) {osa : Option Addr} (hsl : g.sl = .slice osa g.n g.sc) {cs : List Frame} {s : Z.X × List Nat} {Stop : Goroutine → World → Prop}
    (hk : ∀ w A vs N oa oc ov, TI Z g (fun _ => False) vs N ov s.1 w → MI Z g vs (fun _ => False) N v base M oa s.2.length oc (s.2.map fun i : Nat => Value.int .i64 i) (cnt (Z.liv s.1) g.n) w → g.K w → Slots 129 A (ovEnds g v (decide (0 < cnt (Z.liv s.1) g.n)) g.n) → Bes g.an Try.prog Stop (G ((Go.Conc.base 62).at ⟨A, []⟩ [.code ovs48]) cs) w)
    {A : Array Value} (hU : Under2 Z g v base M s0 s Inb w) (hA : Slots 129 A (ovRnd g v)) :
    Tok Try.prog g.K g.Still g.top (BesG g.an Try.prog Stop) Inb 0 (s0 + g.n) (G ((Go.Conc.base 62).at ⟨A, []⟩ [.code ovs39]) cs) w := by
  obtain ⟨hlen, vs, N, oa, oc, ms, rfl, HT, HM⟩ := hU
  refine tok_intro fun _ hK _ => ?_
  refine tok_go _ (fun Stop h => ov_t10 rfl hK HM.lf hsl hA h) fun A d hA => ?_
  have eA : (fun j => decide (j < g.n) && Z.liv s.1 j) = lateA Z s.1 g.n 0 := by funext k; simp [lateA]
  have eO : (fun j => decide (j < g.n) && !Z.liv s.1 j) = lateO Z s.1 g.n 0 := by funext k; simp [lateO]
  have eP : (fun j => (decide (j < g.n) && Z.liv s.1 j) = true) = fun k => lateA Z s.1 g.n 0 k = true := by funext k; rw [show (decide (k < g.n) && Z.liv s.1 k) = _ from congrFun eA k]
  rw [eP] at HT HM
  rw [eO] at HT
  rw [eA]
  exact tok_kills (oa0 := ()) zok hs0 hn64 hsl (ord := s.2) (st := decide (0 < cnt (Z.liv s.1) g.n)) (lf := cnt (Z.liv s.1) g.n) hk g.n 0 (by omega) _ A vs N oa oc ms (HT.at zok d) (HM.at d) hA
end Go.Proofs.Ytcejbandeikdjaa
namespace Go.Proofs.Ytcejbandeikdjaa
open Go Go.Conc Go.RowKit Go.Proofs
variable {P : Program} {F : Fz} {fn : FuncId} {ops : Array Oper} {S : World → Prop} {last : Nat} {Z : Act → World → Prop}
def OpM (P : Program) (F : Fz) (fn : FuncId) (ops : Array Oper) (i : Nat) (K : Act → World → Prop) (a : Act) (w : World) : Prop :=
  ∃ o, ops[i]? = some o ∧ ((Region.wanted o (yielded ops a.tmps) = true ∧ ∀ d, uponK o a (fun a' w' => GuarE F (w.at d) w' (listed P fn a o (w.at d)) ∧ K a' w') ((execOp a.eval o).run P (w.at d))) ∨
    (Region.wanted o (yielded ops a.tmps) = false ∧ K (a.put o.dst undef) w))
def AnyM (P : Program) (F : Fz) (fn : FuncId) (ops : Array Oper) (S : World → Prop) (last : Nat) (Z : Act → World → Prop) : Nat → Array Bool → Act → World → Prop
  | 0, listed, a, w => ((∀ j ∈ Region.ready .any ops listed, j = last) → Z a w) ∧ ∀ j ∈ Region.ready .any ops listed, j = last
  | fuel + 1, listed, a, w => ((∀ j ∈ Region.ready .any ops listed, j = last) → Z a w) ∧ ∀ i ∈ Region.ready .any ops listed, i ≠ last → OpM P F fn ops i (fun a w => S w ∧ AnyM P F fn ops S last Z fuel (listed.setIfInBounds i true) a w) a w
theorem uponK_mono {o : Oper} {a : Act} {K K' : Act → World → Prop} {r : Result Next} (h : ∀ u w, K (a.put o.dst u) w → K' (a.put o.dst u) w) (hh : uponK o a K r) : uponK o a K' r := by
  cases r with
  | ok x w => cases x <;> first | exact h _ _ hh | exact hh
  | halt _ _ => exact hh
theorem OpM_mono {i : Nat} {a : Act} {w : World} {K K' : Act → World → Prop} (h : ∀ a w, K a w → K' a w) (hh : OpM P F fn ops i K a w) : OpM P F fn ops i K' a w := by
  obtain ⟨o, h1, ⟨h2, h3⟩ | ⟨h2, h3⟩⟩ := hh
  · exact ⟨o, h1, .inl ⟨h2, fun d => uponK_mono (fun u w ⟨x, y⟩ => ⟨x, h _ _ y⟩) (h3 d)⟩⟩
  · exact ⟨o, h1, .inr ⟨h2, h _ _ h3⟩⟩
theorem OpM_at {i : Nat} {a : Act} {w : World} {K : Act → World → Prop} (hK : ∀ a w d, K a w → K a (World.at w d)) (h : OpM P F fn ops i K a w) (d : Nat) : OpM P F fn ops i K a (w.at d) := by
  obtain ⟨o, h1, ⟨h2, h3⟩ | ⟨h2, h3⟩⟩ := h
  · exact ⟨o, h1, .inl ⟨h2, fun d' => by rw [at_at']; exact h3 d'⟩⟩
  · exact ⟨o, h1, .inr ⟨h2, hK _ _ _ h3⟩⟩
theorem anyM_at (hS : ∀ w d, S w → S (World.at w d)) (hZ : ∀ a w d, Z a w → Z a (World.at w d)) : ∀ (fuel : Nat) (listed : Array Bool) (a : Act) (w : World), AnyM P F fn ops S last Z fuel listed a w → ∀ d, AnyM P F fn ops S last Z fuel listed a (w.at d) := by
  intro fuel
  induction fuel with
  | zero => exact fun listed a w h d => ⟨fun x => hZ _ _ _ (h.1 x), h.2⟩
  | succ fuel ih => exact fun listed a w h d => ⟨fun x => hZ _ _ _ (h.1 x), fun i hi hl => OpM_at (fun a w d ⟨x, y⟩ => ⟨hS _ _ x, ih _ _ _ y d⟩) (h.2 i hi hl) d⟩
theorem OpM_put {i j : Nat} {oi oj : Oper} {v : Value} (hj : ops[j]? = some oj) (hap : oi.apart ops oj = true) (hsj : ∀ cs b, oj.op ≠ .select cs b) {K : Act → World → Prop} {a : Act} {w : World}
    (h : OpM P F fn ops j K (a.put oi.dst v) w) : OpM P F fn ops j (fun a' w' => ∃ u, a' = a.put oj.dst u ∧ K (a'.put oi.dst v) w') a w := by
  obtain ⟨h1, h2, h3⟩ := Oper.apart_spec hap
  obtain ⟨o, ho, hh⟩ := h
  rw [hj] at ho
  cases ho
  have e1 : execOp (a.put oi.dst v).eval oj = execOp a.eval oj := execOp_put oj hsj a oi.dst v h1
  have e2 := wanted_put oj a oi.dst v h1
  refine ⟨oj, hj, ?_⟩
  unfold listed at *
  rw [e1, e2] at hh
  rcases hh with ⟨hw, hh⟩ | ⟨hw, hh⟩
  · refine .inl ⟨hw, fun d => ?_⟩
    have := hh d
    cases hr : (execOp a.eval oj).run P (w.at d) with
    | halt _ _ => rw [hr] at this; exact this
    | ok x w' =>
      rw [hr] at this
      cases x with
      | value u => exact ⟨this.1, u, rfl, by rw [← Act.put_comm a v u h2]; exact this.2⟩
      | skip => exact ⟨this.1, undef, rfl, by rw [← Act.put_comm a v undef h2]; exact this.2⟩
      | _ => exact this
  · exact .inr ⟨hw, undef, rfl, by rw [← Act.put_comm a v undef h2]; exact hh⟩
theorem anyM_first (hS : ∀ w d, S w → S (World.at w d)) (hZ : ∀ a w d, Z a w → Z a (World.at w d)) {i : Nat} {oi : Oper} {v : Value} (hi : ops[i]? = some oi) (hil : i ≠ last) (hsel : ∀ (j : Nat) (o : Oper) cs b, ops[j]? = some o → o.op ≠ .select cs b) :
    ∀ (fuel : Nat) (listed : Array Bool) (a : Act) (w : World), S w →
      (∀ j oj, ops[j]? = some oj → j ≠ i → listed.getD j true = false → (∀ e ∈ oj.after, Region.binds .any e = true → e.on ≠ i) → oi.apart ops oj = true) →
      i ∈ Region.ready .any ops listed → (∀ w, S w → YQ P F fn ops w oi v a) →
      AnyM P F fn ops S last Z fuel (listed.setIfInBounds i true) (a.put oi.dst v) w → AnyM P F fn ops S last Z (fuel + 1) listed a w := by
  have self : ∀ (fuel : Nat) (listed : Array Bool) (a : Act) (w : World), S w → (∀ w, S w → YQ P F fn ops w oi v a) → AnyM P F fn ops S last Z fuel (listed.setIfInBounds i true) (a.put oi.dst v) w →
      OpM P F fn ops i (fun a w => S w ∧ AnyM P F fn ops S last Z fuel (listed.setIfInBounds i true) a w) a w := by
    intro fuel listed a w hw hy H
    rcases hy w hw with ⟨h1, h2⟩ | ⟨h1, rfl⟩
    · exact ⟨oi, hi, .inl ⟨h1, fun d => by rw [(h2 d).1]; exact ⟨⟨⟨0, Grew.refl F _⟩, (h2 d).2⟩, hS _ _ hw, anyM_at hS hZ _ _ _ _ H d⟩⟩⟩
    · exact ⟨oi, hi, .inr ⟨h1, hw, H⟩⟩
  intro fuel
  induction fuel with
  | zero =>
    intro listed a w hw _ hr hy H
    refine ⟨fun h => absurd (h i hr) hil, fun j hj hjl => ?_⟩
    by_cases hji : j = i
    · subst hji; exact self _ _ _ _ hw hy H
    · exact absurd (H.2 j (ready_mono hj hji)) hjl
  | succ fuel ih =>
    intro listed a w hw hfree hr hy H
    refine ⟨fun h => absurd (h i hr) hil, fun j hj hjl => ?_⟩
    by_cases hji : j = i
    · subst hji; exact self _ _ _ _ hw hy H
    · have h1 := H.2 j (ready_mono hj hji) hjl
      obtain ⟨hjun, oj, hoj, hall⟩ := mem_ready.1 hj
      have hnot : ∀ e ∈ oj.after, Region.binds .any e = true → e.on ≠ i := fun e he hb heq => by
        have h1 := hall e he hb
        have h0 := (mem_ready.1 hr).1
        rw [heq] at h1
        rcases Nat.lt_or_ge i listed.size with h' | h'
        · simp [h'] at h0 h1; rw [h0] at h1; cases h1
        · simp [Array.getElem?_eq_none h'] at h1
      have hap := hfree j oj hoj hji hjun hnot
      obtain ⟨p1, p2, p3⟩ := Oper.apart_spec hap
      have h2 := OpM_put (i := i) (oi := oi) hoj hap (fun cs b => hsel j oj cs b hoj) h1
      have hfree' : ∀ k ok, ops[k]? = some ok → k ≠ i → (listed.setIfInBounds j true).getD k true = false →
          (∀ e ∈ ok.after, Region.binds .any e = true → e.on ≠ i) → oi.apart ops ok = true := fun k ok hk hki hun hno => by
        refine hfree k ok hk hki ?_ hno
        by_cases hjk : j = k
        · subst hjk; exact hjun
        · rw [getD_set_ne true hjk] at hun; exact hun
      refine OpM_mono (fun a' w' h3 => ?_) h2
      obtain ⟨u, rfl, hw', h4⟩ := h3
      refine ⟨hw', ih (listed.setIfInBounds j true) _ _ hw' hfree' (ready_mono hr (Ne.symm hji)) (fun w hw => (hy w hw).of_same (execOp_put oi (fun cs b => hsel i oi cs b hi) a oj.dst u p3) (wanted_put oi a oj.dst u p3)) ?_⟩
      rw [Array.setIfInBounds_comm _ _ hji]
      exact h4
theorem anyM_take (hS : ∀ w d, S w → S (World.at w d)) (hZ : ∀ a w d, Z a w → Z a (World.at w d)) {i : Nat} {oi : Oper} {v : Value} {fuel : Nat} {listed : Array Bool} {a : Act} {w : World} (hw : S w) (hi : ops[i]? = some oi) (hil : (i != last) = true) (hs : Region.noSelect ops = true) (hf : Region.free .any ops listed i = true)
    (hr : (Region.ready .any ops listed).contains i = true) (hy : ∀ w, S w → YQ P F fn ops w oi v a) (h : AnyM P F fn ops S last Z fuel (listed.setIfInBounds i true) (a.put oi.dst v) w) : AnyM P F fn ops S last Z (fuel + 1) listed a w :=
  anyM_first hS hZ hi (by simpa using hil) (Region.noSelect_spec hs) fuel listed a w hw (Region.free_spec hi hf) (by simpa using hr) hy h
theorem anyM_all {fuel : Nat} {listed : Array Bool} {a : Act} {w : World} {r : List Nat} (hr : Region.ready .any ops listed = r) (hl : r.any (· != last) = true)
    (h : ∀ i ∈ r, i ≠ last → OpM P F fn ops i (fun a w => S w ∧ AnyM P F fn ops S last Z fuel (listed.setIfInBounds i true) a w) a w) : AnyM P F fn ops S last Z (fuel + 1) listed a w :=
  ⟨fun hn => by
    rw [hr] at hn
    obtain ⟨i, hi, hil⟩ := List.any_eq_true.1 hl
    exact absurd (hn i hi) (by simpa using hil), by rw [hr]; exact h⟩
theorem anyM_end {listed : Array Bool} {a : Act} {w : World} (hr : Region.ready .any ops listed = [last]) (h : Z a w) : ∀ fuel, AnyM P F fn ops S last Z fuel listed a w
  | 0 => ⟨fun _ => h, by rw [hr]; simp⟩
  | _ + 1 => ⟨fun _ => h, fun i hi hne => absurd (by rw [hr] at hi; simpa using hi) hne⟩
theorem own_opm {main : Bool} {Stop : Goroutine → World → Prop} {b : Frame} {a : Act} {w : World} {k : List Item} {cs : List Frame} {i : Nat} {rest : List Nat} (hk : b.kind ≠ .early)
    (h : OpM P F b.fn ops i (fun a w => Own P main F Stop (G (b.at a (.inRegion ops rest :: k)) cs) w) a w) : Own P main F Stop (G (b.at a (.inRegion ops (i :: rest) :: k)) cs) w := by
  obtain ⟨o, ho, ⟨hw, hh⟩ | ⟨hw, hh⟩⟩ := h
  · refine .step rfl fun d => ?_
    have := hh d
    cases hr : (execOp a.eval o).run P (w.at d) with
    | halt _ _ => rw [hr] at this; exact this.elim
    | ok x w' =>
      rw [hr] at this
      cases x with
      | value u => exact ⟨_, _, _, stepG_value ho hw hk hr, this.1, this.2⟩
      | skip => exact ⟨_, _, _, stepG_none ho hw hk hr, this.1, this.2⟩
      | _ => exact this.elim
  · exact .step rfl fun d => ⟨_, _, #[], stepG_unwanted ho hw, ⟨⟨0, Grew.refl F _⟩, by simp⟩, hh.at d⟩
theorem anyM_sound (L : LL ops last) {main : Bool} {Stop : Goroutine → World → Prop} {b : Frame} {k : List Item} {cs : List Frame} (hk : b.kind ≠ .early) :
    ∀ (fuel t : Nat) (listed : Array Bool) (a : Act) (w : World), listed.size = ops.size → DownTo ops listed → listed.getD last true = false →
      AnyM P F b.fn ops S last (fun a w => Own P main F Stop (G (b.at a (.inRegion ops [last] :: k)) cs) w) fuel listed a w →
      Own P main F Stop (G (b.at a (.inRegion ops (Region.linearise.go .any ops (fuel + 1) t listed []) :: k)) cs) w := by
  intro fuel
  induction fuel with
  | zero => ?_
  | succ fuel ih => ?_
  all_goals
    intro t listed a w hs hc hl H
    obtain ⟨i0, hi0⟩ := some_ready L hs last hl
    have hlen : 0 < (Region.ready .any ops listed).length := List.length_pos_of_mem hi0
    obtain ⟨i, hi⟩ : ∃ i, (Region.ready .any ops listed)[t % (Region.ready .any ops listed).length]? = some i := ⟨_, List.getElem?_eq_getElem (Nat.mod_lt _ hlen)⟩
    have hmem := List.mem_of_getElem? hi
    rw [Region.linearise.go]
    change Own P main F Stop (G (b.at a (.inRegion ops (match (Region.ready .any ops listed)[t % (Region.ready .any ops listed).length]? with
      | some i => Region.linearise.go .any ops _ (t / (Region.ready .any ops listed).length) (listed.setIfInBounds i true) [i]
      | none => [].reverse) :: k)) cs) w
    rw [hi]
    simp only []
    rw [linearise_go_acc, List.reverse_singleton, List.singleton_append]
  · obtain rfl := H.2 i hmem
    simp only [Region.linearise.go, List.reverse_nil]
    exact H.1 H.2
  · by_cases hil : i = last
    · subst hil
      have hall := all_listed L hs hc hmem i
      have hre : ∀ j ∈ Region.ready .any ops listed, j = i := by
        intro j hj
        obtain ⟨h0, o, ho, _⟩ := mem_ready.1 hj
        have hlt := (Array.getElem?_eq_some_iff.1 ho).1
        have hsz := L.size
        rcases Nat.lt_or_ge j i with h | h
        · have := hall j (by omega) h
          rw [getD_tf (by omega), this] at h0; cases h0
        · omega
      have hnil : Region.ready .any ops (listed.setIfInBounds i true) = [] := by
        apply List.eq_nil_iff_forall_not_mem.2
        intro j hj
        obtain ⟨h0, o, ho, _⟩ := mem_ready.1 hj
        have hlt := (Array.getElem?_eq_some_iff.1 ho).1
        have hsz := L.size
        by_cases e : i = j
        · subst e
          rw [getD_tf (by simp; omega)] at h0
          have : i < listed.size := by omega
          simp [this] at h0
        · rw [getD_set_ne true e, getD_tf (by omega), hall j (by omega) (by omega)] at h0; cases h0
      have : Region.linearise.go .any ops (fuel + 1) (t / (Region.ready .any ops listed).length) (listed.setIfInBounds i true) [] = [] := by
        rw [Region.linearise.go]
        change (match (Region.ready .any ops (listed.setIfInBounds i true))[(t / (Region.ready .any ops listed).length) % (Region.ready .any ops (listed.setIfInBounds i true)).length]? with
          | some i => _
          | none => [].reverse) = []
        rw [hnil]; rfl
      rw [this]
      exact H.1 hre
    · refine own_opm hk (OpM_mono (fun a' w' ⟨_, hK⟩ => ih _ _ _ _ (by simpa using hs) (fun j o' hj hlj e he hb => ?_) (by rw [getD_set_ne true hil]; exact hl) hK) (H.2 i hmem hil))
      by_cases e2 : i = j
      · subst e2
        obtain ⟨_, o2, ho2, hd⟩ := mem_ready.1 hmem
        rw [hj] at ho2
        cases ho2
        exact getD_set_true (hd e he hb)
      · rw [getD_set_ne false e2] at hlj
        exact getD_set_true (hc j o' hj hlj e he hb)
theorem own_drawnM (S : World → Prop) (hm : P.follows .mixedOrders = true) (L : LL ops last) {id : Nat} {main : Bool} {Stop : Goroutine → World → Prop} {b : Frame} {a : Act} {w : World} {k : List Item} {cs : List Frame} (hk : b.kind ≠ .early)
    (h : AnyM P F b.fn ops S last (fun a w => Own P main F Stop (G (b.at a (.inRegion ops [last] :: k)) cs) w) last (Array.replicate ops.size false) a w) :
    Own P main F Stop (G (b.at a (.code (.region id ops true) :: k)) cs) w := by
  refine .step rfl fun d => ⟨_, _, _, stepG_region_draw, ⟨⟨1, ?_⟩, by simp⟩, ?_⟩
  · exact ⟨rfl, rfl, rfl, rfl, Nat.le_refl _, fun _ _ h => .inr h, fun _ _ => rfl⟩
  · have hs := L.size
    have := anyM_sound (S := S) (cs := cs) (k := k) L hk last ((w.at d).tape (w.at d).drawn (.order b.fn id)) (Array.replicate ops.size false) a w (by simp) (fun j o _ hl => by
      simp at hl
      rcases Nat.lt_or_ge j ops.size with h1 | h1 <;> simp [h1] at hl) (by simp [hs]) h
    rw [← hs] at this
    simp only [Region.schedule, hm, Bool.true_or, if_true]
    exact this.at (d + 1)
theorem opm_k {i : Nat} {o : Oper} {K : Act → World → Prop} {a : Act} {w : World} (ho : ops[i]? = some o) (hw : Region.wanted o (yielded ops a.tmps) = true)
    (h : ∀ (d : Nat) (K' : Act → World → Prop), (∀ a' w', GuarE F (w.at d) w' (listed P fn a o (w.at d)) ∧ K a' w' → K' a' w') → uponK o a K' ((execOp a.eval o).run P (w.at d))) : OpM P F fn ops i K a w :=
  ⟨o, ho, .inl ⟨hw, fun d => h d _ fun _ _ x => x⟩⟩
end Go.Proofs.Ytcejbandeikdjaa
namespace Go.Proofs.Ytcejbandeikdjaa
open Go Go.Conc Go.RowKit Go.Proofs
variable {g : Gate} {F : Fz} {w : World}
noncomputable def hdBody : Code := Try.f69.body.getD .skip
noncomputable def hds0 : Code := Code.piece [] hdBody
noncomputable def hdr0 : Code := Code.piece [true] hdBody
noncomputable def hdo0 : Array Oper := Code.opsOf hdr0
noncomputable def hds1 : Code := Code.piece [false] hdBody
noncomputable def hdr1 : Code := Code.piece [false, true] hdBody
noncomputable def hdo1 : Array Oper := Code.opsOf hdr1
theorem hds0_eq : hds0 = .seq hdr0 hds1 := by kernel_rfl
theorem hdr0_eq : hdr0 = .region 0 hdo0 false := by kernel_rfl
theorem hds1_eq : hds1 = .seq hdr1 .ret := by kernel_rfl
theorem hdr1_eq : hdr1 = .region 1 hdo1 false := by kernel_rfl
theorem enter_held (args : Array Value) : Frame.enter Try.prog 69 args .normal = (Go.Conc.base 69).at { tmps := args ++ Array.replicate (9 - args.size) undef, defers := [] } [.code hdBody] := enter_at args Try.func69 rfl
theorem callable69 : Callable 69 := callable Try.func69 rfl rfl
set_option maxRecDepth 100000 in
theorem own_held_low {m : Int} (hm : m < 0) {c : Frame} {cs : List Frame} {main : Bool} {Stop : Goroutine → World → Prop} (h : Own Try.prog main F Stop (G (c.finish (.int .i64 0)) cs) w) :
    Own Try.prog main F Stop (G (Frame.enter Try.prog 69 #[.int .i64 m, .int .i64 1048576] .normal) (c :: cs)) w := by
  have f1 : ¬ (0 : Int) < m := by omega
  rw [enter_held]
  change Own _ _ _ _ (G ((Go.Conc.base 69).at _ [.code hds0]) _) _
  walk_nrm
  rw [hds0_eq]
  refine own_go rfl (fun d => stepG_seq) ?_
  rw [hdr0_eq]
  refine own_go rfl (fun d => stepG_region) ?_
  simp only [hdo0, Code.opsOf, hdr0, Code.piece, hdBody, Try.f69, Option.getD_some, List.size_toArray, List.length_cons, List.length_nil, Nat.reduceAdd, Nat.zero_add, List.range, List.range.loop]
  (refine oWd rfl rfl (by decide) fun dd K hK => ?_; go_simp; refine hK _ _ ⟨⟨⟨0, Grew.refl _ _⟩, fun e he => by (have hm := mem_listed he; simp [go_sem] at hm)⟩, Own.at ?_ dd⟩; clear hK K)
  refine own_go rfl (fun d => stepG_region_end) ?_
  rw [hds1_eq]
  refine own_go rfl (fun d => stepG_seq) ?_
  rw [hdr1_eq]
  refine own_go rfl (fun d => stepG_region) ?_
  simp only [hdo1, Code.opsOf, hdr1, Code.piece, hdBody, Try.f69, Option.getD_some, List.size_toArray, List.length_cons, List.length_nil, Nat.reduceAdd, Nat.zero_add, List.range, List.range.loop]
  (refine oWd rfl rfl (by decide) fun dd K hK => ?_; go_simp; refine hK _ _ ⟨⟨⟨0, Grew.refl _ _⟩, fun e he => by (have hm := mem_listed he; simp [go_sem] at hm)⟩, Own.at ?_ dd⟩; clear hK K)
  (refine oWd rfl rfl (by decide) fun dd K hK => ?_; go_simp; refine hK _ _ ⟨⟨⟨0, Grew.refl _ _⟩, fun e he => by (have hm := mem_listed he; simp [go_sem] at hm)⟩, Own.at ?_ dd⟩; clear hK K)
  (refine oWd rfl rfl (by decide) fun dd K hK => ?_; go_simp; refine hK _ _ ⟨⟨⟨0, Grew.refl _ _⟩, fun e he => by (have hm := mem_listed he; simp [go_sem] at hm)⟩, Own.at ?_ dd⟩; clear hK K)
  (refine oWd rfl rfl (by decide) fun dd K hK => ?_; go_simp; refine hK _ _ ⟨⟨⟨0, Grew.refl _ _⟩, fun e he => by (have hm := mem_listed he; simp [go_sem] at hm)⟩, Own.at ?_ dd⟩; clear hK K)
  (refine oWd rfl rfl (by decide) fun dd K hK => ?_; go_simp; refine hK _ _ ⟨⟨⟨0, Grew.refl _ _⟩, fun e he => by (have hm := mem_listed he; simp [go_sem] at hm)⟩, Own.at ?_ dd⟩; clear hK K)
  refine own_go rfl (fun d => stepG_region_end) ?_
  refine own_go rfl (fun d => stepG_ret') ?_
  refine own_go rfl (fun d => stepG_leave (fn := Try.f69) (v := .int .i64 0) rfl rfl Try.func69 (by simp [results, Try.f69, go_sem, *]) (by simp [results, Try.f69, go_sem, *])) ?_
  exact h
set_option maxRecDepth 100000 in
theorem own_held_mid {m : Int} (hm : 0 ≤ m) (hm2 : m ≤ 1048576) {c : Frame} {cs : List Frame} {main : Bool} {Stop : Goroutine → World → Prop} (h : Own Try.prog main F Stop (G (c.finish (.int .i64 m)) cs) w) :
    Own Try.prog main F Stop (G (Frame.enter Try.prog 69 #[.int .i64 m, .int .i64 1048576] .normal) (c :: cs)) w := by
  have f1 : ¬ m < 0 := by omega
  have f2 : ¬ (1048576 : Int) < m := by omega
  rw [enter_held]
  change Own _ _ _ _ (G ((Go.Conc.base 69).at _ [.code hds0]) _) _
  walk_nrm
  rw [hds0_eq]
  refine own_go rfl (fun d => stepG_seq) ?_
  rw [hdr0_eq]
  refine own_go rfl (fun d => stepG_region) ?_
  simp only [hdo0, Code.opsOf, hdr0, Code.piece, hdBody, Try.f69, Option.getD_some, List.size_toArray, List.length_cons, List.length_nil, Nat.reduceAdd, Nat.zero_add, List.range, List.range.loop]
  (refine oWd rfl rfl (by decide) fun dd K hK => ?_; go_simp; refine hK _ _ ⟨⟨⟨0, Grew.refl _ _⟩, fun e he => by (have hm := mem_listed he; simp [go_sem] at hm)⟩, Own.at ?_ dd⟩; clear hK K)
  refine own_go rfl (fun d => stepG_region_end) ?_
  rw [hds1_eq]
  refine own_go rfl (fun d => stepG_seq) ?_
  rw [hdr1_eq]
  refine own_go rfl (fun d => stepG_region) ?_
  simp only [hdo1, Code.opsOf, hdr1, Code.piece, hdBody, Try.f69, Option.getD_some, List.size_toArray, List.length_cons, List.length_nil, Nat.reduceAdd, Nat.zero_add, List.range, List.range.loop]
  (refine oWd rfl rfl (by decide) fun dd K hK => ?_; go_simp; refine hK _ _ ⟨⟨⟨0, Grew.refl _ _⟩, fun e he => by (have hm := mem_listed he; simp [go_sem] at hm)⟩, Own.at ?_ dd⟩; clear hK K)
  (refine oWd rfl rfl (by decide) fun dd K hK => ?_; go_simp; refine hK _ _ ⟨⟨⟨0, Grew.refl _ _⟩, fun e he => by (have hm := mem_listed he; simp [go_sem] at hm)⟩, Own.at ?_ dd⟩; clear hK K)
  (refine oWd rfl rfl (by decide) fun dd K hK => ?_; go_simp; refine hK _ _ ⟨⟨⟨0, Grew.refl _ _⟩, fun e he => by (have hm := mem_listed he; simp [go_sem] at hm)⟩, Own.at ?_ dd⟩; clear hK K)
  (refine oWd rfl rfl (by decide) fun dd K hK => ?_; go_simp; refine hK _ _ ⟨⟨⟨0, Grew.refl _ _⟩, fun e he => by (have hm := mem_listed he; simp [go_sem] at hm)⟩, Own.at ?_ dd⟩; clear hK K)
  (refine oWd rfl rfl (by decide) fun dd K hK => ?_; go_simp; refine hK _ _ ⟨⟨⟨0, Grew.refl _ _⟩, fun e he => by (have hm := mem_listed he; simp [go_sem] at hm)⟩, Own.at ?_ dd⟩; clear hK K)
  refine own_go rfl (fun d => stepG_region_end) ?_
  refine own_go rfl (fun d => stepG_ret') ?_
  refine own_go rfl (fun d => stepG_leave (fn := Try.f69) (v := .int .i64 m) rfl rfl Try.func69 (by simp [results, Try.f69, go_sem, *]) (by simp [results, Try.f69, go_sem, *])) ?_
  exact h
set_option maxRecDepth 100000 in
theorem own_held_high {m : Int} (hm : 1048576 < m) {c : Frame} {cs : List Frame} {main : Bool} {Stop : Goroutine → World → Prop} (h : Own Try.prog main F Stop (G (c.finish (.int .i64 1048576)) cs) w) :
    Own Try.prog main F Stop (G (Frame.enter Try.prog 69 #[.int .i64 m, .int .i64 1048576] .normal) (c :: cs)) w := by
  have f1 : ¬ m < 0 := by omega
  rw [enter_held]
  change Own _ _ _ _ (G ((Go.Conc.base 69).at _ [.code hds0]) _) _
  walk_nrm
  rw [hds0_eq]
  refine own_go rfl (fun d => stepG_seq) ?_
  rw [hdr0_eq]
  refine own_go rfl (fun d => stepG_region) ?_
  simp only [hdo0, Code.opsOf, hdr0, Code.piece, hdBody, Try.f69, Option.getD_some, List.size_toArray, List.length_cons, List.length_nil, Nat.reduceAdd, Nat.zero_add, List.range, List.range.loop]
  (refine oWd rfl rfl (by decide) fun dd K hK => ?_; go_simp; refine hK _ _ ⟨⟨⟨0, Grew.refl _ _⟩, fun e he => by (have hm := mem_listed he; simp [go_sem] at hm)⟩, Own.at ?_ dd⟩; clear hK K)
  refine own_go rfl (fun d => stepG_region_end) ?_
  rw [hds1_eq]
  refine own_go rfl (fun d => stepG_seq) ?_
  rw [hdr1_eq]
  refine own_go rfl (fun d => stepG_region) ?_
  simp only [hdo1, Code.opsOf, hdr1, Code.piece, hdBody, Try.f69, Option.getD_some, List.size_toArray, List.length_cons, List.length_nil, Nat.reduceAdd, Nat.zero_add, List.range, List.range.loop]
  (refine oWd rfl rfl (by decide) fun dd K hK => ?_; go_simp; refine hK _ _ ⟨⟨⟨0, Grew.refl _ _⟩, fun e he => by (have hm := mem_listed he; simp [go_sem] at hm)⟩, Own.at ?_ dd⟩; clear hK K)
  (refine oWd rfl rfl (by decide) fun dd K hK => ?_; go_simp; refine hK _ _ ⟨⟨⟨0, Grew.refl _ _⟩, fun e he => by (have hm := mem_listed he; simp [go_sem] at hm)⟩, Own.at ?_ dd⟩; clear hK K)
  (refine oWd rfl rfl (by decide) fun dd K hK => ?_; go_simp; refine hK _ _ ⟨⟨⟨0, Grew.refl _ _⟩, fun e he => by (have hm := mem_listed he; simp [go_sem] at hm)⟩, Own.at ?_ dd⟩; clear hK K)
  (refine oWd rfl rfl (by decide) fun dd K hK => ?_; go_simp; refine hK _ _ ⟨⟨⟨0, Grew.refl _ _⟩, fun e he => by (have hm := mem_listed he; simp [go_sem] at hm)⟩, Own.at ?_ dd⟩; clear hK K)
  (refine oWd rfl rfl (by decide) fun dd K hK => ?_; go_simp; refine hK _ _ ⟨⟨⟨0, Grew.refl _ _⟩, fun e he => by (have hm := mem_listed he; simp [go_sem] at hm)⟩, Own.at ?_ dd⟩; clear hK K)
  refine own_go rfl (fun d => stepG_region_end) ?_
  refine own_go rfl (fun d => stepG_ret') ?_
  refine own_go rfl (fun d => stepG_leave (fn := Try.f69) (v := .int .i64 1048576) rfl rfl Try.func69 (by simp [results, Try.f69, go_sem, *]) (by simp [results, Try.f69, go_sem, *])) ?_
  exact h
theorem own_held {m : Int} {M : Nat} (hM : (M : Int) = min (max m 0) 1048576) {c : Frame} {cs : List Frame} {main : Bool} {Stop : Goroutine → World → Prop} (h : Own Try.prog main F Stop (G (c.finish (.int .i64 M)) cs) w) :
    Own Try.prog main F Stop (G (Frame.enter Try.prog 69 #[.int .i64 m, .int .i64 1048576] .normal) (c :: cs)) w := by
  by_cases h1 : m < 0
  · exact own_held_low h1 (by rw [show (0 : Int) = M by omega]; exact h)
  · by_cases h2 : m ≤ 1048576
    · exact own_held_mid (by omega) h2 (by rw [show m = M by omega]; exact h)
    · exact own_held_high (by omega) (by rw [show (1048576 : Int) = M by omega]; exact h)
end Go.Proofs.Ytcejbandeikdjaa
namespace Go.Proofs.Ytcejbandeikdjaa
open Go Go.Conc Go.RowKit Go.Proofs
variable {g : Gate} {F : Fz} {w : World}
theorem enter_over (args : Array Value) : Frame.enter Try.prog 62 args .normal = (Go.Conc.base 62).at { tmps := args ++ Array.replicate (129 - args.size) undef, defers := [] } [.code ovs0] := enter_at args Try.func62 rfl
theorem callable62 : Callable 62 := callable Try.func62 rfl rfl
theorem set_new (X : World) (v u : Value) (t : TypeId) : (X.alloc (.cells #[v] t)).setCell ⟨X.heap.size, 0, none⟩ u = X.alloc (.cells #[u] t) := by go_simp
theorem set_old (X : World) (o : Obj) (a : Addr) (u : Value) (h : a.block < X.heap.size) : (X.alloc o).setCell a u = (X.setCell a u).alloc o := by
  unfold World.alloc World.setCell
  congr 1
  apply Array.ext_getElem?
  intro i
  simp only [Array.getElem?_modify, Array.getElem?_push, Array.size_modify]
  by_cases h1 : i = X.heap.size
  · subst h1; simp; omega
  · simp [h1]
def ovW0 (w : World) (M n : Nat) : World := ((w.alloc (.cells #[.int .i64 M] 3)).alloc (.cells #[.slice none 0 0] 24)).alloc (.cells #[.int .i64 n] 3)
set_option maxRecDepth 100000 in
set_option maxHeartbeats 2000000 in
theorem ov_s0 {n : Nat} (hU : Under F n) (hn : n ≤ w.heap.size) {ta : Option Addr} {tl tc M : Nat} {sch : Value} {m : Int} (htl : tl ≤ 64) (hM : min (max m 0) 1048576 = (M : Int)) {cs : List Frame} {main : Bool} {Stop : Goroutine → World → Prop}
    (h : ∀ A, Slots 129 A [(0, .slice ta tl tc), (1, sch), (5, .pointer (some ⟨w.heap.size, 0, none⟩)), (6, .pointer (some ⟨w.heap.size + 1, 0, none⟩)), (7, .bool false), (8, .slice none 0 0), (9, .pointer (some ⟨w.heap.size + 2, 0, none⟩))] →
      Own Try.prog main F Stop (G ((Go.Conc.base 62).at ⟨A, []⟩ [.code ovs3]) cs) (ovW0 w M tl)) :
    Own Try.prog main F Stop (G (Frame.enter Try.prog 62 #[.slice ta tl tc, sch, .int .i64 m] .normal) cs) w := by
  have n1 : ¬ (64 : Int) < (tl : Int) := by omega
  have n2 : ¬ 64 < tl := by omega
  rw [enter_over]
  walk_nrm
  rw [ovs0_eq]
  refine own_go rfl (fun d => stepG_seq) ?_
  rw [ovr0_eq]
  refine own_go rfl (fun d => stepG_region) ?_
  simp only [ovo0, Code.opsOf, ovr0, Code.piece, ovBody, Try.f62, Option.getD_some, List.size_toArray, List.length_cons, List.length_nil, Nat.reduceAdd, Nat.zero_add, List.range, List.range.loop]
  (refine oWd rfl rfl (by decide) fun dd K hK => ?_; go_simp; refine hK _ _ ⟨⟨⟨0, grew_alloc hU (by first | (simp [go_sem]; done) | (simp [go_sem]; omega)) _⟩, fun e he => by (have hm := mem_listed he; simp [go_sem, storedEv] at hm)⟩, ?_⟩; clear hK K; rw [alloc_at']; refine Own.at ?_ dd)
  (refine oWd rfl rfl (by decide) fun dd K hK => ?_; go_simp; refine hK _ _ ⟨⟨⟨0, grew_alloc hU (by first | (simp [go_sem]; done) | (simp [go_sem]; omega)) _⟩, fun e he => by (have hm := mem_listed he; simp [go_sem, storedEv] at hm)⟩, ?_⟩; clear hK K; rw [alloc_at']; refine Own.at ?_ dd)
  (refine oWd rfl rfl (by decide) fun dd K hK => ?_; go_simp; refine hK _ _ ⟨⟨⟨0, Grew.refl _ _⟩, fun e he => by (have hm := mem_listed he; simp [go_sem] at hm)⟩, Own.at ?_ dd⟩; clear hK K)
  (refine oWd rfl rfl (by decide) fun dd K hK => ?_; go_simp; refine hK _ _ ⟨⟨⟨0, Grew.refl _ _⟩, fun e he => by (have hm := mem_listed he; simp [go_sem] at hm)⟩, Own.at ?_ dd⟩; clear hK K)
  refine own_go rfl (fun d => stepG_region_end) ?_
  rw [ovs1_eq]
  refine own_go rfl (fun d => stepG_seq) ?_
  rw [ovr1_eq]
  refine own_go rfl (fun d => stepG_region) ?_
  simp only [ovo1, Code.opsOf, ovr1, Code.piece, ovBody, Try.f62, Option.getD_some, List.size_toArray, List.length_cons, List.length_nil, Nat.reduceAdd, Nat.zero_add, List.range, List.range.loop]
  (refine oWd rfl rfl (by decide) fun dd K hK => ?_; go_simp; refine hK _ _ ⟨⟨⟨0, Grew.refl _ _⟩, fun e he => by (have hm := mem_listed he; simp [go_sem] at hm)⟩, Own.at ?_ dd⟩; clear hK K)
  (refine oWd rfl rfl (by decide) fun dd K hK => ?_; go_simp; refine hK _ _ ⟨⟨⟨0, Grew.refl _ _⟩, fun e he => by (have hm := mem_listed he; simp [go_sem] at hm)⟩, Own.at ?_ dd⟩; clear hK K)
  (refine oWd rfl rfl (by decide) fun dd K hK => ?_; go_simp; refine hK _ _ ⟨⟨⟨0, Grew.refl _ _⟩, fun e he => by (have hm := mem_listed he; simp [go_sem] at hm)⟩, Own.at ?_ dd⟩; clear hK K)
  (refine oWd rfl rfl (by decide) fun dd K hK => ?_; go_simp; refine hK _ _ ⟨⟨⟨0, grew_alloc hU (by first | (simp [go_sem]; done) | (simp [go_sem]; omega)) _⟩, fun e he => by (have hm := mem_listed he; simp [go_sem, storedEv] at hm)⟩, ?_⟩; clear hK K; rw [alloc_at']; refine Own.at ?_ dd)
  (refine oWd rfl rfl (by decide) fun dd K hK => ?_; go_simp; refine hK _ _ ⟨⟨⟨0, grew_setCell rfl (not_held hU (by first | (simp [go_sem]; done) | (simp [go_sem]; omega))) _⟩, fun e he => by (have hm := mem_listed he; simp [go_sem, storedEv] at hm; subst hm; exact evT_write _ _ (not_held hU (by first | (simp [go_sem]; done) | (simp [go_sem]; omega))))⟩, ?_⟩; clear hK K; rw [setCell_at']; refine Own.at ?_ dd)
  have e1 := set_new ((w.alloc (.cells #[.int .i64 m] 3)).alloc (.cells #[.slice none 0 0] 24)) (.int .i64 0) (.int .i64 tl) 3
  simp only [World.size_alloc] at e1
  rw [e1]
  clear e1
  refine own_go rfl (fun d => stepG_region_end) ?_
  rw [ovs2_eq]
  refine own_go rfl (fun d => stepG_seq) ?_
  rw [ovr2_eq]
  refine own_go rfl (fun d => stepG_region) ?_
  simp only [ovo2, Code.opsOf, ovr2, Code.piece, ovBody, Try.f62, Option.getD_some, List.size_toArray, List.length_cons, List.length_nil, Nat.reduceAdd, Nat.zero_add, List.range, List.range.loop]
  (refine oWd rfl rfl (by decide) fun dd K hK => ?_; go_simp; refine hK _ _ ⟨⟨⟨0, Grew.refl _ _⟩, fun e he => by (have hm := mem_listed he; simp [go_sem, *] at hm; subst hm; exact evT_read _ _)⟩, Own.at ?_ dd⟩; clear hK K)
  refine own_call (f := 69) (args := #[.int .i64 m, .int .i64 1048576]) rfl rfl (by decide) (fun w => by simp [execOp, Act.eval, resolve, invoke, Deferred.ofValue, callable69.run]) (fun w => by simp [execOp, Act.eval, resolve, invoke, Deferred.ofValue, callable69.run, callable69.quiet]) ?_
  (refine own_held hM.symm ?_)
  rw [Frame.finish_at]
  walk_nrm
  (refine oWd rfl rfl (by decide) fun dd K hK => ?_; go_simp; refine hK _ _ ⟨⟨⟨0, grew_setCell rfl (not_held hU (by first | (simp [go_sem]; done) | (simp [go_sem]; omega))) _⟩, fun e he => by (have hm := mem_listed he; simp [go_sem, storedEv] at hm; subst hm; exact evT_write _ _ (not_held hU (by first | (simp [go_sem]; done) | (simp [go_sem]; omega))))⟩, ?_⟩; clear hK K; rw [setCell_at']; refine Own.at ?_ dd)
  rw [set_old _ _ _ _ (by simp; omega), set_old _ _ _ _ (by simp), set_new]
  refine own_go rfl (fun d => stepG_region_end) ?_
  refine h _ ?_
  exact ⟨rfl, rfl, rfl, rfl, rfl, rfl, rfl, rfl, trivial⟩
end Go.Proofs.Ytcejbandeikdjaa
namespace Go.Proofs.Ytcejbandeikdjaa
open Go Go.Conc Go.RowKit Go.Proofs
section
variable {P : Program}
theorem ev_places (w : World) (es : Array Event) : ∀ (fs : List Field) (places : List (Nat × Nat)), fs.mapM (fun f => (P.info? f.type).map fun i => (f.offset, i.size)) = some places →
    (fs.mapM fun f => Prod.mk f.offset <$> sizeOf f.type).events P w es = es
  | [], places, h => by simp
  | f :: fs, places, h => by
    simp only [List.mapM_cons, Option.bind_eq_bind, Option.pure_def] at h
    cases hi : P.info? f.type with
    | none => simp [hi] at h
    | some i =>
      cases hr : fs.mapM (fun f => (P.info? f.type).map fun i => (f.offset, i.size)) with
      | none => simp [hi, hr] at h
      | some rest =>
        have hs : (sizeOf f.type).run P w = .ok i.size w := by simp [sizeOf, typeInfo, hi]
        have he : (sizeOf f.type).events P w es = es := by simp [sizeOf, typeInfo, hi, go_sem]
        simp [List.mapM_cons, hs, he, run_places w fs rest hr, ev_places w es fs rest hr]
theorem ev_build (w : World) (es : Array Event) (t : TypeId) (parts : Array (Nat × Value)) (cells : Array Value) (fields : Array Field) (hu : P.underlying t = some (.struct fields)) (h : P.built t parts.toList = some cells) : (Instr.build t parts).events P w es = es := by
  unfold Program.built at h
  cases hit : P.info? t with
  | none => simp [hit] at h
  | some it =>
    cases hz : it.zero with
    | none => simp [hit, hu, hz] at h
    | some z =>
      cases hp : fields.toList.mapM (fun f => (P.info? f.type).map fun i => (f.offset, i.size)) with
      | none => simp [hit, hu, hz, hp] at h
      | some places =>
        simp only [hit, hu, hz, hp] at h
        have h' : Instr.fill (fun x => places[x]?) z.cells parts.toList = some cells := by simpa using h
        unfold Value.cells at h'
        simp [Instr.build, run_underlying hu, typeInfo, zeroValue, hit, hz, Array.mapM_eq_mapM_toList, run_places w _ _ hp, ev_places w es _ _ hp, h', go_sem]
end
section
variable (w : World) (es : Array Event) (c b : Nat) (n m : Nat)
theorem built144 (c b n m : Nat) : Try.prog.built 144 [(0, .chan (some c)), (2, .slice (some ⟨b, 0, none⟩) n m)] = some #[.chan (some c), .slice none 0 0, .slice (some ⟨b, 0, none⟩) n m] := by kernel_rfl
@[go_sem] theorem run_build144 : (Instr.build 144 #[(0, .chan (some c)), (2, .slice (some ⟨b, 0, none⟩) n m)]).run Try.prog w = .ok (.agg #[.chan (some c), .slice none 0 0, .slice (some ⟨b, 0, none⟩) n m]) w := run_build w _ _ _ (built144 c b n m)
@[go_sem] theorem ev_build144 : (Instr.build 144 #[(0, .chan (some c)), (2, .slice (some ⟨b, 0, none⟩) n m)]).events Try.prog w es = es := ev_build w es _ _ _ _ Try.underlying144 (built144 c b n m)
theorem built148 (t c : Nat) : Try.prog.built 148 [(0, .pointer (some ⟨t, 0, none⟩)), (1, .chan (some c))] = some #[.pointer (some ⟨t, 0, none⟩), .chan (some c), .bool false] := by kernel_rfl
@[go_sem] theorem run_build148 : (Instr.build 148 #[(0, .pointer (some ⟨b, 0, none⟩)), (1, .chan (some c))]).run Try.prog w = .ok (.agg #[.pointer (some ⟨b, 0, none⟩), .chan (some c), .bool false]) w := run_build w _ _ _ (built148 b c)
@[go_sem] theorem ev_build148 : (Instr.build 148 #[(0, .pointer (some ⟨b, 0, none⟩)), (1, .chan (some c))]).events Try.prog w es = es := ev_build w es _ _ _ _ Try.underlying148 (built148 b c)
end
theorem info56 : ∃ i, Try.prog.info? 56 = some i ∧ i.bytes = 0 := by
  have h : (Try.prog.info? 56).map (·.bytes) = some 0 := by kernel_rfl
  obtain ⟨i, hi, h1⟩ := Option.map_eq_some_iff.1 h
  exact ⟨i, hi, h1⟩
theorem info4 : ∃ i, Try.prog.info? 4 = some i ∧ i.zero = some (.bool false) ∧ i.size = 1 ∧ i.bytes = 1 := by
  have h : (Try.prog.info? 4).map (fun i => (i.size, i.bytes)) = some (1, 1) := by kernel_rfl
  have h0 : (Try.prog.info? 4).bind (·.zero) = some (.bool false) := by kernel_rfl
  obtain ⟨i, hi, h1⟩ := Option.map_eq_some_iff.1 h
  rw [hi] at h0
  simp only [Prod.mk.injEq] at h1
  exact ⟨i, hi, h0, h1.1, h1.2⟩
section
variable (w : World) (es : Array Event) (n : Nat)
@[go_sem] theorem mkChan141 : (Instr.makeChan 141 (.int .i64 0)).run Try.prog w = .ok (.chan (some w.heap.size)) (w.alloc (.chan 0 #[] false 0 0 false)) := by
  obtain ⟨i, hi, hb⟩ := info56
  exact run_makeChan Try.underlying141 hi .i64 0 (by decide) (by simp)
@[go_sem] theorem mkChan141e : (Instr.makeChan 141 (.int .i64 0)).events Try.prog w es = es := by
  obtain ⟨i, hi, hb⟩ := info56
  exact events_makeChan Try.underlying141 hi .i64 0 (by decide) (by simp) es
@[go_sem] theorem mkChan146 : (Instr.makeChan 146 (.int .i64 0)).run Try.prog w = .ok (.chan (some w.heap.size)) (w.alloc (.chan 0 #[] false 0 0 false)) := by
  obtain ⟨i, hi, _, _, hb⟩ := info4
  exact run_makeChan Try.underlying146 hi .i64 0 (by decide) (by simp)
@[go_sem] theorem mkChan146e : (Instr.makeChan 146 (.int .i64 0)).events Try.prog w es = es := by
  obtain ⟨i, hi, _, _, hb⟩ := info4
  exact events_makeChan Try.underlying146 hi .i64 0 (by decide) (by simp) es
@[go_sem] theorem mkSlice90 (h : n ≤ 64) : (Instr.makeSlice 90 (.int .i64 n) (.int .i64 n)).run Try.prog w = .ok (.slice (some ⟨w.heap.size, 0, none⟩) n n) (w.alloc (.cells (madeCells #[.bool false] n) 4)) := by
  obtain ⟨i, hi, hz, hs, hb⟩ := info4
  have := run_make (P := Try.prog) w 90 4 i (.bool false) Try.underlying90 hi hz .i64 .i64 n n (by omega) (by omega) (by rw [hb]; omega) (by omega)
  rw [hs] at this
  simpa [Value.cells] using this
@[go_sem] theorem mkSlice90e (h : n ≤ 64) : (Instr.makeSlice 90 (.int .i64 n) (.int .i64 n)).events Try.prog w es = es := by
  obtain ⟨i, hi, hz, hs, hb⟩ := info4
  exact events_make (P := Try.prog) w 90 4 i (.bool false) Try.underlying90 hi hz .i64 .i64 n n (by omega) (by omega) (by rw [hb]; omega) (by omega) (by rw [hb]; omega) es
end
structure SN (nn nb n : Nat) (u : World) : Prop where
  top : nn ≤ u.heap.size
  lt : nb < u.heap.size
  c : u.cell? ⟨nb, 0, none⟩ = some (.int .i64 n)
  z : u.frozen? ⟨nb, 0, none⟩ = false
theorem SN.at {nn nb n : Nat} {u : World} (h : SN nn nb n u) (d : Nat) : SN nn nb n (u.at d) := ⟨h.top, h.lt, h.c, h.z⟩
theorem SN.alloc {nn nb n : Nat} {u : World} (h : SN nn nb n u) (o : Obj) : SN nn nb n (u.alloc o) :=
  ⟨by have := h.top; simp; omega, by have := h.lt; simp; omega, by rw [cell_alloc u o _ h.lt]; exact h.c, by
    have : (u.alloc o).heap[nb]? = u.heap[nb]? := heap_alloc_lt u o h.lt
    unfold World.frozen?
    simp only [this]
    exact h.z⟩
structure Set3 (n : Nat) (w w' : World) (tv tb bk br : Nat) : Prop where
  size : w.heap.size ≤ w'.heap.size
  old : ∀ r, r < w.heap.size → w'.heap[r]? = w.heap[r]?
  htv : w'.heap[tv]? = some (.cells #[.pointer (some ⟨tb, 0, none⟩)] 140)
  htb : w'.heap[tb]? = some (.cells #[.chan (some bk), .slice none 0 0, .slice (some ⟨br, 0, none⟩) n n] 144)
  hbk : w'.heap[bk]? = some (.chan 0 #[] false 0 0 false)
  hbr : w'.heap[br]? = some (.cells (madeCells #[.bool false] n) 4)
  low : w.heap.size ≤ tv ∧ w.heap.size ≤ tb ∧ w.heap.size ≤ bk ∧ w.heap.size ≤ br
theorem four_size (w : World) (a b c e : Obj) : w.heap.size ≤ ((((w.alloc a).alloc b).alloc c).alloc e).heap.size := by simp; omega
theorem four_old (w : World) (a b c e : Obj) : ∀ r, r < w.heap.size → ((((w.alloc a).alloc b).alloc c).alloc e).heap[r]? = w.heap[r]? := fun r hr => by
  rw [heap_alloc_lt _ _ (by simp; omega), heap_alloc_lt _ _ (by simp; omega), heap_alloc_lt _ _ (by simp; omega), heap_alloc_lt _ _ hr]
theorem four3 (w : World) (a b c e : Obj) : ((((w.alloc a).alloc b).alloc c).alloc e).heap[w.heap.size + 1 + 1 + 1]? = some e := by
  have := heap_alloc_new (((w.alloc a).alloc b).alloc c) e
  simpa using this
theorem four2 (w : World) (a b c e : Obj) : ((((w.alloc a).alloc b).alloc c).alloc e).heap[w.heap.size + 1 + 1]? = some c := by
  rw [heap_alloc_lt _ _ (by simp)]
  have := heap_alloc_new ((w.alloc a).alloc b) c
  simpa using this
theorem four1 (w : World) (a b c e : Obj) : ((((w.alloc a).alloc b).alloc c).alloc e).heap[w.heap.size + 1]? = some b := by
  rw [heap_alloc_lt _ _ (by simp), heap_alloc_lt _ _ (by simp)]
  have := heap_alloc_new (w.alloc a) b
  simpa using this
theorem four0 (w : World) (a b c e : Obj) : ((((w.alloc a).alloc b).alloc c).alloc e).heap[w.heap.size]? = some a := by
  rw [heap_alloc_lt _ _ (by simp; omega), heap_alloc_lt _ _ (by simp; omega), heap_alloc_lt _ _ (by simp)]
  exact heap_alloc_new w a
theorem set3_of {w w4 : World} {n tv tb bk br : Nat} (hs : w.heap.size ≤ w4.heap.size) (ho : ∀ r, r < w.heap.size → w4.heap[r]? = w.heap[r]?) (h1 : w4.heap[tv]? = some (.cells #[.pointer none] 140))
    (h2 : w4.heap[tb]? = some (.cells #[.chan (some bk), .slice none 0 0, .slice (some ⟨br, 0, none⟩) n n] 144)) (h3 : w4.heap[bk]? = some (.chan 0 #[] false 0 0 false)) (h4 : w4.heap[br]? = some (.cells (madeCells #[.bool false] n) 4))
    (d1 : tb ≠ tv) (d2 : bk ≠ tv) (d3 : br ≠ tv) (l1 : w.heap.size ≤ tv) (l2 : w.heap.size ≤ tb) (l3 : w.heap.size ≤ bk) (l4 : w.heap.size ≤ br) : Set3 n w (w4.setCell ⟨tv, 0, none⟩ (.pointer (some ⟨tb, 0, none⟩))) tv tb bk br :=
  ⟨by simpa using hs, fun r hr => (heap_setCell_ne _ _ _ (by simp only; omega)).trans (ho r hr), by simp [World.setCell, Array.getElem?_modify, h1], (heap_setCell_ne _ _ _ d1).trans h2, (heap_setCell_ne _ _ _ d2).trans h3, (heap_setCell_ne _ _ _ d3).trans h4, l1, l2, l3, l4⟩
end Go.Proofs.Ytcejbandeikdjaa
namespace Go.Proofs.Ytcejbandeikdjaa
open Go Go.Conc Go.RowKit Go.Proofs
variable {F : Fz} {w : World}
set_option maxRecDepth 100000 in
set_option maxHeartbeats 8000000 in
theorem ov_s3 {nn n nb mo od : Nat} {thr sch : Value} (hU : Under F nn) (hn64 : n ≤ 64) (hs : SN nn nb n w) {A : Array Value} (hA : Slots 129 A [(0, thr), (1, sch), (5, .pointer (some ⟨mo, 0, none⟩)), (6, .pointer (some ⟨od, 0, none⟩)), (7, .bool false), (8, .slice none 0 0), (9, .pointer (some ⟨nb, 0, none⟩))]) {cs : List Frame} {main : Bool} {Stop : Goroutine → World → Prop} {k : List Item}
    (h : ∀ (w' : World) (tv tb bk br : Nat) (A : Array Value), Set3 n w w' tv tb bk br → Slots 129 A [(0, thr), (1, sch), (5, .pointer (some ⟨mo, 0, none⟩)), (6, .pointer (some ⟨od, 0, none⟩)), (7, .bool false), (8, .slice none 0 0), (9, .pointer (some ⟨nb, 0, none⟩)), (10, .pointer (some ⟨tv, 0, none⟩))] →
      Own Try.prog main F Stop (G ((Go.Conc.base 62).at ⟨A, []⟩ k) cs) w') :
    Own Try.prog main F Stop (G ((Go.Conc.base 62).at ⟨A, []⟩ (.code ovr3 :: k)) cs) w := by
  obtain ⟨hsz, h0, h1, h5, h6, h7, h8, h9, _⟩ := hA
  obtain ⟨s, rfl⟩ := ovT_of hsz
  change s 0 = _ at h0
  change s 1 = _ at h1
  change s 5 = _ at h5
  change s 6 = _ at h6
  change s 7 = _ at h7
  change s 8 = _ at h8
  change s 9 = _ at h9
  clear hsz
  simp only [ovT, h0, h1, h5, h6, h7, h8, h9]
  clear h0 h1 h5 h6 h7 h8 h9
  have hS : ∀ u d, SN nn nb n u → SN nn nb n (World.at u d) := fun u d h => h.at d
  have htop := hs.top
  rw [ovr3_eq]
  refine own_drawnM (SN nn nb n) (last := 6) run_mixed (ll_of (by kernel_rfl)) (by decide) ?_
  simp only [ovo3, Code.opsOf, ovr3, Code.piece, ovBody, Try.f62, Option.getD_some, List.size_toArray, List.length_cons, List.length_nil, Nat.reduceAdd, Nat.zero_add, List.range, List.range.loop]
  have hZ : ∀ a u d, Own Try.prog main F Stop (G ((Go.Conc.base 62).at a (.inRegion ovo3 [6] :: k)) cs) u → Own Try.prog main F Stop (G ((Go.Conc.base 62).at a (.inRegion ovo3 [6] :: k)) cs) (World.at u d) := fun a u d h => h.at d
  simp only [ovo3, Code.opsOf, ovr3, Code.piece, ovBody, Try.f62, Option.getD_some, List.size_toArray, List.length_cons, List.length_nil, Nat.reduceAdd, Nat.zero_add, List.range, List.range.loop] at hZ
  refine anyM_take hS hZ (i := 1) (v := .int .i64 n) hs rfl rfl (by kernel_rfl) (by kernel_rfl) (by kernel_rfl) (fun u hu => .inl ⟨rfl, fun d => ⟨by simp [go_sem, execOp, Act.eval, hu.c, hu.z], fun e he => by have hm := mem_listed he; simp [go_sem, execOp, Act.eval, hu.c, hu.z] at hm; subst hm; exact evT_read _ _⟩⟩) ?_
  walk_nrm
  refine anyM_all (r := [0, 2, 5]) (by kernel_rfl) (by kernel_rfl) (fun i hi hil => ?_)
  simp only [List.mem_cons, List.not_mem_nil, or_false] at hi
  rcases hi with rfl | rfl | rfl
  · refine opm_k rfl rfl (fun d K' hK' => ?_)
    go_simp
    refine hK' _ _ ⟨⟨⟨0, grew_alloc hU (hs.at d).top _⟩, fun e he => by (have hm := mem_listed he; simp [go_sem, hn64] at hm)⟩, (hs.at d).alloc _, ?_⟩
    clear hK' K'
    rw [alloc_at']
    refine anyM_at hS hZ _ _ _ _ ?_ d
    replace hs := hs.alloc (.chan 0 #[] false 0 0 false)
    refine anyM_all (r := [2, 5]) (by kernel_rfl) (by kernel_rfl) (fun i hi hil => ?_)
    simp only [List.mem_cons, List.not_mem_nil, or_false] at hi
    rcases hi with rfl | rfl
    · refine opm_k rfl rfl (fun d K' hK' => ?_)
      go_simp
      refine hK' _ _ ⟨⟨⟨0, grew_alloc hU (hs.at d).top _⟩, fun e he => by (have hm := mem_listed he; simp [go_sem, hn64] at hm)⟩, (hs.at d).alloc _, ?_⟩
      clear hK' K'
      rw [alloc_at']
      refine anyM_at hS hZ _ _ _ _ ?_ d
      replace hs := hs.alloc (.cells (madeCells #[.bool false] n) 4)
      refine anyM_take hS hZ (i := 3) (v := .agg #[.chan (some (w.heap.size)), .slice none 0 0, .slice (some ⟨w.heap.size + 1, 0, none⟩) n n]) hs rfl rfl (by kernel_rfl) (by kernel_rfl) (by kernel_rfl) (fun u hu => .inl ⟨rfl, fun d => ⟨by simp [go_sem, execOp, Act.eval], fun e he => by have hm := mem_listed he; simp [go_sem, execOp, Act.eval] at hm⟩⟩) ?_
      walk_nrm
      refine anyM_all (r := [4, 5]) (by kernel_rfl) (by kernel_rfl) (fun i hi hil => ?_)
      simp only [List.mem_cons, List.not_mem_nil, or_false] at hi
      rcases hi with rfl | rfl
      · refine opm_k rfl rfl (fun d K' hK' => ?_)
        go_simp
        refine hK' _ _ ⟨⟨⟨0, grew_alloc hU (hs.at d).top _⟩, fun e he => by (have hm := mem_listed he; simp [go_sem, hn64] at hm)⟩, (hs.at d).alloc _, ?_⟩
        clear hK' K'
        rw [alloc_at']
        refine anyM_at hS hZ _ _ _ _ ?_ d
        replace hs := hs.alloc (.cells #[.chan (some (w.heap.size)), .slice none 0 0, .slice (some ⟨w.heap.size + 1, 0, none⟩) n n] 144)
        refine anyM_all (r := [5]) (by kernel_rfl) (by kernel_rfl) (fun i hi hil => ?_)
        simp only [List.mem_cons, List.not_mem_nil, or_false] at hi
        subst hi
        refine opm_k rfl rfl (fun d K' hK' => ?_)
        go_simp
        refine hK' _ _ ⟨⟨⟨0, grew_alloc hU (hs.at d).top _⟩, fun e he => by (have hm := mem_listed he; simp [go_sem, hn64] at hm)⟩, (hs.at d).alloc _, ?_⟩
        clear hK' K'
        rw [alloc_at']
        refine anyM_at hS hZ _ _ _ _ ?_ d
        replace hs := hs.alloc (.cells #[.pointer none] 140)
        refine anyM_end (by kernel_rfl) ?_ _
        (refine oWd rfl rfl (by decide) fun dd K hK => ?_; go_simp; refine hK _ _ ⟨⟨⟨0, grew_setCell rfl (not_held hU (by first | (simp [go_sem]; done) | (simp [go_sem]; omega))) _⟩, fun e he => by (have hm := mem_listed he; simp [go_sem, storedEv] at hm; subst hm; exact evT_write _ _ (not_held hU (by first | (simp [go_sem]; done) | (simp [go_sem]; omega))))⟩, ?_⟩; clear hK K; rw [setCell_at']; refine Own.at ?_ dd)
        refine own_go rfl (fun d => stepG_region_end) ?_
        refine h _ (w.heap.size + 1 + 1 + 1) (w.heap.size + 1 + 1) (w.heap.size) (w.heap.size + 1) _ (set3_of (four_size w _ _ _ _) (four_old w _ _ _ _) (four3 w _ _ _ _) (four2 w _ _ _ _) (four0 w _ _ _ _) (four1 w _ _ _ _) (by omega) (by omega) (by omega) (by omega) (by omega) (by omega) (by omega)) ⟨rfl, rfl, rfl, rfl, rfl, rfl, rfl, rfl, rfl, trivial⟩
      · refine opm_k rfl rfl (fun d K' hK' => ?_)
        go_simp
        refine hK' _ _ ⟨⟨⟨0, grew_alloc hU (hs.at d).top _⟩, fun e he => by (have hm := mem_listed he; simp [go_sem, hn64] at hm)⟩, (hs.at d).alloc _, ?_⟩
        clear hK' K'
        rw [alloc_at']
        refine anyM_at hS hZ _ _ _ _ ?_ d
        replace hs := hs.alloc (.cells #[.pointer none] 140)
        refine anyM_all (r := [4]) (by kernel_rfl) (by kernel_rfl) (fun i hi hil => ?_)
        simp only [List.mem_cons, List.not_mem_nil, or_false] at hi
        subst hi
        refine opm_k rfl rfl (fun d K' hK' => ?_)
        go_simp
        refine hK' _ _ ⟨⟨⟨0, grew_alloc hU (hs.at d).top _⟩, fun e he => by (have hm := mem_listed he; simp [go_sem, hn64] at hm)⟩, (hs.at d).alloc _, ?_⟩
        clear hK' K'
        rw [alloc_at']
        refine anyM_at hS hZ _ _ _ _ ?_ d
        replace hs := hs.alloc (.cells #[.chan (some (w.heap.size)), .slice none 0 0, .slice (some ⟨w.heap.size + 1, 0, none⟩) n n] 144)
        refine anyM_end (by kernel_rfl) ?_ _
        (refine oWd rfl rfl (by decide) fun dd K hK => ?_; go_simp; refine hK _ _ ⟨⟨⟨0, grew_setCell rfl (not_held hU (by first | (simp [go_sem]; done) | (simp [go_sem]; omega))) _⟩, fun e he => by (have hm := mem_listed he; simp [go_sem, storedEv] at hm; subst hm; exact evT_write _ _ (not_held hU (by first | (simp [go_sem]; done) | (simp [go_sem]; omega))))⟩, ?_⟩; clear hK K; rw [setCell_at']; refine Own.at ?_ dd)
        refine own_go rfl (fun d => stepG_region_end) ?_
        refine h _ (w.heap.size + 1 + 1) (w.heap.size + 1 + 1 + 1) (w.heap.size) (w.heap.size + 1) _ (set3_of (four_size w _ _ _ _) (four_old w _ _ _ _) (four2 w _ _ _ _) (four3 w _ _ _ _) (four0 w _ _ _ _) (four1 w _ _ _ _) (by omega) (by omega) (by omega) (by omega) (by omega) (by omega) (by omega)) ⟨rfl, rfl, rfl, rfl, rfl, rfl, rfl, rfl, rfl, trivial⟩
    · refine opm_k rfl rfl (fun d K' hK' => ?_)
      go_simp
      refine hK' _ _ ⟨⟨⟨0, grew_alloc hU (hs.at d).top _⟩, fun e he => by (have hm := mem_listed he; simp [go_sem, hn64] at hm)⟩, (hs.at d).alloc _, ?_⟩
      clear hK' K'
      rw [alloc_at']
      refine anyM_at hS hZ _ _ _ _ ?_ d
      replace hs := hs.alloc (.cells #[.pointer none] 140)
      refine anyM_all (r := [2]) (by kernel_rfl) (by kernel_rfl) (fun i hi hil => ?_)
      simp only [List.mem_cons, List.not_mem_nil, or_false] at hi
      subst hi
      refine opm_k rfl rfl (fun d K' hK' => ?_)
      go_simp
      refine hK' _ _ ⟨⟨⟨0, grew_alloc hU (hs.at d).top _⟩, fun e he => by (have hm := mem_listed he; simp [go_sem, hn64] at hm)⟩, (hs.at d).alloc _, ?_⟩
      clear hK' K'
      rw [alloc_at']
      refine anyM_at hS hZ _ _ _ _ ?_ d
      replace hs := hs.alloc (.cells (madeCells #[.bool false] n) 4)
      refine anyM_take hS hZ (i := 3) (v := .agg #[.chan (some (w.heap.size)), .slice none 0 0, .slice (some ⟨w.heap.size + 1 + 1, 0, none⟩) n n]) hs rfl rfl (by kernel_rfl) (by kernel_rfl) (by kernel_rfl) (fun u hu => .inl ⟨rfl, fun d => ⟨by simp [go_sem, execOp, Act.eval], fun e he => by have hm := mem_listed he; simp [go_sem, execOp, Act.eval] at hm⟩⟩) ?_
      walk_nrm
      refine anyM_all (r := [4]) (by kernel_rfl) (by kernel_rfl) (fun i hi hil => ?_)
      simp only [List.mem_cons, List.not_mem_nil, or_false] at hi
      subst hi
      refine opm_k rfl rfl (fun d K' hK' => ?_)
      go_simp
      refine hK' _ _ ⟨⟨⟨0, grew_alloc hU (hs.at d).top _⟩, fun e he => by (have hm := mem_listed he; simp [go_sem, hn64] at hm)⟩, (hs.at d).alloc _, ?_⟩
      clear hK' K'
      rw [alloc_at']
      refine anyM_at hS hZ _ _ _ _ ?_ d
      replace hs := hs.alloc (.cells #[.chan (some (w.heap.size)), .slice none 0 0, .slice (some ⟨w.heap.size + 1 + 1, 0, none⟩) n n] 144)
      refine anyM_end (by kernel_rfl) ?_ _
      (refine oWd rfl rfl (by decide) fun dd K hK => ?_; go_simp; refine hK _ _ ⟨⟨⟨0, grew_setCell rfl (not_held hU (by first | (simp [go_sem]; done) | (simp [go_sem]; omega))) _⟩, fun e he => by (have hm := mem_listed he; simp [go_sem, storedEv] at hm; subst hm; exact evT_write _ _ (not_held hU (by first | (simp [go_sem]; done) | (simp [go_sem]; omega))))⟩, ?_⟩; clear hK K; rw [setCell_at']; refine Own.at ?_ dd)
      refine own_go rfl (fun d => stepG_region_end) ?_
      refine h _ (w.heap.size + 1) (w.heap.size + 1 + 1 + 1) (w.heap.size) (w.heap.size + 1 + 1) _ (set3_of (four_size w _ _ _ _) (four_old w _ _ _ _) (four1 w _ _ _ _) (four3 w _ _ _ _) (four0 w _ _ _ _) (four2 w _ _ _ _) (by omega) (by omega) (by omega) (by omega) (by omega) (by omega) (by omega)) ⟨rfl, rfl, rfl, rfl, rfl, rfl, rfl, rfl, rfl, trivial⟩
  · refine opm_k rfl rfl (fun d K' hK' => ?_)
    go_simp
    refine hK' _ _ ⟨⟨⟨0, grew_alloc hU (hs.at d).top _⟩, fun e he => by (have hm := mem_listed he; simp [go_sem, hn64] at hm)⟩, (hs.at d).alloc _, ?_⟩
    clear hK' K'
    rw [alloc_at']
    refine anyM_at hS hZ _ _ _ _ ?_ d
    replace hs := hs.alloc (.cells (madeCells #[.bool false] n) 4)
    refine anyM_all (r := [0, 5]) (by kernel_rfl) (by kernel_rfl) (fun i hi hil => ?_)
    simp only [List.mem_cons, List.not_mem_nil, or_false] at hi
    rcases hi with rfl | rfl
    · refine opm_k rfl rfl (fun d K' hK' => ?_)
      go_simp
      refine hK' _ _ ⟨⟨⟨0, grew_alloc hU (hs.at d).top _⟩, fun e he => by (have hm := mem_listed he; simp [go_sem, hn64] at hm)⟩, (hs.at d).alloc _, ?_⟩
      clear hK' K'
      rw [alloc_at']
      refine anyM_at hS hZ _ _ _ _ ?_ d
      replace hs := hs.alloc (.chan 0 #[] false 0 0 false)
      refine anyM_take hS hZ (i := 3) (v := .agg #[.chan (some (w.heap.size + 1)), .slice none 0 0, .slice (some ⟨w.heap.size, 0, none⟩) n n]) hs rfl rfl (by kernel_rfl) (by kernel_rfl) (by kernel_rfl) (fun u hu => .inl ⟨rfl, fun d => ⟨by simp [go_sem, execOp, Act.eval], fun e he => by have hm := mem_listed he; simp [go_sem, execOp, Act.eval] at hm⟩⟩) ?_
      walk_nrm
      refine anyM_all (r := [4, 5]) (by kernel_rfl) (by kernel_rfl) (fun i hi hil => ?_)
      simp only [List.mem_cons, List.not_mem_nil, or_false] at hi
      rcases hi with rfl | rfl
      · refine opm_k rfl rfl (fun d K' hK' => ?_)
        go_simp
        refine hK' _ _ ⟨⟨⟨0, grew_alloc hU (hs.at d).top _⟩, fun e he => by (have hm := mem_listed he; simp [go_sem, hn64] at hm)⟩, (hs.at d).alloc _, ?_⟩
        clear hK' K'
        rw [alloc_at']
        refine anyM_at hS hZ _ _ _ _ ?_ d
        replace hs := hs.alloc (.cells #[.chan (some (w.heap.size + 1)), .slice none 0 0, .slice (some ⟨w.heap.size, 0, none⟩) n n] 144)
        refine anyM_all (r := [5]) (by kernel_rfl) (by kernel_rfl) (fun i hi hil => ?_)
        simp only [List.mem_cons, List.not_mem_nil, or_false] at hi
        subst hi
        refine opm_k rfl rfl (fun d K' hK' => ?_)
        go_simp
        refine hK' _ _ ⟨⟨⟨0, grew_alloc hU (hs.at d).top _⟩, fun e he => by (have hm := mem_listed he; simp [go_sem, hn64] at hm)⟩, (hs.at d).alloc _, ?_⟩
        clear hK' K'
        rw [alloc_at']
        refine anyM_at hS hZ _ _ _ _ ?_ d
        replace hs := hs.alloc (.cells #[.pointer none] 140)
        refine anyM_end (by kernel_rfl) ?_ _
        (refine oWd rfl rfl (by decide) fun dd K hK => ?_; go_simp; refine hK _ _ ⟨⟨⟨0, grew_setCell rfl (not_held hU (by first | (simp [go_sem]; done) | (simp [go_sem]; omega))) _⟩, fun e he => by (have hm := mem_listed he; simp [go_sem, storedEv] at hm; subst hm; exact evT_write _ _ (not_held hU (by first | (simp [go_sem]; done) | (simp [go_sem]; omega))))⟩, ?_⟩; clear hK K; rw [setCell_at']; refine Own.at ?_ dd)
        refine own_go rfl (fun d => stepG_region_end) ?_
        refine h _ (w.heap.size + 1 + 1 + 1) (w.heap.size + 1 + 1) (w.heap.size + 1) (w.heap.size) _ (set3_of (four_size w _ _ _ _) (four_old w _ _ _ _) (four3 w _ _ _ _) (four2 w _ _ _ _) (four1 w _ _ _ _) (four0 w _ _ _ _) (by omega) (by omega) (by omega) (by omega) (by omega) (by omega) (by omega)) ⟨rfl, rfl, rfl, rfl, rfl, rfl, rfl, rfl, rfl, trivial⟩
      · refine opm_k rfl rfl (fun d K' hK' => ?_)
        go_simp
        refine hK' _ _ ⟨⟨⟨0, grew_alloc hU (hs.at d).top _⟩, fun e he => by (have hm := mem_listed he; simp [go_sem, hn64] at hm)⟩, (hs.at d).alloc _, ?_⟩
        clear hK' K'
        rw [alloc_at']
        refine anyM_at hS hZ _ _ _ _ ?_ d
        replace hs := hs.alloc (.cells #[.pointer none] 140)
        refine anyM_all (r := [4]) (by kernel_rfl) (by kernel_rfl) (fun i hi hil => ?_)
        simp only [List.mem_cons, List.not_mem_nil, or_false] at hi
        subst hi
        refine opm_k rfl rfl (fun d K' hK' => ?_)
        go_simp
        refine hK' _ _ ⟨⟨⟨0, grew_alloc hU (hs.at d).top _⟩, fun e he => by (have hm := mem_listed he; simp [go_sem, hn64] at hm)⟩, (hs.at d).alloc _, ?_⟩
        clear hK' K'
        rw [alloc_at']
        refine anyM_at hS hZ _ _ _ _ ?_ d
        replace hs := hs.alloc (.cells #[.chan (some (w.heap.size + 1)), .slice none 0 0, .slice (some ⟨w.heap.size, 0, none⟩) n n] 144)
        refine anyM_end (by kernel_rfl) ?_ _
        (refine oWd rfl rfl (by decide) fun dd K hK => ?_; go_simp; refine hK _ _ ⟨⟨⟨0, grew_setCell rfl (not_held hU (by first | (simp [go_sem]; done) | (simp [go_sem]; omega))) _⟩, fun e he => by (have hm := mem_listed he; simp [go_sem, storedEv] at hm; subst hm; exact evT_write _ _ (not_held hU (by first | (simp [go_sem]; done) | (simp [go_sem]; omega))))⟩, ?_⟩; clear hK K; rw [setCell_at']; refine Own.at ?_ dd)
        refine own_go rfl (fun d => stepG_region_end) ?_
        refine h _ (w.heap.size + 1 + 1) (w.heap.size + 1 + 1 + 1) (w.heap.size + 1) (w.heap.size) _ (set3_of (four_size w _ _ _ _) (four_old w _ _ _ _) (four2 w _ _ _ _) (four3 w _ _ _ _) (four1 w _ _ _ _) (four0 w _ _ _ _) (by omega) (by omega) (by omega) (by omega) (by omega) (by omega) (by omega)) ⟨rfl, rfl, rfl, rfl, rfl, rfl, rfl, rfl, rfl, trivial⟩
    · refine opm_k rfl rfl (fun d K' hK' => ?_)
      go_simp
      refine hK' _ _ ⟨⟨⟨0, grew_alloc hU (hs.at d).top _⟩, fun e he => by (have hm := mem_listed he; simp [go_sem, hn64] at hm)⟩, (hs.at d).alloc _, ?_⟩
      clear hK' K'
      rw [alloc_at']
      refine anyM_at hS hZ _ _ _ _ ?_ d
      replace hs := hs.alloc (.cells #[.pointer none] 140)
      refine anyM_all (r := [0]) (by kernel_rfl) (by kernel_rfl) (fun i hi hil => ?_)
      simp only [List.mem_cons, List.not_mem_nil, or_false] at hi
      subst hi
      refine opm_k rfl rfl (fun d K' hK' => ?_)
      go_simp
      refine hK' _ _ ⟨⟨⟨0, grew_alloc hU (hs.at d).top _⟩, fun e he => by (have hm := mem_listed he; simp [go_sem, hn64] at hm)⟩, (hs.at d).alloc _, ?_⟩
      clear hK' K'
      rw [alloc_at']
      refine anyM_at hS hZ _ _ _ _ ?_ d
      replace hs := hs.alloc (.chan 0 #[] false 0 0 false)
      refine anyM_take hS hZ (i := 3) (v := .agg #[.chan (some (w.heap.size + 1 + 1)), .slice none 0 0, .slice (some ⟨w.heap.size, 0, none⟩) n n]) hs rfl rfl (by kernel_rfl) (by kernel_rfl) (by kernel_rfl) (fun u hu => .inl ⟨rfl, fun d => ⟨by simp [go_sem, execOp, Act.eval], fun e he => by have hm := mem_listed he; simp [go_sem, execOp, Act.eval] at hm⟩⟩) ?_
      walk_nrm
      refine anyM_all (r := [4]) (by kernel_rfl) (by kernel_rfl) (fun i hi hil => ?_)
      simp only [List.mem_cons, List.not_mem_nil, or_false] at hi
      subst hi
      refine opm_k rfl rfl (fun d K' hK' => ?_)
      go_simp
      refine hK' _ _ ⟨⟨⟨0, grew_alloc hU (hs.at d).top _⟩, fun e he => by (have hm := mem_listed he; simp [go_sem, hn64] at hm)⟩, (hs.at d).alloc _, ?_⟩
      clear hK' K'
      rw [alloc_at']
      refine anyM_at hS hZ _ _ _ _ ?_ d
      replace hs := hs.alloc (.cells #[.chan (some (w.heap.size + 1 + 1)), .slice none 0 0, .slice (some ⟨w.heap.size, 0, none⟩) n n] 144)
      refine anyM_end (by kernel_rfl) ?_ _
      (refine oWd rfl rfl (by decide) fun dd K hK => ?_; go_simp; refine hK _ _ ⟨⟨⟨0, grew_setCell rfl (not_held hU (by first | (simp [go_sem]; done) | (simp [go_sem]; omega))) _⟩, fun e he => by (have hm := mem_listed he; simp [go_sem, storedEv] at hm; subst hm; exact evT_write _ _ (not_held hU (by first | (simp [go_sem]; done) | (simp [go_sem]; omega))))⟩, ?_⟩; clear hK K; rw [setCell_at']; refine Own.at ?_ dd)
      refine own_go rfl (fun d => stepG_region_end) ?_
      refine h _ (w.heap.size + 1) (w.heap.size + 1 + 1 + 1) (w.heap.size + 1 + 1) (w.heap.size) _ (set3_of (four_size w _ _ _ _) (four_old w _ _ _ _) (four1 w _ _ _ _) (four3 w _ _ _ _) (four2 w _ _ _ _) (four0 w _ _ _ _) (by omega) (by omega) (by omega) (by omega) (by omega) (by omega) (by omega)) ⟨rfl, rfl, rfl, rfl, rfl, rfl, rfl, rfl, rfl, trivial⟩
  · refine opm_k rfl rfl (fun d K' hK' => ?_)
    go_simp
    refine hK' _ _ ⟨⟨⟨0, grew_alloc hU (hs.at d).top _⟩, fun e he => by (have hm := mem_listed he; simp [go_sem, hn64] at hm)⟩, (hs.at d).alloc _, ?_⟩
    clear hK' K'
    rw [alloc_at']
    refine anyM_at hS hZ _ _ _ _ ?_ d
    replace hs := hs.alloc (.cells #[.pointer none] 140)
    refine anyM_all (r := [0, 2]) (by kernel_rfl) (by kernel_rfl) (fun i hi hil => ?_)
    simp only [List.mem_cons, List.not_mem_nil, or_false] at hi
    rcases hi with rfl | rfl
    · refine opm_k rfl rfl (fun d K' hK' => ?_)
      go_simp
      refine hK' _ _ ⟨⟨⟨0, grew_alloc hU (hs.at d).top _⟩, fun e he => by (have hm := mem_listed he; simp [go_sem, hn64] at hm)⟩, (hs.at d).alloc _, ?_⟩
      clear hK' K'
      rw [alloc_at']
      refine anyM_at hS hZ _ _ _ _ ?_ d
      replace hs := hs.alloc (.chan 0 #[] false 0 0 false)
      refine anyM_all (r := [2]) (by kernel_rfl) (by kernel_rfl) (fun i hi hil => ?_)
      simp only [List.mem_cons, List.not_mem_nil, or_false] at hi
      subst hi
      refine opm_k rfl rfl (fun d K' hK' => ?_)
      go_simp
      refine hK' _ _ ⟨⟨⟨0, grew_alloc hU (hs.at d).top _⟩, fun e he => by (have hm := mem_listed he; simp [go_sem, hn64] at hm)⟩, (hs.at d).alloc _, ?_⟩
      clear hK' K'
      rw [alloc_at']
      refine anyM_at hS hZ _ _ _ _ ?_ d
      replace hs := hs.alloc (.cells (madeCells #[.bool false] n) 4)
      refine anyM_take hS hZ (i := 3) (v := .agg #[.chan (some (w.heap.size + 1)), .slice none 0 0, .slice (some ⟨w.heap.size + 1 + 1, 0, none⟩) n n]) hs rfl rfl (by kernel_rfl) (by kernel_rfl) (by kernel_rfl) (fun u hu => .inl ⟨rfl, fun d => ⟨by simp [go_sem, execOp, Act.eval], fun e he => by have hm := mem_listed he; simp [go_sem, execOp, Act.eval] at hm⟩⟩) ?_
      walk_nrm
      refine anyM_all (r := [4]) (by kernel_rfl) (by kernel_rfl) (fun i hi hil => ?_)
      simp only [List.mem_cons, List.not_mem_nil, or_false] at hi
      subst hi
      refine opm_k rfl rfl (fun d K' hK' => ?_)
      go_simp
      refine hK' _ _ ⟨⟨⟨0, grew_alloc hU (hs.at d).top _⟩, fun e he => by (have hm := mem_listed he; simp [go_sem, hn64] at hm)⟩, (hs.at d).alloc _, ?_⟩
      clear hK' K'
      rw [alloc_at']
      refine anyM_at hS hZ _ _ _ _ ?_ d
      replace hs := hs.alloc (.cells #[.chan (some (w.heap.size + 1)), .slice none 0 0, .slice (some ⟨w.heap.size + 1 + 1, 0, none⟩) n n] 144)
      refine anyM_end (by kernel_rfl) ?_ _
      (refine oWd rfl rfl (by decide) fun dd K hK => ?_; go_simp; refine hK _ _ ⟨⟨⟨0, grew_setCell rfl (not_held hU (by first | (simp [go_sem]; done) | (simp [go_sem]; omega))) _⟩, fun e he => by (have hm := mem_listed he; simp [go_sem, storedEv] at hm; subst hm; exact evT_write _ _ (not_held hU (by first | (simp [go_sem]; done) | (simp [go_sem]; omega))))⟩, ?_⟩; clear hK K; rw [setCell_at']; refine Own.at ?_ dd)
      refine own_go rfl (fun d => stepG_region_end) ?_
      refine h _ (w.heap.size) (w.heap.size + 1 + 1 + 1) (w.heap.size + 1) (w.heap.size + 1 + 1) _ (set3_of (four_size w _ _ _ _) (four_old w _ _ _ _) (four0 w _ _ _ _) (four3 w _ _ _ _) (four1 w _ _ _ _) (four2 w _ _ _ _) (by omega) (by omega) (by omega) (by omega) (by omega) (by omega) (by omega)) ⟨rfl, rfl, rfl, rfl, rfl, rfl, rfl, rfl, rfl, trivial⟩
    · refine opm_k rfl rfl (fun d K' hK' => ?_)
      go_simp
      refine hK' _ _ ⟨⟨⟨0, grew_alloc hU (hs.at d).top _⟩, fun e he => by (have hm := mem_listed he; simp [go_sem, hn64] at hm)⟩, (hs.at d).alloc _, ?_⟩
      clear hK' K'
      rw [alloc_at']
      refine anyM_at hS hZ _ _ _ _ ?_ d
      replace hs := hs.alloc (.cells (madeCells #[.bool false] n) 4)
      refine anyM_all (r := [0]) (by kernel_rfl) (by kernel_rfl) (fun i hi hil => ?_)
      simp only [List.mem_cons, List.not_mem_nil, or_false] at hi
      subst hi
      refine opm_k rfl rfl (fun d K' hK' => ?_)
      go_simp
      refine hK' _ _ ⟨⟨⟨0, grew_alloc hU (hs.at d).top _⟩, fun e he => by (have hm := mem_listed he; simp [go_sem, hn64] at hm)⟩, (hs.at d).alloc _, ?_⟩
      clear hK' K'
      rw [alloc_at']
      refine anyM_at hS hZ _ _ _ _ ?_ d
      replace hs := hs.alloc (.chan 0 #[] false 0 0 false)
      refine anyM_take hS hZ (i := 3) (v := .agg #[.chan (some (w.heap.size + 1 + 1)), .slice none 0 0, .slice (some ⟨w.heap.size + 1, 0, none⟩) n n]) hs rfl rfl (by kernel_rfl) (by kernel_rfl) (by kernel_rfl) (fun u hu => .inl ⟨rfl, fun d => ⟨by simp [go_sem, execOp, Act.eval], fun e he => by have hm := mem_listed he; simp [go_sem, execOp, Act.eval] at hm⟩⟩) ?_
      walk_nrm
      refine anyM_all (r := [4]) (by kernel_rfl) (by kernel_rfl) (fun i hi hil => ?_)
      simp only [List.mem_cons, List.not_mem_nil, or_false] at hi
      subst hi
      refine opm_k rfl rfl (fun d K' hK' => ?_)
      go_simp
      refine hK' _ _ ⟨⟨⟨0, grew_alloc hU (hs.at d).top _⟩, fun e he => by (have hm := mem_listed he; simp [go_sem, hn64] at hm)⟩, (hs.at d).alloc _, ?_⟩
      clear hK' K'
      rw [alloc_at']
      refine anyM_at hS hZ _ _ _ _ ?_ d
      replace hs := hs.alloc (.cells #[.chan (some (w.heap.size + 1 + 1)), .slice none 0 0, .slice (some ⟨w.heap.size + 1, 0, none⟩) n n] 144)
      refine anyM_end (by kernel_rfl) ?_ _
      (refine oWd rfl rfl (by decide) fun dd K hK => ?_; go_simp; refine hK _ _ ⟨⟨⟨0, grew_setCell rfl (not_held hU (by first | (simp [go_sem]; done) | (simp [go_sem]; omega))) _⟩, fun e he => by (have hm := mem_listed he; simp [go_sem, storedEv] at hm; subst hm; exact evT_write _ _ (not_held hU (by first | (simp [go_sem]; done) | (simp [go_sem]; omega))))⟩, ?_⟩; clear hK K; rw [setCell_at']; refine Own.at ?_ dd)
      refine own_go rfl (fun d => stepG_region_end) ?_
      refine h _ (w.heap.size) (w.heap.size + 1 + 1 + 1) (w.heap.size + 1 + 1) (w.heap.size + 1) _ (set3_of (four_size w _ _ _ _) (four_old w _ _ _ _) (four0 w _ _ _ _) (four3 w _ _ _ _) (four2 w _ _ _ _) (four1 w _ _ _ _) (by omega) (by omega) (by omega) (by omega) (by omega) (by omega) (by omega)) ⟨rfl, rfl, rfl, rfl, rfl, rfl, rfl, rfl, rfl, trivial⟩
end Go.Proofs.Ytcejbandeikdjaa
namespace Go.Proofs.Ytcejbandeikdjaa
open Go Go.Conc Go.RowKit Go.Proofs
variable {P : Program} {F : Fz} {w w' : World}
theorem Wf.of_grew {j : Nat} (h : Wf F w) (hg : Grew F w w' j) : Wf F w' := by
  constructor
  intro r z hz
  obtain ⟨c, e, z0, h1, h2⟩ := h.own r z hz
  rcases hg.objs r _ h1 with ⟨c1, e1, z1, c', h3, h4, _⟩ | h3
  · cases h3; exact ⟨c', e, z0, h4, h2⟩
  · exact ⟨c, e, z0, h3, h2⟩
theorem opm_lift {S' : FuncId → Bool} {px : Bool} (hC : Closed P S' px) (hF : px = true → ∀ r, F r = none) {fn : FuncId} {ops : Array Oper} {i : Nat} {o : Oper} {K : Act → World → Prop} {a : Act} (ho : ops[i]? = some o) (hok : opOk P S' px o.op = true)
    (hw : Region.wanted o (yielded ops a.tmps) = true) (hwf : Wf F w)
    (h : ∀ d, ∃ v u, (execOp a.eval o).run P (mask F (w.at d)) = .ok (.value v) u ∧ ∀ w', u = mask F w' → (∃ j, Grew F (w.at d) w' j) → Wf F w' → K (a.put o.dst v) w') : OpM P F fn ops i K a w := by
  refine ⟨o, ho, .inl ⟨hw, fun d => ?_⟩⟩
  obtain ⟨v, u, hr, hk⟩ := h d
  have hs := execOp_sims hC hF a.eval (fun v => rfl) (fun f => rfl) o hok (w.at d) ⟨hwf.own⟩
  unfold SimAt at hs
  rw [hr] at hs
  obtain ⟨w', es, j, hu, hrun, hev, het, hg, hwf', _⟩ := hs
  rw [hrun]
  refine ⟨⟨⟨j, hg⟩, fun e he => ?_⟩, hk w' hu ⟨j, hg⟩ hwf'⟩
  have hm := mem_listed he
  rw [hev] at hm
  exact het e (by simpa using hm)
theorem run_append_op {o : Oper} {a : Act} {v xv v' : Value} {u : World} (s x : Operand) (t : TypeId)
    (ho : o.op = .call { callee := .builtin .append, args := #[s, x], argTypes := #[t, t] }) (hs : a.eval s = v) (hx : a.eval x = xv)
    (hr : (Builtin.append_ #[t, t] o.type #[v, xv]).run P w = .ok v' u) : (execOp a.eval o).run P w = .ok (.value v') u := by
  unfold execOp
  simp only [ho, resolve, invoke, builtin, Sem.run_bind, Sem.run_pure, Result.andThen_ok, List.map_toArray, List.map_cons, List.map_nil, hs, hx, hr]
theorem info145 : ∃ i, Try.prog.info? 145 = some i ∧ i.zero = some (.pointer none) ∧ i.size = 1 ∧ i.bytes = 8 := by
  have h : (Try.prog.info? 145).map (fun i => (i.size, i.bytes)) = some (1, 8) := by kernel_rfl
  have h0 : (Try.prog.info? 145).bind (·.zero) = some (.pointer none) := by kernel_rfl
  obtain ⟨i, hi, h1⟩ := Option.map_eq_some_iff.1 h
  rw [hi] at h0
  simp only [Prod.mk.injEq] at h1
  exact ⟨i, hi, h0, h1.1, h1.2⟩
theorem ownsRow_same2 {W W' : World} {base n size : Nat} {e : TypeId} {v : Value} {xs : List Value} (h : W.ownsRow base e size v n xs) (hb : ∀ b, Value.ownBlock v = some b → base ≤ b → W'.heap[b]? = W.heap[b]?) : W'.ownsRow base e size v n xs := by
  refine ⟨h.1, ?_⟩
  rcases h.2 with h2 | ⟨b, cap, cur, rfl, h3, h4, h5⟩
  · exact .inl h2
  · exact .inr ⟨b, cap, cur, rfl, h3, (hb b rfl h3).trans h4, h5⟩
theorem slice_form2 {base n size : Nat} {e : TypeId} {v : Value} {xs : List Value} (h : w.ownsRow base e size v (n + 1) xs) : ∃ b cap cur, v = .slice (some ⟨b, 0, none⟩) (n + 1) cap ∧ base ≤ b ∧ w.heap[b]? = some (.cells cur e (0, 0)) := by
  rcases h.2 with ⟨_, h⟩ | ⟨b, cap, cur, h1, h2, h3, _⟩
  · omega
  · exact ⟨b, cap, cur, h1, h2, h3⟩
theorem own_type {base n size b : Nat} {e e' : TypeId} {v : Value} {xs : List Value} {c : Array Value} {z : Nat × Nat} (h : w.ownsRow base e size v n xs) (hc : w.heap[b]? = some (.cells c e' z)) (hne : e ≠ e') : some b ≠ Value.ownBlock v := by
  rcases h.2 with ⟨rfl, _⟩ | ⟨g, cap, cur, rfl, _, h3, _⟩
  · simp [Value.ownBlock]
  · intro h4
    simp only [Value.ownBlock, Option.some.injEq] at h4
    subst h4
    rw [hc] at h3
    cases h3
    exact hne rfl
theorem own_chan {base n size b cap k l : Nat} {e : TypeId} {v : Value} {xs : List Value} {buf : Array Value} {cl tm : Bool} (h : w.ownsRow base e size v n xs) (hc : w.heap[b]? = some (.chan cap buf cl k l tm)) : some b ≠ Value.ownBlock v := by
  rcases h.2 with ⟨rfl, _⟩ | ⟨g, cap, cur, rfl, _, h3, _⟩
  · simp [Value.ownBlock]
  · intro h4
    simp only [Value.ownBlock, Option.some.injEq] at h4
    subst h4
    rw [hc] at h3
    cases h3
structure ST (F : Fz) (nn n tv tb bk br : Nat) (slv : Value) (u : World) : Prop where
  top : nn ≤ u.heap.size
  wf : Wf F u
  tvc : u.heap[tv]? = some (.cells #[.pointer (some ⟨tb, 0, none⟩)] 140)
  tbc : u.heap[tb]? = some (.cells #[.chan (some bk), slv, .slice (some ⟨br, 0, none⟩) n n] 144)
section
variable {nn n tv tb bk br : Nat} {slv : Value} {u : World}
theorem ST.at (h : ST F nn n tv tb bk br slv u) (d : Nat) : ST F nn n tv tb bk br slv (u.at d) := ⟨h.top, ⟨h.wf.own⟩, h.tvc, h.tbc⟩
theorem ST.alloc (hU : Under F nn) (h : ST F nn n tv tb bk br slv u) (o : Obj) : ST F nn n tv tb bk br slv (u.alloc o) :=
  ⟨by have := h.top; simp; omega, h.wf.of_grew (grew_alloc hU h.top o), (heap_alloc_lt _ _ (Array.getElem?_eq_some_iff.1 h.tvc).1).trans h.tvc, (heap_alloc_lt _ _ (Array.getElem?_eq_some_iff.1 h.tbc).1).trans h.tbc⟩
theorem ST.c1 (h : ST F nn n tv tb bk br slv u) : u.cell? ⟨tv, 0, none⟩ = some (.pointer (some ⟨tb, 0, none⟩)) := by simp [World.cell?, h.tvc]
theorem ST.z1 (h : ST F nn n tv tb bk br slv u) : u.frozen? ⟨tv, 0, none⟩ = false := by simp [World.frozen?, h.tvc]
theorem ST.c2 (h : ST F nn n tv tb bk br slv u) : u.cell? ⟨tb, 1, none⟩ = some slv := by simp [World.cell?, h.tbc]
theorem ST.z2 (h : ST F nn n tv tb bk br slv u) : u.frozen? ⟨tb, 1, none⟩ = false := by simp [World.frozen?, h.tbc]
end
structure Stood (F : Fz) (nn n tv tb bk br i : Nat) (slv : Value) (xs : List Value) (w w' : World) (v' : Value) (p q : Nat) : Prop where
  st : ST F nn n tv tb bk br v' w'
  row : w'.ownsRow nn 145 1 v' (i + 1) (xs ++ [.pointer (some ⟨q, 0, none⟩)])
  pc : w'.heap[p]? = some (.chan 0 #[] false 0 0 false)
  qc : w'.heap[q]? = some (.cells #[.pointer (some ⟨tb, 0, none⟩), .chan (some p), .bool false] 148)
  pl : p = w.heap.size
  ql : q = w.heap.size + 1
  size : w.heap.size + 2 ≤ w'.heap.size
  old : ∀ r, nn ≤ r → r < w.heap.size → r ≠ tb → some r ≠ Value.ownBlock slv → w'.heap[r]? = w.heap[r]?
set_option maxRecDepth 100000 in
set_option maxHeartbeats 8000000 in
theorem ov_s6 {nn n tv tb bk br i mo od nb : Nat} {slv thr sch : Value} {xs : List Value} (hU : Under F nn) (hs : ST F nn n tv tb bk br slv w) (hrow : w.ownsRow nn 145 1 slv i xs) (hi64 : i < 64) (hlow : nn ≤ tv ∧ nn ≤ tb) {A : Array Value} (hA : Slots 129 A [(0, thr), (1, sch), (5, .pointer (some ⟨mo, 0, none⟩)), (6, .pointer (some ⟨od, 0, none⟩)), (7, .bool false), (8, .slice none 0 0), (9, .pointer (some ⟨nb, 0, none⟩)), (10, .pointer (some ⟨tv, 0, none⟩)), (29, .int .i64 n), (30, .int .i64 i)]) {cs : List Frame} {main : Bool} {Stop : Goroutine → World → Prop} {k : List Item}
    (h : ∀ (w' : World) (v' : Value) (p q : Nat) (A : Array Value), Stood F nn n tv tb bk br i slv xs w w' v' p q → Slots 129 A [(0, thr), (1, sch), (5, .pointer (some ⟨mo, 0, none⟩)), (6, .pointer (some ⟨od, 0, none⟩)), (7, .bool false), (8, .slice none 0 0), (9, .pointer (some ⟨nb, 0, none⟩)), (10, .pointer (some ⟨tv, 0, none⟩)), (29, .int .i64 n), (30, .int .i64 i)] → Own Try.prog main F Stop (G ((Go.Conc.base 62).at ⟨A, []⟩ k) cs) w') :
    Own Try.prog main F Stop (G ((Go.Conc.base 62).at ⟨A, []⟩ (.code ovr6 :: k)) cs) w := by
  obtain ⟨hsz, h0, h1, h5, h6, h7, h8, h9, h10, h29, h30, _⟩ := hA
  obtain ⟨s, rfl⟩ := ovT_of hsz
  change s 0 = _ at h0
  change s 1 = _ at h1
  change s 5 = _ at h5
  change s 6 = _ at h6
  change s 7 = _ at h7
  change s 8 = _ at h8
  change s 9 = _ at h9
  change s 10 = _ at h10
  change s 29 = _ at h29
  change s 30 = _ at h30
  clear hsz
  simp only [ovT, h0, h1, h5, h6, h7, h8, h9, h10, h29, h30]
  clear h0 h1 h5 h6 h7 h8 h9 h10 h29 h30
  have hS : ∀ u d, ST F nn n tv tb bk br slv u → ST F nn n tv tb bk br slv (World.at u d) := fun u d h => h.at d
  have htop := hs.top
  rw [ovr6_eq]
  refine own_drawnM (ST F nn n tv tb bk br slv) (last := 13) run_mixed (ll_of (by kernel_rfl)) (by decide) ?_
  simp only [ovo6, Code.opsOf, ovr6, Code.piece, ovBody, Try.f62, Option.getD_some, List.size_toArray, List.length_cons, List.length_nil, Nat.reduceAdd, Nat.zero_add, List.range, List.range.loop]
  have hZ : ∀ a u d, Own Try.prog main F Stop (G ((Go.Conc.base 62).at a (.inRegion ovo6 [13] :: k)) cs) u → Own Try.prog main F Stop (G ((Go.Conc.base 62).at a (.inRegion ovo6 [13] :: k)) cs) (World.at u d) := fun a u d h => h.at d
  simp only [ovo6, Code.opsOf, ovr6, Code.piece, ovBody, Try.f62, Option.getD_some, List.size_toArray, List.length_cons, List.length_nil, Nat.reduceAdd, Nat.zero_add, List.range, List.range.loop] at hZ
  refine anyM_take hS hZ (i := 0) (v := .pointer (some ⟨tb, 0, none⟩)) hs rfl rfl (by kernel_rfl) (by kernel_rfl) (by kernel_rfl) (fun u hu => .inl ⟨rfl, fun d => ⟨by simp [go_sem, execOp, Act.eval, hu.c1, hu.z1], fun e he => by have hm := mem_listed he; simp [go_sem, execOp, Act.eval, hu.c1, hu.z1] at hm; subst hm; exact evT_read _ _⟩⟩) ?_
  walk_nrm
  refine anyM_take hS hZ (i := 1) (v := .pointer (some ⟨tb, 0, none⟩)) hs rfl rfl (by kernel_rfl) (by kernel_rfl) (by kernel_rfl) (fun u hu => .inl ⟨rfl, fun d => ⟨by simp [go_sem, execOp, Act.eval, hu.c1, hu.z1], fun e he => by have hm := mem_listed he; simp [go_sem, execOp, Act.eval, hu.c1, hu.z1] at hm; subst hm; exact evT_read _ _⟩⟩) ?_
  walk_nrm
  refine anyM_take hS hZ (i := 2) (v := .pointer (some ⟨tb, 0, none⟩)) hs rfl rfl (by kernel_rfl) (by kernel_rfl) (by kernel_rfl) (fun u hu => .inl ⟨rfl, fun d => ⟨by simp [go_sem, execOp, Act.eval], fun e he => by have hm := mem_listed he; simp [go_sem, execOp, Act.eval] at hm⟩⟩) ?_
  walk_nrm
  refine anyM_take hS hZ (i := 3) (v := .pointer (some ⟨tb, 1, none⟩)) hs rfl rfl (by kernel_rfl) (by kernel_rfl) (by kernel_rfl) (fun u hu => .inl ⟨rfl, fun d => ⟨by simp [go_sem, execOp, Act.eval], fun e he => by have hm := mem_listed he; simp [go_sem, execOp, Act.eval] at hm⟩⟩) ?_
  walk_nrm
  refine anyM_take hS hZ (i := 4) (v := slv) hs rfl rfl (by kernel_rfl) (by kernel_rfl) (by kernel_rfl) (fun u hu => .inl ⟨rfl, fun d => ⟨by simp [go_sem, execOp, Act.eval, hu.c2, hu.z2], fun e he => by have hm := mem_listed he; simp [go_sem, execOp, Act.eval, hu.c2, hu.z2] at hm; subst hm; exact evT_read _ _⟩⟩) ?_
  walk_nrm
  refine anyM_take hS hZ (i := 5) (v := .pointer (some ⟨tb, 0, none⟩)) hs rfl rfl (by kernel_rfl) (by kernel_rfl) (by kernel_rfl) (fun u hu => .inl ⟨rfl, fun d => ⟨by simp [go_sem, execOp, Act.eval, hu.c1, hu.z1], fun e he => by have hm := mem_listed he; simp [go_sem, execOp, Act.eval, hu.c1, hu.z1] at hm; subst hm; exact evT_read _ _⟩⟩) ?_
  walk_nrm
  refine anyM_all (r := [6]) (by kernel_rfl) (by kernel_rfl) (fun i hi hil => ?_)
  simp only [List.mem_cons, List.not_mem_nil, or_false] at hi
  subst hi
  refine opm_k rfl rfl (fun d K' hK' => ?_)
  go_simp
  refine hK' _ _ ⟨⟨⟨0, grew_alloc hU (hs.at d).top _⟩, fun e he => by (have hm := mem_listed he; simp [go_sem] at hm)⟩, (hs.at d).alloc hU _, ?_⟩
  clear hK' K'
  rw [alloc_at']
  refine anyM_at hS hZ _ _ _ _ ?_ d
  replace hs := hs.alloc hU (.chan 0 #[] false 0 0 false)
  refine anyM_take hS hZ (i := 7) (v := .agg #[.pointer (some ⟨tb, 0, none⟩), .chan (some w.heap.size), .bool false]) hs rfl rfl (by kernel_rfl) (by kernel_rfl) (by kernel_rfl) (fun u hu => .inl ⟨rfl, fun d => ⟨by simp [go_sem, execOp, Act.eval], fun e he => by have hm := mem_listed he; simp [go_sem, execOp, Act.eval] at hm⟩⟩) ?_
  walk_nrm
  refine anyM_all (r := [8]) (by kernel_rfl) (by kernel_rfl) (fun i hi hil => ?_)
  simp only [List.mem_cons, List.not_mem_nil, or_false] at hi
  subst hi
  refine opm_k rfl rfl (fun d K' hK' => ?_)
  go_simp
  refine hK' _ _ ⟨⟨⟨0, grew_alloc hU (hs.at d).top _⟩, fun e he => by (have hm := mem_listed he; simp [go_sem] at hm)⟩, (hs.at d).alloc hU _, ?_⟩
  clear hK' K'
  rw [alloc_at']
  refine anyM_at hS hZ _ _ _ _ ?_ d
  replace hs := hs.alloc hU (.cells #[.pointer (some ⟨tb, 0, none⟩), .chan (some w.heap.size), .bool false] 148)
  refine anyM_all (r := [9]) (by kernel_rfl) (by kernel_rfl) (fun i hi hil => ?_)
  simp only [List.mem_cons, List.not_mem_nil, or_false] at hi
  subst hi
  refine opm_k rfl rfl (fun d K' hK' => ?_)
  go_simp
  refine hK' _ _ ⟨⟨⟨0, grew_alloc hU (hs.at d).top _⟩, fun e he => by (have hm := mem_listed he; simp [go_sem] at hm)⟩, (hs.at d).alloc hU _, ?_⟩
  clear hK' K'
  rw [alloc_at']
  refine anyM_at hS hZ _ _ _ _ ?_ d
  replace hs := hs.alloc hU (.cells #[.pointer (some ⟨w.heap.size + 1, 0, none⟩)] 145)
  refine anyM_all (r := [10]) (by kernel_rfl) (by kernel_rfl) (fun i hi hil => ?_)
  simp only [List.mem_cons, List.not_mem_nil, or_false] at hi
  subst hi
  obtain ⟨i0, hi0, hz0, hz1, hz2⟩ := info145
  have hFn : ∀ b, nn ≤ b → F b = none := fun b hb => by
    cases e : F b with
    | none => rfl
    | some z => exact absurd (hU b z e) (by omega)
  have hown4 : ∀ b, Value.ownBlock slv = some b → nn ≤ b → b < w.heap.size := fun b hb _ => (hrow.lt b hb).2
  have hW4 : ∀ r, r < w.heap.size → (((w.alloc (.chan 0 #[] false 0 0 false)).alloc (.cells #[.pointer (some ⟨tb, 0, none⟩), .chan (some w.heap.size), .bool false] 148)).alloc (.cells #[.pointer (some ⟨w.heap.size + 1, 0, none⟩)] 145)).heap[r]? = w.heap[r]? := fun r hr => by
    rw [heap_alloc_lt _ _ (by simp; omega), heap_alloc_lt _ _ (by simp; omega), heap_alloc_lt _ _ hr]
  have hp4 : (((w.alloc (.chan 0 #[] false 0 0 false)).alloc (.cells #[.pointer (some ⟨tb, 0, none⟩), .chan (some w.heap.size), .bool false] 148)).alloc (.cells #[.pointer (some ⟨w.heap.size + 1, 0, none⟩)] 145)).heap[w.heap.size]? = some (.chan 0 #[] false 0 0 false) := by
    rw [heap_alloc_lt _ _ (by simp; omega), heap_alloc_lt _ _ (by simp)]
    exact heap_alloc_new _ _
  have hq4 : (((w.alloc (.chan 0 #[] false 0 0 false)).alloc (.cells #[.pointer (some ⟨tb, 0, none⟩), .chan (some w.heap.size), .bool false] 148)).alloc (.cells #[.pointer (some ⟨w.heap.size + 1, 0, none⟩)] 145)).heap[w.heap.size + 1]? = some (.cells #[.pointer (some ⟨tb, 0, none⟩), .chan (some w.heap.size), .bool false] 148) := by
    rw [heap_alloc_lt _ _ (by simp)]
    have := heap_alloc_new (w.alloc (.chan 0 #[] false 0 0 false)) (.cells #[.pointer (some ⟨tb, 0, none⟩), .chan (some w.heap.size), .bool false] 148)
    simpa using this
  have hn4 := cell_one_new ((w.alloc (.chan 0 #[] false 0 0 false)).alloc (.cells #[.pointer (some ⟨tb, 0, none⟩), .chan (some w.heap.size), .bool false] 148)) (.pointer (some ⟨w.heap.size + 1, 0, none⟩)) 145
  have hsz4 : (((w.alloc (.chan 0 #[] false 0 0 false)).alloc (.cells #[.pointer (some ⟨tb, 0, none⟩), .chan (some w.heap.size), .bool false] 148)).alloc (.cells #[.pointer (some ⟨w.heap.size + 1, 0, none⟩)] 145)).heap.size = w.heap.size + 3 := by simp
  have hz4 : ((w.alloc (.chan 0 #[] false 0 0 false)).alloc (.cells #[.pointer (some ⟨tb, 0, none⟩), .chan (some w.heap.size), .bool false] 148)).heap.size = w.heap.size + 1 + 1 := by simp
  rw [hz4] at hn4
  clear hz4
  generalize ((w.alloc (.chan 0 #[] false 0 0 false)).alloc (.cells #[.pointer (some ⟨tb, 0, none⟩), .chan (some w.heap.size), .bool false] 148)).alloc (.cells #[.pointer (some ⟨w.heap.size + 1, 0, none⟩)] 145) = W4 at *
  refine opm_lift (S' := fun _ => false) (px := false) (ready0.shut false) (by simp) rfl rfl rfl hs.wf (fun d => ?_)
  have hrowm : (mask F (W4.at d)).ownsRow nn 145 1 slv i xs := ownsRow_same2 hrow fun b hb hbn => by
    rw [mask_at_none (hFn b hbn)]
    exact hW4 b (hown4 b hb hbn)
  obtain ⟨v', u, hr, hown, hgrow, _⟩ := run_append_own (P := Try.prog) (mask F (W4.at d)) nn 142 142 145 i0 (.pointer none) 1 8 Try.underlying142 hi0 hz0 hz1 hz2 rfl (by decide) slv i xs hrowm ⟨w.heap.size + 1 + 1, 0, none⟩ 1 1 [.pointer (some ⟨w.heap.size + 1, 0, none⟩)] rfl
    (fun j u hu => (mask_at_cell _).trans (hn4 j u hu)) (fun x hx => by simp at hx; subst hx; rfl) (by unfold maxLen; omega) (by omega) (by rw [mask_size]; show nn ≤ W4.heap.size; omega)
  refine ⟨v', u, run_append_op (.tmp 36) (.tmp 41) 142 rfl rfl rfl hr, fun w' hu hg hwf' => ?_⟩
  subst hu
  have hkeep : ∀ r, nn ≤ r → r < w.heap.size + 3 → some r ≠ Value.ownBlock slv → w'.heap[r]? = W4.heap[r]? := fun r h1 h2 h3 => by
    have := hgrow.block r (by rw [mask_size]; show r < W4.heap.size; omega) h3
    rw [mask_at_none (hFn r h1), mask_at_none (hFn r h1)] at this
    exact this
  have htvl := (Array.getElem?_eq_some_iff.1 hs.tvc).1
  have ntv := own_type hrowm ((mask_at_none (hFn tv hlow.1)).trans (show (W4.at d).heap[tv]? = _ from hs.tvc)) (by decide)
  have ntb := own_type hrowm ((mask_at_none (hFn tb hlow.2)).trans (show (W4.at d).heap[tb]? = _ from hs.tbc)) (by decide)
  have np := own_chan hrowm ((mask_at_none (hFn w.heap.size htop)).trans (show (W4.at d).heap[w.heap.size]? = _ from hp4))
  have nq := own_type hrowm ((mask_at_none (hFn (w.heap.size + 1) (by omega))).trans (show (W4.at d).heap[w.heap.size + 1]? = _ from hq4)) (by decide)
  have hsize : w.heap.size + 3 ≤ w'.heap.size := by
    have := hgrow.size
    rw [mask_size, mask_size] at this
    have h2 : (W4.at d).heap.size = w.heap.size + 3 := hsz4
    omega
  have htv4 := (Array.getElem?_eq_some_iff.1 hs.tvc).1
  have htb4 := (Array.getElem?_eq_some_iff.1 hs.tbc).1
  have hst' : ST F nn n tv tb bk br slv w' := ⟨by omega, hwf', (hkeep tv hlow.1 (by omega) ntv).trans hs.tvc, (hkeep tb hlow.2 (by omega) ntb).trans hs.tbc⟩
  obtain ⟨b1, cap1, cur1, rfl, hb1, hb2⟩ := slice_form2 hown
  have hb3 : w'.heap[b1]? = some (.cells cur1 145 (0, 0)) := by rw [mask_at_none (hFn b1 hb1)] at hb2; exact hb2
  have hrow' : w'.ownsRow nn 145 1 (.slice (some ⟨b1, 0, none⟩) (i + 1) cap1) (i + 1) (xs ++ [.pointer (some ⟨w.heap.size + 1, 0, none⟩)]) := ownsRow_same2 hown fun b hb hbn => (mask_at_none (hFn b hbn)).symm
  have nb1 : b1 ≠ tb := by
    rintro rfl
    rw [hst'.tbc] at hb3
    cases hb3
  have htt : tv ≠ tb := by
    rintro rfl
    have := hst'.tbc
    rw [hst'.tvc] at this
    cases this
  refine ⟨hst', ?_⟩
  clear hs
  have hs := hst'
  walk_nrm
  refine anyM_take hS hZ (i := 11) (v := .pointer (some ⟨tb, 0, none⟩)) hs rfl rfl (by kernel_rfl) (by kernel_rfl) (by kernel_rfl) (fun u hu => .inl ⟨rfl, fun d => ⟨by simp [go_sem, execOp, Act.eval], fun e he => by have hm := mem_listed he; simp [go_sem, execOp, Act.eval] at hm⟩⟩) ?_
  walk_nrm
  refine anyM_take hS hZ (i := 12) (v := .pointer (some ⟨tb, 1, none⟩)) hs rfl rfl (by kernel_rfl) (by kernel_rfl) (by kernel_rfl) (fun u hu => .inl ⟨rfl, fun d => ⟨by simp [go_sem, execOp, Act.eval], fun e he => by have hm := mem_listed he; simp [go_sem, execOp, Act.eval] at hm⟩⟩) ?_
  walk_nrm
  refine anyM_end (by kernel_rfl) ?_ _
  have ctb := hst'.c2
  have ztb := hst'.z2
  have htb1 := hlow.2
  have hnh : ¬ held F ⟨tb, 1, none⟩ := not_held hU htb1
  clear hZ hS hn4 hr hown hgrow hrowm
  (refine oWd rfl rfl (by decide) fun dd K hK => ?_; go_simp; refine hK _ _ ⟨⟨⟨0, grew_setCell rfl hnh _⟩, fun e he => by (have hm := mem_listed he; clear he hK; simp [go_sem, storedEv, ctb, ztb] at hm; subst hm; exact evT_write _ _ hnh)⟩, ?_⟩; clear hK K; rw [setCell_at']; refine Own.at ?_ dd)
  refine own_go rfl (fun d => stepG_region_end) ?_
  refine h _ (.slice (some ⟨b1, 0, none⟩) (i + 1) cap1) (w.heap.size) (w.heap.size + 1) _ ?_ ⟨rfl, rfl, rfl, rfl, rfl, rfl, rfl, rfl, rfl, rfl, rfl, trivial⟩
  refine ⟨⟨by simp; omega, hwf'.of_grew (grew_setCell rfl (not_held hU hlow.2) _), (heap_setCell_ne _ _ _ htt).trans hst'.tvc, by simp [World.setCell, Array.getElem?_modify, hst'.tbc]⟩, ownsRow_same2 hrow' fun b hb _ => heap_setCell_ne _ _ _ (by simp only [Value.ownBlock, Option.some.injEq] at hb; subst hb; exact nb1), ?_, ?_, rfl, rfl, by simp; omega, fun r h1 h2 h3 h4 => ?_⟩
  · refine (heap_setCell_ne _ _ _ ?_).trans ((hkeep _ htop (by omega) np).trans hp4)
    rintro rfl
    have := hst'.tbc
    rw [hkeep _ htop (by omega) np, hp4] at this
    cases this
  · refine (heap_setCell_ne _ _ _ ?_).trans ((hkeep _ (by omega) (by omega) nq).trans hq4)
    intro e
    simp only at e
    have := hst'.tbc
    rw [← e, hkeep _ (by omega) (by omega) nq, hq4] at this
    cases this
  · rw [heap_setCell_ne _ _ _ h3, hkeep r h1 (by omega) h4, hW4 r h2]
end Go.Proofs.Ytcejbandeikdjaa
namespace Go.Proofs.Ytcejbandeikdjaa
open Go Go.Conc Go.RowKit Go.Proofs
variable {F : Fz} {w w' : World}
set_option maxRecDepth 100000 in
set_option maxHeartbeats 2000000 in
theorem ov_w2 {n mo od nb tv : Nat} {thr sch : Value} (hc : w.cell? ⟨nb, 0, none⟩ = some (.int .i64 n)) (hz : w.frozen? ⟨nb, 0, none⟩ = false) {A : Array Value} (hA : Slots 129 A [(0, thr), (1, sch), (5, .pointer (some ⟨mo, 0, none⟩)), (6, .pointer (some ⟨od, 0, none⟩)), (7, .bool false), (8, .slice none 0 0), (9, .pointer (some ⟨nb, 0, none⟩)), (10, .pointer (some ⟨tv, 0, none⟩))]) {cs : List Frame} {main : Bool} {Stop : Goroutine → World → Prop}
    (h : ∀ A, Slots 129 A [(0, thr), (1, sch), (5, .pointer (some ⟨mo, 0, none⟩)), (6, .pointer (some ⟨od, 0, none⟩)), (7, .bool false), (8, .slice none 0 0), (9, .pointer (some ⟨nb, 0, none⟩)), (10, .pointer (some ⟨tv, 0, none⟩)), (29, .int .i64 n), (30, .int .i64 (0 : Nat))] → Own Try.prog main F Stop (G ((Go.Conc.base 62).at ⟨A, []⟩ [.code ovs7, .inLoop ovs7, .inBlock 0, .code ovs10]) cs) w) : Own Try.prog main F Stop (G ((Go.Conc.base 62).at ⟨A, []⟩ [.code ovs4]) cs) w := by
  obtain ⟨hsz, h0, h1, h5, h6, h7, h8, h9, h10, _⟩ := hA
  obtain ⟨s, rfl⟩ := ovT_of hsz
  change s 0 = _ at h0
  change s 1 = _ at h1
  change s 5 = _ at h5
  change s 6 = _ at h6
  change s 7 = _ at h7
  change s 8 = _ at h8
  change s 9 = _ at h9
  change s 10 = _ at h10
  clear hsz
  simp only [ovT, h0, h1, h5, h6, h7, h8, h9, h10]
  clear h0 h1 h5 h6 h7 h8 h9 h10
  rw [ovs4_eq]
  refine own_go rfl (fun d => stepG_seq) ?_
  rw [ovs5_eq]
  refine own_go rfl (fun d => stepG_seq) ?_
  rw [ovr4_eq]
  refine own_go rfl (fun d => stepG_region) ?_
  simp only [ovo4, Code.opsOf, ovr4, Code.piece, ovBody, Try.f62, Option.getD_some, List.size_toArray, List.length_cons, List.length_nil, Nat.reduceAdd, Nat.zero_add, List.range, List.range.loop]
  (refine oWd rfl rfl (by decide) fun dd K hK => ?_; go_simp; refine hK _ _ ⟨⟨⟨0, Grew.refl _ _⟩, fun e he => by (have hm := mem_listed he; simp [go_sem, *] at hm; subst hm; exact evT_read _ _)⟩, Own.at ?_ dd⟩; clear hK K)
  (refine oWd rfl rfl (by decide) fun dd K hK => ?_; go_simp; refine hK _ _ ⟨⟨⟨0, Grew.refl _ _⟩, fun e he => by (have hm := mem_listed he; simp [go_sem] at hm)⟩, Own.at ?_ dd⟩; clear hK K)
  refine own_go rfl (fun d => stepG_region_end) ?_
  rw [ovb0_eq]
  refine own_go rfl (fun d => stepG_block) ?_
  rw [ovl6_eq]
  refine own_go rfl (fun d => stepG_loop) ?_
  refine h _ ?_
  exact ⟨rfl, rfl, rfl, rfl, rfl, rfl, rfl, rfl, rfl, rfl, rfl, trivial⟩
set_option maxRecDepth 100000 in
set_option maxHeartbeats 2000000 in
theorem ov_w3 {n mo od nb tv : Nat} {thr sch : Value} {i : Nat} (hi : i < n) {A : Array Value} (hA : Slots 129 A [(0, thr), (1, sch), (5, .pointer (some ⟨mo, 0, none⟩)), (6, .pointer (some ⟨od, 0, none⟩)), (7, .bool false), (8, .slice none 0 0), (9, .pointer (some ⟨nb, 0, none⟩)), (10, .pointer (some ⟨tv, 0, none⟩)), (29, .int .i64 n), (30, .int .i64 i)]) {cs : List Frame} {main : Bool} {Stop : Goroutine → World → Prop}
    (h : ∀ A, Slots 129 A [(0, thr), (1, sch), (5, .pointer (some ⟨mo, 0, none⟩)), (6, .pointer (some ⟨od, 0, none⟩)), (7, .bool false), (8, .slice none 0 0), (9, .pointer (some ⟨nb, 0, none⟩)), (10, .pointer (some ⟨tv, 0, none⟩)), (29, .int .i64 n), (30, .int .i64 i)] → Own Try.prog main F Stop (G ((Go.Conc.base 62).at ⟨A, []⟩ [.code ovr6, .inBlock 1, .code ovr7, .inLoop ovs7, .inBlock 0, .code ovs10]) cs) w) : Own Try.prog main F Stop (G ((Go.Conc.base 62).at ⟨A, []⟩ [.code ovs7, .inLoop ovs7, .inBlock 0, .code ovs10]) cs) w := by
  obtain ⟨hsz, h0, h1, h5, h6, h7, h8, h9, h10, h29, h30, _⟩ := hA
  obtain ⟨s, rfl⟩ := ovT_of hsz
  change s 0 = _ at h0
  change s 1 = _ at h1
  change s 5 = _ at h5
  change s 6 = _ at h6
  change s 7 = _ at h7
  change s 8 = _ at h8
  change s 9 = _ at h9
  change s 10 = _ at h10
  change s 29 = _ at h29
  change s 30 = _ at h30
  clear hsz
  simp only [ovT, h0, h1, h5, h6, h7, h8, h9, h10, h29, h30]
  clear h0 h1 h5 h6 h7 h8 h9 h10 h29 h30
  have hlt : decide ((i : Int) < (n : Int)) = true := by simp; omega
  have hlt2 : decide (i < n) = true := by simp; omega
  rw [ovs7_eq]
  refine own_go rfl (fun d => stepG_seq) ?_
  rw [ovr5_eq]
  refine own_go rfl (fun d => stepG_region) ?_
  simp only [ovo5, Code.opsOf, ovr5, Code.piece, ovBody, Try.f62, Option.getD_some, List.size_toArray, List.length_cons, List.length_nil, Nat.reduceAdd, Nat.zero_add, List.range, List.range.loop]
  (refine oWd rfl rfl (by decide) fun dd K hK => ?_; go_simp; refine hK _ _ ⟨⟨⟨0, Grew.refl _ _⟩, fun e he => by (have hm := mem_listed he; simp [go_sem] at hm)⟩, Own.at ?_ dd⟩; clear hK K)
  refine own_go rfl (fun d => stepG_region_end) ?_
  rw [ovs8_eq]
  refine own_go rfl (fun d => stepG_seq) ?_
  rw [ovc31_eq]
  refine own_go rfl (fun d => stepG_cond (t := true) rfl) ?_
  simp only [if_true]
  refine own_go rfl (fun d => stepG_skip) ?_
  rw [ovs9_eq]
  refine own_go rfl (fun d => stepG_seq) ?_
  rw [ovb1_eq]
  refine own_go rfl (fun d => stepG_block) ?_
  refine h _ ?_
  exact ⟨rfl, rfl, rfl, rfl, rfl, rfl, rfl, rfl, rfl, rfl, rfl, trivial⟩
set_option maxRecDepth 100000 in
set_option maxHeartbeats 2000000 in
theorem ov_w4 {n mo od nb tv : Nat} {thr sch : Value} {i : Nat} (hi : i < 100) {A : Array Value} (hA : Slots 129 A [(0, thr), (1, sch), (5, .pointer (some ⟨mo, 0, none⟩)), (6, .pointer (some ⟨od, 0, none⟩)), (7, .bool false), (8, .slice none 0 0), (9, .pointer (some ⟨nb, 0, none⟩)), (10, .pointer (some ⟨tv, 0, none⟩)), (29, .int .i64 n), (30, .int .i64 i)]) {cs : List Frame} {main : Bool} {Stop : Goroutine → World → Prop}
    (h : ∀ A, Slots 129 A [(0, thr), (1, sch), (5, .pointer (some ⟨mo, 0, none⟩)), (6, .pointer (some ⟨od, 0, none⟩)), (7, .bool false), (8, .slice none 0 0), (9, .pointer (some ⟨nb, 0, none⟩)), (10, .pointer (some ⟨tv, 0, none⟩)), (29, .int .i64 n), (30, .int .i64 (i + 1 : Nat))] → Own Try.prog main F Stop (G ((Go.Conc.base 62).at ⟨A, []⟩ [.code ovs7, .inLoop ovs7, .inBlock 0, .code ovs10]) cs) w) : Own Try.prog main F Stop (G ((Go.Conc.base 62).at ⟨A, []⟩ [.inBlock 1, .code ovr7, .inLoop ovs7, .inBlock 0, .code ovs10]) cs) w := by
  obtain ⟨hsz, h0, h1, h5, h6, h7, h8, h9, h10, h29, h30, _⟩ := hA
  obtain ⟨s, rfl⟩ := ovT_of hsz
  change s 0 = _ at h0
  change s 1 = _ at h1
  change s 5 = _ at h5
  change s 6 = _ at h6
  change s 7 = _ at h7
  change s 8 = _ at h8
  change s 9 = _ at h9
  change s 10 = _ at h10
  change s 29 = _ at h29
  change s 30 = _ at h30
  clear hsz
  simp only [ovT, h0, h1, h5, h6, h7, h8, h9, h10, h29, h30]
  clear h0 h1 h5 h6 h7 h8 h9 h10 h29 h30
  have hk64 : IntKind.i64.wrap ((i : Int) + 1) = (i : Int) + 1 := IntWalk.i64_in _ (by omega)
  refine own_go rfl (fun d => stepG_inBlock) ?_
  rw [ovr7_eq]
  refine own_go rfl (fun d => stepG_region) ?_
  simp only [ovo7, Code.opsOf, ovr7, Code.piece, ovBody, Try.f62, Option.getD_some, List.size_toArray, List.length_cons, List.length_nil, Nat.reduceAdd, Nat.zero_add, List.range, List.range.loop]
  (refine oWd rfl rfl (by decide) fun dd K hK => ?_; go_simp; refine hK _ _ ⟨⟨⟨0, Grew.refl _ _⟩, fun e he => by (have hm := mem_listed he; simp [go_sem] at hm)⟩, Own.at ?_ dd⟩; clear hK K)
  (refine oWd rfl rfl (by decide) fun dd K hK => ?_; go_simp; refine hK _ _ ⟨⟨⟨0, Grew.refl _ _⟩, fun e he => by (have hm := mem_listed he; simp [go_sem] at hm)⟩, Own.at ?_ dd⟩; clear hK K)
  refine own_go rfl (fun d => stepG_region_end) ?_
  refine own_go rfl (fun d => stepG_inLoop) ?_
  refine h _ ?_
  exact ⟨rfl, rfl, rfl, rfl, rfl, rfl, rfl, rfl, rfl, rfl, rfl, trivial⟩
set_option maxRecDepth 100000 in
set_option maxHeartbeats 2000000 in
theorem ov_w5 {nn : Nat} (hU : Under F nn) (hn : nn ≤ w.heap.size) {n mo od nb tv : Nat} {thr sch : Value} (hb : nb < w.heap.size) (hc : w.cell? ⟨nb, 0, none⟩ = some (.int .i64 n)) (hz : w.frozen? ⟨nb, 0, none⟩ = false) {A : Array Value} (hA : Slots 129 A [(0, thr), (1, sch), (5, .pointer (some ⟨mo, 0, none⟩)), (6, .pointer (some ⟨od, 0, none⟩)), (7, .bool false), (8, .slice none 0 0), (9, .pointer (some ⟨nb, 0, none⟩)), (10, .pointer (some ⟨tv, 0, none⟩)), (29, .int .i64 n), (30, .int .i64 n)]) {cs : List Frame} {main : Bool} {Stop : Goroutine → World → Prop}
    (h : ∀ A, Slots 129 A [(0, thr), (1, sch), (7, .bool false), (46, .int .i64 n), (47, .int .i64 (0 : Nat)), (5, .pointer (some ⟨mo, 0, none⟩)), (6, .pointer (some ⟨od, 0, none⟩)), (8, .slice none 0 0), (9, .pointer (some ⟨nb, 0, none⟩)), (10, .pointer (some ⟨tv, 0, none⟩)), (11, .pointer (some ⟨w.heap.size, 0, none⟩))] → Own Try.prog main F Stop (G ((Go.Conc.base 62).at ⟨A, []⟩ [.code ovs14, .inLoop ovs14, .inBlock 2, .code ovs21]) cs) (w.alloc (.cells #[.int .i64 0] 3))) : Own Try.prog main F Stop (G ((Go.Conc.base 62).at ⟨A, []⟩ [.code ovs7, .inLoop ovs7, .inBlock 0, .code ovs10]) cs) w := by
  obtain ⟨hsz, h0, h1, h5, h6, h7, h8, h9, h10, h29, h30, _⟩ := hA
  obtain ⟨s, rfl⟩ := ovT_of hsz
  change s 0 = _ at h0
  change s 1 = _ at h1
  change s 5 = _ at h5
  change s 6 = _ at h6
  change s 7 = _ at h7
  change s 8 = _ at h8
  change s 9 = _ at h9
  change s 10 = _ at h10
  change s 29 = _ at h29
  change s 30 = _ at h30
  clear hsz
  simp only [ovT, h0, h1, h5, h6, h7, h8, h9, h10, h29, h30]
  clear h0 h1 h5 h6 h7 h8 h9 h10 h29 h30
  have hlt : decide ((n : Int) < (n : Int)) = false := by simp
  have hc' := (cell_alloc w (.cells #[.int .i64 0] 3) ⟨nb, 0, none⟩ hb).trans hc
  have hz' : (w.alloc (.cells #[.int .i64 0] 3)).frozen? ⟨nb, 0, none⟩ = false := by
    have : (w.alloc (.cells #[.int .i64 0] 3)).heap[nb]? = w.heap[nb]? := heap_alloc_lt w _ hb
    unfold World.frozen?
    simp only [this]
    exact hz
  rw [ovs7_eq]
  refine own_go rfl (fun d => stepG_seq) ?_
  rw [ovr5_eq]
  refine own_go rfl (fun d => stepG_region) ?_
  simp only [ovo5, Code.opsOf, ovr5, Code.piece, ovBody, Try.f62, Option.getD_some, List.size_toArray, List.length_cons, List.length_nil, Nat.reduceAdd, Nat.zero_add, List.range, List.range.loop]
  (refine oWd rfl rfl (by decide) fun dd K hK => ?_; go_simp; refine hK _ _ ⟨⟨⟨0, Grew.refl _ _⟩, fun e he => by (have hm := mem_listed he; simp [go_sem] at hm)⟩, Own.at ?_ dd⟩; clear hK K)
  refine own_go rfl (fun d => stepG_region_end) ?_
  rw [ovs8_eq]
  refine own_go rfl (fun d => stepG_seq) ?_
  rw [ovc31_eq]
  refine own_go rfl (fun d => stepG_cond (t := false) rfl) ?_
  simp only [Bool.false_eq_true, if_false]
  refine own_go rfl (fun d => stepG_exit rfl) ?_
  rw [ovs10_eq]
  refine own_go rfl (fun d => stepG_seq) ?_
  rw [ovr8_eq]
  refine own_go rfl (fun d => stepG_region) ?_
  simp only [ovo8, Code.opsOf, ovr8, Code.piece, ovBody, Try.f62, Option.getD_some, List.size_toArray, List.length_cons, List.length_nil, Nat.reduceAdd, Nat.zero_add, List.range, List.range.loop]
  (refine oWd rfl rfl (by decide) fun dd K hK => ?_; go_simp; refine hK _ _ ⟨⟨⟨0, grew_alloc hU (by first | (simp [go_sem]; done) | (simp [go_sem]; omega)) _⟩, fun e he => by (have hm := mem_listed he; simp [go_sem, storedEv] at hm)⟩, ?_⟩; clear hK K; rw [alloc_at']; refine Own.at ?_ dd)
  (refine oWd rfl rfl (by decide) fun dd K hK => ?_; go_simp; refine hK _ _ ⟨⟨⟨0, grew_setCell rfl (not_held hU (by first | (simp [go_sem]; done) | (simp [go_sem]; omega))) _⟩, fun e he => by (have hm := mem_listed he; simp [go_sem, storedEv] at hm; subst hm; exact evT_write _ _ (not_held hU (by first | (simp [go_sem]; done) | (simp [go_sem]; omega))))⟩, ?_⟩; clear hK K; rw [setCell_at']; refine Own.at ?_ dd)
  have e1 := set_new w (.int .i64 0) (.int .i64 0) 3
  rw [e1]
  clear e1
  refine own_go rfl (fun d => stepG_region_end) ?_
  rw [ovs11_eq]
  refine own_go rfl (fun d => stepG_seq) ?_
  rw [ovs12_eq]
  refine own_go rfl (fun d => stepG_seq) ?_
  rw [ovr9_eq]
  refine own_go rfl (fun d => stepG_region) ?_
  simp only [ovo9, Code.opsOf, ovr9, Code.piece, ovBody, Try.f62, Option.getD_some, List.size_toArray, List.length_cons, List.length_nil, Nat.reduceAdd, Nat.zero_add, List.range, List.range.loop]
  (refine oWd rfl rfl (by decide) fun dd K hK => ?_; go_simp; refine hK _ _ ⟨⟨⟨0, Grew.refl _ _⟩, fun e he => by (have hm := mem_listed he; simp [go_sem, *] at hm; subst hm; exact evT_read _ _)⟩, Own.at ?_ dd⟩; clear hK K)
  (refine oWd rfl rfl (by decide) fun dd K hK => ?_; go_simp; refine hK _ _ ⟨⟨⟨0, Grew.refl _ _⟩, fun e he => by (have hm := mem_listed he; simp [go_sem] at hm)⟩, Own.at ?_ dd⟩; clear hK K)
  refine own_go rfl (fun d => stepG_region_end) ?_
  rw [ovb2_eq]
  refine own_go rfl (fun d => stepG_block) ?_
  rw [ovl13_eq]
  refine own_go rfl (fun d => stepG_loop) ?_
  refine h _ ?_
  exact ⟨rfl, rfl, rfl, rfl, rfl, rfl, rfl, rfl, rfl, rfl, rfl, rfl, trivial⟩
end Go.Proofs.Ytcejbandeikdjaa
namespace Go.Proofs.Ytcejbandeikdjaa
open Go Go.Conc Go.RowKit Go.Proofs
variable {F : Fz} {w w' : World} {nn n tv tb bk br mo od nb M : Nat} {slv : Value} {sts : List (Nat × Nat)}
structure Stands (F : Fz) (nn n tv tb bk br mo od nb M : Nat) (slv : Value) (sts : List (Nat × Nat)) (w : World) : Prop where
  st : ST F nn n tv tb bk br slv w
  row : w.ownsRow nn 145 1 slv sts.length (sts.map fun s => .pointer (some ⟨s.1, 0, none⟩))
  mem : ∀ s ∈ sts, w.heap[s.1]? = some (.cells #[.pointer (some ⟨tb, 0, none⟩), .chan (some s.2), .bool false] 148) ∧ w.heap[s.2]? = some (.chan 0 #[] false 0 0 false) ∧ nn ≤ s.1 ∧ nn ≤ s.2
  nd1 : (sts.map (·.1)).Nodup
  nd2 : (sts.map (·.2)).Nodup
  bkc : w.heap[bk]? = some (.chan 0 #[] false 0 0 false) ∧ nn ≤ bk ∧ ∀ s ∈ sts, s.2 ≠ bk
  brc : w.heap[br]? = some (.cells (madeCells #[.bool false] n) 4) ∧ nn ≤ br
  moc : w.heap[mo]? = some (.cells #[.int .i64 M] 3) ∧ nn ≤ mo
  odc : w.heap[od]? = some (.cells #[.slice none 0 0] 24) ∧ nn ≤ od
  nbc : w.heap[nb]? = some (.cells #[.int .i64 n] 3) ∧ nn ≤ nb
  low : nn ≤ tv ∧ nn ≤ tb
  mn : mo ≠ nb
theorem Stands.at (h : Stands F nn n tv tb bk br mo od nb M slv sts w) (d : Nat) : Stands F nn n tv tb bk br mo od nb M slv sts (w.at d) :=
  ⟨h.st.at d, h.row, h.mem, h.nd1, h.nd2, h.bkc, h.brc, h.moc, h.odc, h.nbc, h.low, h.mn⟩
theorem Stands.next (h : Stands F nn n tv tb bk br mo od nb M slv sts w) {v' : Value} {p q : Nat} (k : Stood F nn n tv tb bk br sts.length slv (sts.map fun s => .pointer (some ⟨s.1, 0, none⟩)) w w' v' p q) :
    Stands F nn n tv tb bk br mo od nb M v' (sts ++ [(q, p)]) w' := by
  have hcell : ∀ r c e z, w.heap[r]? = some (.cells c e z) → nn ≤ r → e ≠ 145 → e ≠ 144 → w'.heap[r]? = some (.cells c e z) := fun r c e z h1 h2 h3 h4 =>
    (k.old r h2 (Array.getElem?_eq_some_iff.1 h1).1 (by rintro rfl; rw [h.st.tbc] at h1; cases h1; exact h4 rfl) (own_type h.row h1 (Ne.symm h3))).trans h1
  have hchan : ∀ r, w.heap[r]? = some (.chan 0 #[] false 0 0 false) → nn ≤ r → w'.heap[r]? = some (.chan 0 #[] false 0 0 false) := fun r h1 h2 =>
    (k.old r h2 (Array.getElem?_eq_some_iff.1 h1).1 (by rintro rfl; rw [h.st.tbc] at h1; cases h1) (own_chan h.row h1)).trans h1
  have hlt1 : ∀ s ∈ sts, s.1 < w.heap.size ∧ s.2 < w.heap.size := fun s hs => ⟨(Array.getElem?_eq_some_iff.1 (h.mem s hs).1).1, (Array.getElem?_eq_some_iff.1 (h.mem s hs).2.1).1⟩
  have htop := h.st.top
  have hp := k.pl
  have hq := k.ql
  refine ⟨k.st, ?_, fun s hs => ?_, ?_, ?_, ⟨hchan _ h.bkc.1 h.bkc.2.1, h.bkc.2.1, fun s hs => ?_⟩, ⟨hcell _ _ _ _ h.brc.1 h.brc.2 (by decide) (by decide), h.brc.2⟩, ⟨hcell _ _ _ _ h.moc.1 h.moc.2 (by decide) (by decide), h.moc.2⟩, ⟨hcell _ _ _ _ h.odc.1 h.odc.2 (by decide) (by decide), h.odc.2⟩, ⟨hcell _ _ _ _ h.nbc.1 h.nbc.2 (by decide) (by decide), h.nbc.2⟩, h.low, h.mn⟩
  · have := k.row
    simpa using this
  · rcases List.mem_append.1 hs with hs | hs
    · obtain ⟨h1, h2, h3, h4⟩ := h.mem s hs
      exact ⟨hcell _ _ _ _ h1 h3 (by decide) (by decide), hchan _ h2 h4, h3, h4⟩
    · simp only [List.mem_singleton] at hs
      subst hs
      exact ⟨k.qc, k.pc, by simp only; omega, by simp only; omega⟩
  · rw [List.map_append, List.nodup_append]
    refine ⟨h.nd1, by simp, fun a ha b hb => ?_⟩
    obtain ⟨s, hs, rfl⟩ := List.mem_map.1 ha
    simp only [List.map_cons, List.map_nil, List.mem_singleton] at hb
    have := (hlt1 s hs).1
    omega
  · rw [List.map_append, List.nodup_append]
    refine ⟨h.nd2, by simp, fun a ha b hb => ?_⟩
    obtain ⟨s, hs, rfl⟩ := List.mem_map.1 ha
    simp only [List.map_cons, List.map_nil, List.mem_singleton] at hb
    have := (hlt1 s hs).2
    omega
  · rcases List.mem_append.1 hs with hs | hs
    · exact h.bkc.2.2 s hs
    · simp only [List.mem_singleton] at hs
      subst hs
      have := (Array.getElem?_eq_some_iff.1 h.bkc.1).1
      simp only
      omega
theorem ov_stands (hU : Under F nn) (hn64 : n ≤ 64) {thr sch : Value} {cs : List Frame} {main : Bool} {Stop : Goroutine → World → Prop}
    (hk : ∀ (w : World) slv sts A, Stands F nn n tv tb bk br mo od nb M slv sts w → sts.length = n → Slots 129 A [(0, thr), (1, sch), (5, .pointer (some ⟨mo, 0, none⟩)), (6, .pointer (some ⟨od, 0, none⟩)), (7, .bool false), (8, .slice none 0 0), (9, .pointer (some ⟨nb, 0, none⟩)), (10, .pointer (some ⟨tv, 0, none⟩)), (29, .int .i64 n), (30, .int .i64 n)] →
      Own Try.prog main F Stop (G ((Go.Conc.base 62).at ⟨A, []⟩ [.code ovs7, .inLoop ovs7, .inBlock 0, .code ovs10]) cs) w) :
    ∀ (k i : Nat), i + k = n → ∀ (w : World) slv sts A, Stands F nn n tv tb bk br mo od nb M slv sts w → sts.length = i → Slots 129 A [(0, thr), (1, sch), (5, .pointer (some ⟨mo, 0, none⟩)), (6, .pointer (some ⟨od, 0, none⟩)), (7, .bool false), (8, .slice none 0 0), (9, .pointer (some ⟨nb, 0, none⟩)), (10, .pointer (some ⟨tv, 0, none⟩)), (29, .int .i64 n), (30, .int .i64 i)] →
      Own Try.prog main F Stop (G ((Go.Conc.base 62).at ⟨A, []⟩ [.code ovs7, .inLoop ovs7, .inBlock 0, .code ovs10]) cs) w := by
  intro k
  induction k with
  | zero =>
    intro i hi w slv sts A h hl hA
    obtain rfl : i = n := by omega
    exact hk w slv sts A h hl hA
  | succ k ih =>
    intro i hi w slv sts A h hl hA
    refine ov_w3 (by omega) hA fun A hA => ?_
    have hrow := h.row
    subst hl
    refine ov_s6 hU h.st hrow (by omega) h.low hA fun w' v' p q A hS hA => ?_
    refine ov_w4 (by omega) hA fun A hA => ?_
    exact ih (sts.length + 1) (by omega) w' v' (sts ++ [(q, p)]) A (h.next hS) (by simp) hA
structure Made (nn M : Nat) (g : Gate) (v : Mine) (w : World) : Prop where
  ok : g.Ok
  lie : ∀ a u, g.Place a u → Lies w a u
  top : g.top ≤ w.heap.size
  sln : ∃ a, g.sl = .slice a g.n g.sc
  over : ∀ j, j < g.n → Lies w ⟨g.st j, 2, none⟩ (.bool false)
  brk : ∀ j, j < g.n → Lies w ⟨g.br, j, none⟩ (.bool false)
  chans : ∀ c, g.Chan c → w.heap[c]? = some (.chan 0 #[] false 0 0 false) ∧ nn ≤ c
  place : ∀ a u, g.Place a u → nn ≤ a.block
  st : ∀ j, j < g.n → nn ≤ g.st j ∧ g.st j < w.heap.size
  br : nn ≤ g.br ∧ g.br < w.heap.size
  mo : w.heap[v.mo]? = some (.cells #[.int .i64 M] 3)
  od : w.heap[v.od]? = some (.cells #[.slice none 0 0] 24)
  n : w.heap[v.n]? = some (.cells #[.int .i64 g.n] 3)
  lf : w.heap[v.lf]? = some (.cells #[.int .i64 (0 : Nat)] 3)
  low : nn ≤ v.mo ∧ nn ≤ v.od ∧ nn ≤ v.n ∧ nn ≤ v.lf
  dn : v.mo ≠ v.n ∧ v.lf ≠ v.n ∧ v.lf ≠ v.mo
  alone : ∀ b c e, w.heap[b]? = some (.cells c e (0, 0)) → e = 3 ∨ e = 24 → (∀ j, j < g.n → b ≠ g.st j) ∧ b ≠ g.br ∧ ∀ a u, g.Place a u → b ≠ a.block
theorem madeCells_get (n j : Nat) (h : j < n) : (madeCells #[Value.bool false] n)[j]? = some (.bool false) := by
  simp [madeCells, h, Nat.mod_one]
theorem nodup_inj {α : Type} {l : List α} (h : l.Nodup) {i j : Nat} (hi : i < l.length) (hj : j < l.length) (e : l[i] = l[j]) : i = j := by
  have := List.pairwise_iff_getElem.1 h
  rcases Nat.lt_trichotomy i j with h1 | h1 | h1
  · exact absurd e (this i j hi hj h1)
  · exact h1
  · exact absurd e.symm (this j i hj hi h1)
theorem made_of {A : Anchor} (hF : A.b ≤ nn) {slv : Value} {sts : List (Nat × Nat)} (h : Stands F nn n tv tb bk br mo od nb M slv sts w) (hl : sts.length = n) :
    ∃ g : Gate, g.an = A ∧ g.n = n ∧ g.tv = tv ∧ Made nn M g ⟨mo, od, nb, w.heap.size⟩ (w.alloc (.cells #[.int .i64 (0 : Nat)] 3)) := by
  have hk : ∀ r o, w.heap[r]? = some o → (w.alloc (.cells #[.int .i64 (0 : Nat)] 3)).heap[r]? = some o := fun r o hr => (heap_alloc_lt _ _ (Array.getElem?_eq_some_iff.1 hr).1).trans hr
  obtain ⟨sa, sc, hrow⟩ : ∃ sa sc, (0 < n → slv = .slice (some ⟨sa, 0, none⟩) n sc ∧ nn ≤ sa ∧ ∃ cur, w.heap[sa]? = some (.cells cur 145 (0, 0)) ∧ ∀ j, j < n → cur[j]? = some (.pointer (some ⟨(sts.getD j (0, 0)).1, 0, none⟩))) ∧ ∃ a, slv = .slice a n sc := by
    rcases h.row.2 with ⟨h1, h2⟩ | ⟨b, cap, cur, h1, h2, h3, h4, h5, h6, h7⟩
    · exact ⟨0, 0, fun h0 => by omega, none, by rw [h1, ← hl, h2]⟩
    · rw [hl] at h1 h4 h7
      refine ⟨b, cap, fun h0 => ⟨h1, h2, cur, h3, fun j hj => ?_⟩, some ⟨b, 0, none⟩, h1⟩
      have h8 := congrArg (·[j]?) h7
      simp only [Nat.mul_one, List.getElem?_take, if_pos hj, Array.getElem?_toList] at h8
      rw [h8]
      have hj' : j < sts.length := by omega
      simp [hj', List.getD_eq_getElem?_getD]
  obtain ⟨hrow1, a0, hrow2⟩ := hrow
  have hmem : ∀ j, j < n → sts.getD j (0, 0) ∈ sts := fun j hj => by
    have hj' : j < sts.length := by omega
    simp [List.getD_eq_getElem?_getD, hj']
  have hinj1 : ∀ i j, i < n → j < n → (sts.getD i (0, 0)).1 = (sts.getD j (0, 0)).1 → i = j := fun i j hi hj e => by
    have hi' : i < sts.length := by omega
    have hj' : j < sts.length := by omega
    simp only [List.getD_eq_getElem?_getD, List.getElem?_eq_getElem hi', List.getElem?_eq_getElem hj', Option.getD_some] at e
    exact nodup_inj h.nd1 (by simpa using hi') (by simpa using hj') (by simpa using e)
  have hinj2 : ∀ i j, i < n → j < n → (sts.getD i (0, 0)).2 = (sts.getD j (0, 0)).2 → i = j := fun i j hi hj e => by
    have hi' : i < sts.length := by omega
    have hj' : j < sts.length := by omega
    simp only [List.getD_eq_getElem?_getD, List.getElem?_eq_getElem hi', List.getElem?_eq_getElem hj', Option.getD_some] at e
    exact nodup_inj h.nd2 (by simpa using hi') (by simpa using hj') (by simpa using e)
  let g : Gate := { tv := tv, tb := tb, bk := bk, sa := sa, sc := sc, br := br, n := n, sl := slv, bl := .slice (some ⟨br, 0, none⟩) n n, st := fun j => (sts.getD j (0, 0)).1, pc := fun j => (sts.getD j (0, 0)).2, top := w.heap.size, an := A }
  have hstm : ∀ j, j < n → w.heap[(sts.getD j (0, 0)).1]? = some (.cells #[.pointer (some ⟨tb, 0, none⟩), .chan (some (sts.getD j (0, 0)).2), .bool false] 148) := fun j hj => (h.mem _ (hmem j hj)).1
  have hlt : ∀ r o, w.heap[r]? = some o → r < w.heap.size := fun r o hr => (Array.getElem?_eq_some_iff.1 hr).1
  have hplace : ∀ a u, g.Place a u → ∃ c e, w.heap[a.block]? = some (.cells c e (0, 0)) ∧ c[a.off]? = some u ∧ a.spot = none ∧ nn ≤ a.block ∧ (e = 140 ∨ e = 144 ∨ e = 145 ∨ e = 148) ∧ (e = 148 → a.off < 2) := by
    intro a u p
    cases p with
    | tv => exact ⟨_, _, h.st.tvc, rfl, rfl, h.low.1, by simp, by simp⟩
    | back => exact ⟨_, _, h.st.tbc, rfl, rfl, h.low.2, by simp, by simp⟩
    | stands => exact ⟨_, _, h.st.tbc, rfl, rfl, h.low.2, by simp, by simp⟩
    | broken => exact ⟨_, _, h.st.tbc, rfl, rfl, h.low.2, by simp, by simp⟩
    | stand i hi =>
      obtain ⟨_, h2, cur, h3, h4⟩ := hrow1 (Nat.lt_of_le_of_lt (Nat.zero_le _) hi)
      exact ⟨cur, 145, h3, h4 i hi, rfl, h2, by simp, by simp⟩
    | gate i hi => exact ⟨_, _, hstm i hi, rfl, rfl, (h.mem _ (hmem i hi)).2.2.1, by simp, by simp⟩
    | pass i hi => exact ⟨_, _, hstm i hi, rfl, rfl, (h.mem _ (hmem i hi)).2.2.1, by simp, by simp⟩
  have hchan : ∀ c, g.Chan c → w.heap[c]? = some (.chan 0 #[] false 0 0 false) ∧ nn ≤ c := by
    rintro c (rfl | ⟨i, hi, rfl⟩)
    · exact ⟨h.bkc.1, h.bkc.2.1⟩
    · exact ⟨(h.mem _ (hmem i hi)).2.1, (h.mem _ (hmem i hi)).2.2.2⟩
  refine ⟨g, rfl, rfl, rfl, ⟨⟨fun a u c p hc => ?_, fun c hc => Nat.le_trans hF (hchan c hc).2, fun a u p => ?_, fun c hc => hlt _ _ (hchan c hc).1, hinj2, fun i hi => h.bkc.2.2 _ (hmem i hi), fun h0 => (hrow1 h0).1, fun _ => rfl, fun a u p => ?_, fun i a u hi p e => ?_, fun i hi e => ?_, fun _ => hlt _ _ h.brc.1, hinj1⟩, fun a u p => ?_, by simp [g], ⟨a0, hrow2⟩, fun j hj => ⟨⟨_, _, hk _ _ (hstm j hj), rfl⟩, rfl⟩, fun j hj => ⟨⟨_, _, hk _ _ h.brc.1, madeCells_get n j hj⟩, rfl⟩,
    fun c hc => ⟨hk _ _ (hchan c hc).1, (hchan c hc).2⟩, fun a u p => ?_, fun j hj => ⟨(h.mem _ (hmem j hj)).2.2.1, by have := hlt _ _ (hstm j hj); simp only [World.size_alloc, g]; omega⟩, ⟨h.brc.2, by have := hlt _ _ h.brc.1; simp only [World.size_alloc, g]; omega⟩, hk _ _ h.moc.1, hk _ _ h.odc.1, hk _ _ h.nbc.1, heap_alloc_new _ _,
    ⟨h.moc.2, h.odc.2, h.nbc.2, h.st.top⟩, ⟨h.mn, ?_, ?_⟩, fun b c e hb he => ?_⟩⟩
  · obtain ⟨c', e, h1, _⟩ := hplace a u p
    rintro rfl
    rw [(hchan _ hc).1] at h1
    cases h1
  · obtain ⟨c', e, h1, _⟩ := hplace a u p
    exact hlt _ _ h1
  · obtain ⟨c', e, h1, _, _, _, h2, _⟩ := hplace a u p
    intro e1
    have := h.brc.1
    rw [show br = a.block from e1, h1] at this
    simp only [Option.some.injEq, Obj.cells.injEq] at this
    rw [this.2.1] at h2
    simp at h2
  · obtain ⟨c', e', h1, _, _, _, _, h2⟩ := hplace a u p
    have h3 := hstm i hi
    rw [show (sts.getD i (0, 0)).1 = a.block from e, h1] at h3
    cases h3
    exact h2 rfl
  · have := h.brc.1
    rw [show br = (sts.getD i (0, 0)).1 from e, hstm i hi] at this
    simp only [Option.some.injEq, Obj.cells.injEq] at this
    exact absurd this.2.1 (by decide)
  · obtain ⟨c', e, h1, h2, h3, _⟩ := hplace a u p
    exact ⟨⟨c', e, hk _ _ h1, h2⟩, h3⟩
  · obtain ⟨c', e, _, _, _, h1, _⟩ := hplace a u p
    exact h1
  · have := hlt _ _ h.nbc.1; simp only; omega
  · have := hlt _ _ h.moc.1; simp only; omega
  · have hfin : ∀ r c' e', w.heap[r]? = some (.cells c' e' (0, 0)) → e' ≠ 3 → e' ≠ 24 → b ≠ r := fun r c' e' h1 h2 h3 h4 => by
      subst h4
      rw [hk _ _ h1] at hb
      cases hb
      rcases he with rfl | rfl
      · exact h2 rfl
      · exact h3 rfl
    refine ⟨fun j hj => hfin _ _ _ (hstm j hj) (by decide) (by decide), hfin _ _ _ h.brc.1 (by decide) (by decide), fun a u p => ?_⟩
    obtain ⟨c', e', h1, _, _, _, h2, _⟩ := hplace a u p
    refine hfin _ _ _ h1 ?_ ?_
    · rintro rfl; simp at h2
    · rintro rfl; simp at h2
end Go.Proofs.Ytcejbandeikdjaa
namespace Go.Proofs.Ytcejbandeikdjaa
open Go Go.Conc Go.RowKit Go.Proofs
variable {g : Gate} {P : Program} {F : Fz} {w w' : World}
theorem setCell_same {a : Nat} {c : Array Value} {e : TypeId} {z : Nat × Nat} {v : Value} (h : w.heap[a]? = some (.cells c e z)) (hv : c[0]? = some v) : w.setCell ⟨a, 0, none⟩ v = w := by
  have hh : (w.setCell ⟨a, 0, none⟩ v).heap = w.heap := by
    apply Array.ext_getElem?
    intro i
    by_cases e1 : i = a
    · subst e1
      have hc0 := (Array.getElem?_eq_some_iff.1 hv).1
      simp only [World.setCell, Array.getElem?_modify, h, if_true, Option.map_some, Option.isSome_none, Bool.false_eq_true, if_false, Option.some.injEq, Obj.cells.injEq, and_true]
      apply Array.ext_getElem?
      intro j
      rw [Array.getElem?_setIfInBounds]
      split
      · rename_i e2; subst e2; first | exact hv.symm | (rw [if_pos hc0]; exact hv.symm)
      · rfl
    · exact heap_setCell_ne _ _ _ e1
  have e : w.setCell ⟨a, 0, none⟩ v = { w with heap := (w.setCell ⟨a, 0, none⟩ v).heap } := rfl
  rw [e, hh]
theorem stepG_leave' {main : Bool} {b : Frame} {a : Act} {cs : List Frame} {fn : Func} {todo : List Item} {c : Frame} {v : Value} (hn : b.kind = .normal) (hd : a.defers = []) (hf : P.funcs[b.fn]? = some fn)
    (hr : (results fn a.tmps).run P w = .ok v w) :
    stepG P main (G { b.at a todo with mode := .returning } (c :: cs)) w = .go (G (c.finish v) cs) w (seen P b.fn ((results fn a.tmps).events P w #[])) := by
  simp [G, stepG, unwind, doReturn, Frame.at, hn, hd, hf, hr, GStep.after]
theorem own_leave {main : Bool} {b : Frame} {a : Act} {cs : List Frame} {fn : Func} {todo : List Item} {c : Frame} {v : Value} {Stop : Goroutine → World → Prop} (hn : b.kind = .normal) (hd : a.defers = []) (hf : P.funcs[b.fn]? = some fn)
    (hr : ∀ d, (results fn a.tmps).run P (w.at d) = .ok v (w.at d)) (he : ∀ d, ∀ e ∈ (results fn a.tmps).events P (w.at d) #[], EvT F e) (h : Own P main F Stop (G (c.finish v) cs) w) :
    Own P main F Stop (G { b.at a todo with mode := .returning } (c :: cs)) w :=
  .step rfl fun d => ⟨_, _, _, stepG_leave' hn hd hf (hr d), ⟨⟨0, Grew.refl _ _⟩, fun e hm => he d e (mem_seen hm)⟩, h.at d⟩
structure SE (g : Gate) (od : Nat) (oa : Option Addr) (ol oc : Nat) (u : World) : Prop where
  hod : ∃ c e, u.heap[od]? = some (.cells c e (0, 0)) ∧ c[0]? = some (.slice oa ol oc)
  t : Lies u ⟨g.tv, 0, none⟩ (.pointer (some ⟨g.tb, 0, none⟩))
  b : Lies u ⟨g.tb, 2, none⟩ g.bl
section
variable {od ol oc : Nat} {oa : Option Addr} {u : World}
theorem SE.at (h : SE g od oa ol oc u) (d : Nat) : SE g od oa ol oc (u.at d) := ⟨h.hod, h.t.at d, h.b.at d⟩
theorem SE.lo (h : SE g od oa ol oc u) : Lies u ⟨od, 0, none⟩ (.slice oa ol oc) := by obtain ⟨c, e, h1, h2⟩ := h.hod; exact ⟨⟨c, e, h1, h2⟩, rfl⟩
theorem SE.co (h : SE g od oa ol oc u) : u.cell? ⟨od, 0, none⟩ = some (.slice oa ol oc) := h.lo.c
theorem SE.zo (h : SE g od oa ol oc u) : u.frozen? ⟨od, 0, none⟩ = false := h.lo.z
theorem SE.ct (h : SE g od oa ol oc u) : u.cell? ⟨g.tv, 0, none⟩ = some (.pointer (some ⟨g.tb, 0, none⟩)) := h.t.c
theorem SE.zt (h : SE g od oa ol oc u) : u.frozen? ⟨g.tv, 0, none⟩ = false := h.t.z
theorem SE.cb (h : SE g od oa ol oc u) : u.cell? ⟨g.tb, 2, none⟩ = some (g.bl) := h.b.c
theorem SE.zb (h : SE g od oa ol oc u) : u.frozen? ⟨g.tb, 2, none⟩ = false := h.b.z
end
abbrev F0 : Fz := fun _ => none
set_option maxRecDepth 100000 in
set_option maxHeartbeats 4000000 in
theorem ov_end {v : Mine} {st : Bool} {oa : Option Addr} {ol oc : Nat} (hs : SE g v.od oa ol oc w) {A : Array Value} (hA : Slots 129 A (ovEnds g v st g.n)) {c : Frame} {cs : List Frame} {main : Bool} {Stop : Goroutine → World → Prop}
    (h : Own Try.prog main F0 Stop (G (c.finish (.tuple #[.slice oa ol oc, .bool st, g.bl])) cs) w) : Own Try.prog main F0 Stop (G ((Go.Conc.base 62).at ⟨A, []⟩ [.code ovs48]) (c :: cs)) w := by
  obtain ⟨hsz, h7, h107, h108, h109, h5, h6, h8, h9, h10, h11, _⟩ := hA
  obtain ⟨s, rfl⟩ := ovT_of hsz
  change s 7 = _ at h7
  change s 107 = _ at h107
  change s 108 = _ at h108
  change s 109 = _ at h109
  change s 5 = _ at h5
  change s 6 = _ at h6
  change s 8 = _ at h8
  change s 9 = _ at h9
  change s 10 = _ at h10
  change s 11 = _ at h11
  clear hsz
  simp only [ovT, h7, h107, h108, h109, h5, h6, h8, h9, h10, h11]
  clear h7 h107 h108 h109 h5 h6 h8 h9 h10 h11
  have hS : ∀ u d, SE g v.od oa ol oc u → SE g v.od oa ol oc (World.at u d) := fun u d h => h.at d
  rw [ovs48_eq]
  refine own_go rfl (fun d => stepG_seq) ?_
  rw [ovr36_eq]
  refine own_drawnM (SE g v.od oa ol oc) (last := 8) run_mixed (ll_of (by kernel_rfl)) (by decide) ?_
  simp only [ovo36, Code.opsOf, ovr36, Code.piece, ovBody, Try.f62, Option.getD_some, List.size_toArray, List.length_cons, List.length_nil, Nat.reduceAdd, Nat.zero_add, List.range, List.range.loop]
  have hZ : ∀ a u d, Own Try.prog main F0 Stop (G ((Go.Conc.base 62).at a [.inRegion ovo36 [8], .code .ret]) (c :: cs)) u → Own Try.prog main F0 Stop (G ((Go.Conc.base 62).at a [.inRegion ovo36 [8], .code .ret]) (c :: cs)) (World.at u d) := fun a u d h => h.at d
  simp only [ovo36, Code.opsOf, ovr36, Code.piece, ovBody, Try.f62, Option.getD_some, List.size_toArray, List.length_cons, List.length_nil, Nat.reduceAdd, Nat.zero_add, List.range, List.range.loop] at hZ
  refine anyM_take hS hZ (i := 0) (v := .slice oa ol oc) hs rfl rfl (by kernel_rfl) (by kernel_rfl) (by kernel_rfl) (fun u hu => .inl ⟨rfl, fun d => ⟨by simp [go_sem, execOp, Act.eval, hu.co, hu.zo], fun e he => by have hm := mem_listed he; simp [go_sem, execOp, Act.eval, hu.co, hu.zo] at hm; subst hm; exact evT_read _ _⟩⟩) ?_
  walk_nrm
  refine anyM_take hS hZ (i := 1) (v := .bool st) hs rfl rfl (by kernel_rfl) (by kernel_rfl) (by kernel_rfl) (fun u hu => .inl ⟨rfl, fun d => ⟨by simp [go_sem, execOp, Act.eval], fun e he => by have hm := mem_listed he; simp [go_sem, execOp, Act.eval] at hm⟩⟩) ?_
  walk_nrm
  refine anyM_take hS hZ (i := 2) (v := .pointer (some ⟨g.tb, 0, none⟩)) hs rfl rfl (by kernel_rfl) (by kernel_rfl) (by kernel_rfl) (fun u hu => .inl ⟨rfl, fun d => ⟨by simp [go_sem, execOp, Act.eval, hu.ct, hu.zt], fun e he => by have hm := mem_listed he; simp [go_sem, execOp, Act.eval, hu.ct, hu.zt] at hm; subst hm; exact evT_read _ _⟩⟩) ?_
  walk_nrm
  refine anyM_take hS hZ (i := 3) (v := .pointer (some ⟨g.tb, 0, none⟩)) hs rfl rfl (by kernel_rfl) (by kernel_rfl) (by kernel_rfl) (fun u hu => .inl ⟨rfl, fun d => ⟨by simp [go_sem, execOp, Act.eval], fun e he => by have hm := mem_listed he; simp [go_sem, execOp, Act.eval] at hm⟩⟩) ?_
  walk_nrm
  refine anyM_take hS hZ (i := 4) (v := .pointer (some ⟨g.tb, 2, none⟩)) hs rfl rfl (by kernel_rfl) (by kernel_rfl) (by kernel_rfl) (fun u hu => .inl ⟨rfl, fun d => ⟨by simp [go_sem, execOp, Act.eval], fun e he => by have hm := mem_listed he; simp [go_sem, execOp, Act.eval] at hm⟩⟩) ?_
  walk_nrm
  refine anyM_take hS hZ (i := 5) (v := g.bl) hs rfl rfl (by kernel_rfl) (by kernel_rfl) (by kernel_rfl) (fun u hu => .inl ⟨rfl, fun d => ⟨by simp [go_sem, execOp, Act.eval, hu.cb, hu.zb], fun e he => by have hm := mem_listed he; simp [go_sem, execOp, Act.eval, hu.cb, hu.zb] at hm; subst hm; exact evT_read _ _⟩⟩) ?_
  walk_nrm
  refine anyM_all (r := [6]) (by kernel_rfl) (by kernel_rfl) (fun i hi hil => ?_)
  simp only [List.mem_cons, List.not_mem_nil, or_false] at hi
  subst hi
  refine opm_k rfl rfl (fun d K' hK' => ?_)
  have co := (hs.at d).co
  have zo := (hs.at d).zo
  go_simp
  obtain ⟨cc, ee, hh1, hh2⟩ := (hs.at d).hod
  rw [setCell_same hh1 hh2]
  refine hK' _ _ ⟨⟨⟨0, Grew.refl _ _⟩, fun e he => by (have hm := mem_listed he; clear he hK'; simp [go_sem, storedEv, co, zo] at hm; subst hm; exact evT_write _ _ (not_held' rfl))⟩, hs.at d, ?_⟩
  clear hK' K' co zo
  refine anyM_at hS hZ _ _ _ _ ?_ d
  refine anyM_take hS hZ (i := 7) (v := .bool st) hs rfl rfl (by kernel_rfl) (by kernel_rfl) (by kernel_rfl) (fun u hu => .inl ⟨rfl, fun d => ⟨by simp [go_sem, execOp, Act.eval], fun e he => by have hm := mem_listed he; simp [go_sem, execOp, Act.eval] at hm⟩⟩) ?_
  walk_nrm
  refine anyM_end (by kernel_rfl) ?_ _
  (refine oWd rfl rfl (by decide) fun dd K hK => ?_; go_simp; refine hK _ _ ⟨⟨⟨0, Grew.refl _ _⟩, fun e he => by (have hm := mem_listed he; simp [go_sem] at hm)⟩, Own.at ?_ dd⟩; clear hK K)
  refine own_go rfl (fun d => stepG_region_end) ?_
  refine own_go rfl (fun d => stepG_ret') ?_
  refine own_leave (fn := Try.f62) (v := .tuple #[.slice oa ol oc, .bool st, g.bl]) rfl rfl Try.func62 (fun d => ?_) (fun d e he => ?_) h
  · have co := (hs.at d).co
    simp [results, Try.f62, go_sem, co]
  · have co := (hs.at d).co
    have zo := (hs.at d).zo
    simp [results, Try.f62, go_sem, co, zo] at he
    subst he
    exact evT_read _ _
end Go.Proofs.Ytcejbandeikdjaa
namespace Go.Proofs.Ytcejbandeikdjaa
open Go Go.Conc Go.RowKit Go.Proofs
open Go.ConcN (sumTo upd sumTo_upd upd_ne upd_same)
variable {F : Fz} {w w' : World}
theorem w0_size (w : World) (M n : Nat) : (ovW0 w M n).heap.size = w.heap.size + 3 := by simp [ovW0]
theorem w0_mo (w : World) (M n : Nat) : (ovW0 w M n).heap[w.heap.size]? = some (.cells #[.int .i64 M] 3) := by
  unfold ovW0
  rw [heap_alloc_lt _ _ (by simp; omega), heap_alloc_lt _ _ (by simp)]
  exact heap_alloc_new _ _
theorem w0_od (w : World) (M n : Nat) : (ovW0 w M n).heap[w.heap.size + 1]? = some (.cells #[.slice none 0 0] 24) := by
  unfold ovW0
  rw [heap_alloc_lt _ _ (by simp)]
  simpa using heap_alloc_new (w.alloc (.cells #[.int .i64 M] 3)) (.cells #[.slice none 0 0] 24)
theorem w0_n (w : World) (M n : Nat) : (ovW0 w M n).heap[w.heap.size + 2]? = some (.cells #[.int .i64 n] 3) := by
  unfold ovW0
  simpa using heap_alloc_new ((w.alloc (.cells #[.int .i64 M] 3)).alloc (.cells #[.slice none 0 0] 24)) (.cells #[.int .i64 n] 3)
theorem Wf.of_old {nn : Nat} (hU : Under F nn) (h : Wf F w) (ho : ∀ r, r < nn → w'.heap[r]? = w.heap[r]?) : Wf F w' := by
  constructor
  intro r z hz
  obtain ⟨c, e, z0, h1, h2⟩ := h.own r z hz
  exact ⟨c, e, z0, (ho r (hU r z hz)).trans h1, h2⟩
theorem ov_setup {An : Anchor} (hAb : An.b ≤ w.heap.size) (hU : Under F w.heap.size) (hwf : Wf F w) {ta : Option Addr} {tl tc M : Nat} {sch : Value} {m : Int} (htl : tl ≤ 64) (hM : min (max m 0) 1048576 = (M : Int)) {cs : List Frame} {main : Bool} {Stop : Goroutine → World → Prop}
    (h : ∀ (g : Gate) (v : Mine) (w' : World) (A : Array Value), g.an = An → g.n = tl → Made w.heap.size M g v w' → Slots 129 A (ovBirth g v (.slice ta tl tc) sch 0) → Own Try.prog main F Stop (G ((Go.Conc.base 62).at ⟨A, []⟩ [.code ovs14, .inLoop ovs14, .inBlock 2, .code ovs21]) cs) w') :
    Own Try.prog main F Stop (G (Frame.enter Try.prog 62 #[.slice ta tl tc, sch, .int .i64 m] .normal) cs) w := by
  refine ov_s0 hU (Nat.le_refl _) htl hM fun A hA => ?_
  have hsz := w0_size w M tl
  have hmo := w0_mo w M tl
  have hod := w0_od w M tl
  have hnb := w0_n w M tl
  have hwf0 : Wf F (ovW0 w M tl) := hwf.of_old hU fun r hr => by
    unfold ovW0
    rw [heap_alloc_lt _ _ (by simp; omega), heap_alloc_lt _ _ (by simp; omega), heap_alloc_lt _ _ hr]
  have hsn : SN w.heap.size (w.heap.size + 2) tl (ovW0 w M tl) := ⟨by omega, by omega, by simp [World.cell?, hnb], by simp [World.frozen?, hnb]⟩
  generalize ovW0 w M tl = W0 at *
  rw [ovs3_eq]
  refine own_go rfl (fun d => stepG_seq) (Own.at ?_ W0.drawn)
  refine ov_s3 (k := [.code ovs4]) hU htl hsn hA fun w1 tv tb bk br A h3 hA => ?_
  have hnb1 := (h3.old _ (by omega)).trans hnb
  have hS0 : Stands F w.heap.size tl tv tb bk br w.heap.size (w.heap.size + 1) (w.heap.size + 2) M (.slice none 0 0) [] w1 := by
    have hl := h3.low
    refine ⟨⟨by have := h3.size; omega, hwf0.of_old hU fun r hr => h3.old r (by omega), h3.htv, h3.htb⟩, World.ownsRow_nil _ _ _ _, by simp, by simp, by simp, ⟨h3.hbk, by omega, by simp⟩, ⟨h3.hbr, by omega⟩, ⟨(h3.old _ (by omega)).trans hmo, Nat.le_refl _⟩, ⟨(h3.old _ (by omega)).trans hod, by omega⟩, ⟨hnb1, by omega⟩, by omega, by omega⟩
  refine ov_w2 (n := tl) (nb := w.heap.size + 2) (by simp [World.cell?, hnb1]) (by simp [World.frozen?, hnb1]) hA fun A hA => ?_
  refine ov_stands hU htl (fun w2 slv sts A hS hl hA => ?_) tl 0 (by omega) w1 _ [] A hS0 rfl hA
  have hn2 := hS.nbc.1
  refine ov_w5 (n := tl) (nb := w.heap.size + 2) hU hS.st.top (Array.getElem?_eq_some_iff.1 hn2).1 (by simp [World.cell?, hn2]) (by simp [World.frozen?, hn2]) hA fun A hA => ?_
  obtain ⟨g, hga, hgn, hgt, hm⟩ := made_of hAb hS hl
  refine h g _ _ A hga hgn hm ?_
  subst hgn
  subst hgt
  exact hA
theorem inb_none {Z : Users} {g : Gate} {x : Z.X} {vs : Nat → Vars} {s0 : Nat} : inb Z g s0 (fun j => decide (j < 0) && Z.liv x j) vs none x = fun _ => none := by
  funext j
  unfold inb
  by_cases h : j = 0
  · rw [if_pos h]
  · rw [if_neg h, if_neg (fun h => by simp at h)]
def OverRel (Z : Users) (n M : Nat) (S : List Int) (x0 : Z.X) (t : Z.X × List Nat) : Prop :=
  ∃ x1, Borns Z n x0 x1 ∧ ∃ s, Turns Z n M S (x1, []) s ∧ Rounds Z n M s t
theorem bes_over {An : Anchor} {Z : Gate → Users} {x0 : ∀ g, (Z g).X} {S : List Int} {ta sa : Option Addr} {tb so sb tl tc sc M : Nat} {m : Int} (htl : tl ≤ 64) (hM : min (max m 0) 1048576 = (M : Int)) (hSl : S.length < 10000000)
    (zok : ∀ g, g.n = tl → Fits g → (Z g).Ok g) (hU0 : ∀ (g : Gate) (w' : World), g.n = tl → w.heap.size ≤ w'.heap.size → (∀ (r : Nat) (o : Obj), w.heap[r]? = some o → w'.heap[r]? = some o) → (Z g).U (x0 g) w')
    (hnw : ∀ g : Gate, g.n = tl → ∀ j, j < g.n → (Z g).nw (x0 g) j) (hR0 : ∀ (g : Gate) (r : Nat), (Z g).R (x0 g) r → r < w.heap.size) (hI0 : ∀ (g : Gate) (r : Nat), (Z g).I r ≠ none → r < w.heap.size ∧ ¬ (Z g).R (x0 g) r)
    (hta : 0 < tl → ta = some ⟨tb, 0, none⟩) (hth : ∀ g, g.n = tl → RowIs (Z g) tb 0 ((List.range tl).map fun j => .func (.func (Z g).fid) #[] ((Z g).cap j)))
    (hsa : 0 < S.length → sa = some ⟨sb, so, none⟩) (hS : ∀ g, g.n = tl → RowIs (Z g) sb so (S.map fun i : Int => Value.int .i64 i)) {c : Frame} {cs : List Frame} {Stop : Goroutine → World → Prop}
    (hk : ∀ g (t : (Z g).X × List Nat) w' oa oc bv, g.n = tl → OverRel (Z g) tl M S (x0 g) t → (Z g).U t.1 w' → w'.ownsRow w.heap.size 3 1 (.slice oa t.2.length oc) t.2.length (t.2.map fun i : Nat => Value.int .i64 i) → (∀ y, oa = some y → ¬ (Z g).R t.1 y.block) → w.heap.size ≤ w'.heap.size →
      Bes An Try.prog Stop (G (c.finish (.tuple #[.slice oa t.2.length oc, .bool (decide (0 < cnt ((Z g).liv t.1) tl)), bv])) cs) w') :
    Bes An Try.prog Stop (G (Frame.enter Try.prog 62 #[.slice ta tl tc, .slice sa S.length sc, .int .i64 m] .normal) (c :: cs)) w := by
  refine bes_assume fun hAn => ?_
  refine bes_own (A := An) (F := FT (fun _ => True) w) (Stop := fun a u => Gd (FT (fun _ => True) w) w u ∧ ∃ (g : Gate) (v : Mine) (A : Array Value), g.an = An ∧ g.n = tl ∧ Made w.heap.size M g v u ∧ Slots 129 A (ovBirth g v (.slice ta tl tc) (.slice sa S.length sc) 0) ∧ a = G ((Go.Conc.base 62).at ⟨A, []⟩ [.code ovs14, .inLoop ovs14, .inBlock 2, .code ovs21]) (c :: cs))
    (own_gd (ov_setup hAn.low (ft_under _ _) (ft_wf w) htl hM fun g v w' A hga hgn hm hA => .stop fun d => ⟨g, v, A, hga, hgn, ?_, hA, rfl⟩)) fun a w1 hS1 => ?_
  · exact ⟨hm.ok, fun a u p => (hm.lie a u p).at d, hm.top, hm.sln, fun j hj => (hm.over j hj).at d, fun j hj => (hm.brk j hj).at d, hm.chans, hm.place, hm.st, hm.br, hm.mo, hm.od, hm.n, hm.lf, hm.low, hm.dn, hm.alone⟩
  obtain ⟨hgd, g, v, A, hga, hgn, hm, hA, rfl⟩ := hS1
  subst hga
  have ok : Fits g := ⟨hm.ok⟩
  have zk := zok g hgn ok
  have hold : ∀ r o, w.heap[r]? = some o → w1.heap[r]? = some o := fun r o hr => (ft_same hgd trivial (Array.getElem?_eq_some_iff.1 hr).1).trans hr
  have hsz : w.heap.size ≤ w1.heap.size := hgd.size
  have hn64 : g.n ≤ 64 := by omega
  have hM2 : M ≤ 1048576 := by omega
  obtain ⟨asl, hsln⟩ := hm.sln
  have hR1 : ∀ r, (Z g).R (x0 g) r → r < w.heap.size := hR0 g
  have hlt : ∀ r o, w1.heap[r]? = some o → r < w1.heap.size := fun r o hr => (Array.getElem?_eq_some_iff.1 hr).1
  let N : Nat → Prop := fun r => r < w1.heap.size ∧ ¬ (Z g).R (x0 g) r
  have hNn : ∀ r, w.heap.size ≤ r → r < w1.heap.size → N r := fun r h1 h2 => ⟨h2, fun h3 => by have := hR1 r h3; omega⟩
  have HT : TI (Z g) g (fun j => (decide (j < 0) && (Z g).liv (x0 g) j) = true) (fun _ => ⟨0, 0, 0⟩) N (fun j => decide (j < 0) && !(Z g).liv (x0 g) j) (x0 g) w1 :=
    ⟨hU0 g w1 hgn hsz hold, fun j hj => by simpa using hm.over j hj, fun j hj => ⟨false, hm.brk j hj⟩, fun j hj => by simp at hj, fun c hc => ⟨0, 0, (hm.chans c hc).1⟩, fun r hr hn => hn.2 hr, fun r hr => hr.1,
      fun a u p => hNn _ (hm.place a u p) (hm.lie a u p).lt, fun j hj => hNn _ (hm.st j hj).1 (hm.st j hj).2, fun _ => hNn _ hm.br.1 hm.br.2, fun j hj => by simp at hj, fun c hc => hNn _ (hm.chans c hc).2 (hlt _ _ (hm.chans c hc).1), fun j k hj => by simp at hj,
      fun r hr => by
        obtain ⟨h1, h2⟩ := hI0 g r hr
        exact ⟨⟨by omega, h2⟩, fun j hj => by have := (hm.st j hj).1; omega, by have := hm.br.1; omega, fun j hj => by simp at hj⟩⟩
  have hal : ∀ b c e, w1.heap[b]? = some (.cells c e (0, 0)) → e = 3 ∨ e = 24 → w.heap.size ≤ b → Alone (Z g) g (fun _ => ⟨0, 0, 0⟩) (fun j => (decide (j < 0) && (Z g).liv (x0 g) j) = true) N b := fun b c e hb he hn => by
    obtain ⟨h1, h2, h3⟩ := hm.alone b c e hb he
    refine ⟨hNn _ hn (hlt _ _ hb), h1, h2, h3, fun j hj => by simp at hj, ?_⟩
    cases hI : (Z g).I b with
    | none => rfl
    | some o => have := (hI0 g b (by rw [hI]; simp)).1; omega
  have htyp : ∀ (a b : Nat) (c c' : Array Value), w1.heap[a]? = some (Obj.cells c 3 (0, 0)) → w1.heap[b]? = some (Obj.cells c' 24 (0, 0)) → a ≠ b := by
    rintro a b c c' h1 h2 rfl
    rw [h1] at h2
    cases h2
  have HM : MI (Z g) g (fun _ => ⟨0, 0, 0⟩) (fun j => (decide (j < 0) && (Z g).liv (x0 g) j) = true) N v w.heap.size M none 0 0 [] 0 w1 :=
    ⟨⟨⟨_, _, hm.n, rfl⟩, rfl⟩, ⟨⟨_, _, hm.mo, rfl⟩, rfl⟩, ⟨⟨_, _, hm.lf, rfl⟩, rfl⟩, ⟨_, hm.od, rfl⟩, World.ownsRow_nil _ _ _ _, hal _ _ _ hm.n (.inl rfl) hm.low.2.2.1, hal _ _ _ hm.mo (.inl rfl) hm.low.1, hal _ _ _ hm.lf (.inl rfl) hm.low.2.2.2, hal _ _ _ hm.od (.inr rfl) hm.low.2.1,
      fun y hy => (by cases hy), ⟨htyp _ _ _ _ hm.n hm.od, htyp _ _ _ _ hm.mo hm.od, htyp _ _ _ _ hm.lf hm.od, hm.dn.2.1, hm.dn.2.2⟩, fun y hy => (by cases hy), hsz⟩
  refine bes_tok (K := g.K) (Still := g.Still) (B0 := g.top) (fun l ⟨a, u, _, e⟩ => by subst e; rfl) (fun h => ⟨hm.lie, h⟩) fun _ s0 hs0 => ?_
  have hnone : (fun _ => none : Nat → Option Seat) = inb (Z g) g s0 (fun j => decide (j < 0) && (Z g).liv (x0 g) j) (fun _ => ⟨0, 0, 0⟩) none (x0 g) := inb_none.symm
  rw [hnone]
  have hfin : ∀ (x : (Z g).X) (u : World) (A : Array Value) (vs : Nat → Vars) (N : Nat → Prop) (ms : Option Seat), Borns (Z g) g.n (x0 g) x → TI (Z g) g (fun j => (decide (j < g.n) && (Z g).liv x j) = true) vs N (fun j => decide (j < g.n) && !(Z g).liv x j) x u →
      MI (Z g) g vs (fun j => (decide (j < g.n) && (Z g).liv x j) = true) N v w.heap.size M none 0 0 [] (cnt ((Z g).liv x) g.n) u → g.top ≤ u.heap.size → Slots 129 A (ovBirth g v (.slice ta tl tc) (.slice sa S.length sc) g.n) →
      Tok Try.prog g.K g.Still g.top (BesG g.an Try.prog Stop) (inb (Z g) g s0 (fun j => decide (j < g.n) && (Z g).liv x j) vs ms x) 0 (s0 + g.n) (G ((Go.Conc.base 62).at ⟨A, []⟩ [.code ovs14, .inLoop ovs14, .inBlock 2, .code ovs21]) (c :: cs)) u := by
    intro x u A vs N ms hB HT HM _ hA
    refine tok_go _ (fun Stop h => ov_t1 hA h) fun A d hA => ?_
    have hU2 : Under2 (Z g) g v w.heap.size M s0 (x, []) (inb (Z g) g s0 (fun j => decide (j < g.n) && (Z g).liv x j) vs ms x) (u.at d) := ⟨by simp, vs, N, none, 0, ms, rfl, HT.at zk d, HM.at d⟩
    refine tok_sched (st := (x, [])) zk hs0 hM2 hn64 hsa (hS g hgn) hSl (fun s Inb u A hs hU hA => ?_) S.length 0 (by omega) (x, []) _ _ A rfl hU2 hA
    refine tok_rounds zk hs0 hM2 hn64 (M - s.2.length) s (Nat.le_refl _) Inb u A (fun t Inb u A hr hU hA => ?_) hU hA
    refine tok_ends zk hs0 hn64 hsln (s := t) (fun u A vs N oa oc ov HT HM hK hA => ?_) hU hA
    have hse : SE g v.od oa t.2.length oc u := ⟨by obtain ⟨cc, h1, h2⟩ := HM.od; exact ⟨cc, _, h1, h2⟩, hK _ _ .tv, hK _ _ .broken⟩
    refine bes_own (F := F0) (Stop := fun a w2 => a = G (c.finish (.tuple #[.slice oa t.2.length oc, .bool (decide (0 < cnt ((Z g).liv t.1) g.n)), g.bl])) cs ∧ ∃ d, w2 = u.at d) (ov_end hse hA (.stop fun d => ⟨rfl, d, rfl⟩)) fun a w2 ⟨ha, d2, hw2⟩ => ?_
    subst ha
    subst hw2
    have hrel : OverRel (Z g) tl M S (x0 g) t := ⟨x, hgn ▸ hB, s, hgn ▸ hs, hgn ▸ hr⟩
    have := hk g t (u.at d2) oa oc g.bl hgn hrel (HT.at zk d2).u HM.row (fun y hy hR => HT.apart _ hR (HM.arow y hy).n) HM.base
    rw [← hgn] at this
    exact this
  by_cases h0 : g.n = 0
  · have e0 : (fun j => decide (j < 0) && (Z g).liv (x0 g) j) = fun j => decide (j < g.n) && (Z g).liv (x0 g) j := by rw [h0]
    have e1 : (fun j => (decide (j < 0) && (Z g).liv (x0 g) j) = true) = fun j => (decide (j < g.n) && (Z g).liv (x0 g) j) = true := by rw [h0]
    have e2 : (fun j => decide (j < 0) && !(Z g).liv (x0 g) j) = fun j => decide (j < g.n) && !(Z g).liv (x0 g) j := by rw [h0]
    rw [e1, e2] at HT
    rw [e1] at HM
    rw [e0]
    have e3 : s0 = s0 + g.n := by omega
    have e4 : cnt ((Z g).liv (x0 g)) g.n = 0 := by rw [h0]; rfl
    have := hfin (x0 g) w1 A _ N none (by rw [h0]; rfl) HT (by rw [e4]; exact HM) hm.top (by rw [h0]; exact hA)
    rw [← e3] at this
    exact this
  · obtain rfl := hta (by omega)
    refine tok_births zk hs0 hn64 (hnw g hgn) (tl := tl) (tc := tc) (sch := .slice sa S.length sc) (x0 := x0 g) (by omega) (by rw [hgn]; exact hth g hgn) hfin g.n 0 (by omega) (x0 g) w1 A _ N none rfl HT HM hm.top hA
end Go.Proofs.Ytcejbandeikdjaa
namespace Go.Proofs.Ytcejbandeikdjaa
open Go Go.Conc Go.RowKit Go.Proofs
variable {P : Program} {F : Fz} {w w' : World}
structure PtrEq (P : Program) (w : World) (x y : Option Addr) (b : Bool) : Prop where
  run : (samePointer x y).run P w = .ok b w
  ev : ∀ es, (samePointer x y).events P w es = es
theorem ptrEq_none (w : World) (x : Option Addr) : PtrEq P w x none x.isNone := by
  cases x <;> exact ⟨by simp [samePointer], by simp [samePointer]⟩
theorem ptrEq_none' (w : World) (x : Option Addr) : PtrEq P w none x x.isNone := by
  cases x <;> exact ⟨by simp [samePointer], by simp [samePointer]⟩
theorem ptrEq_block (w : World) (a b : Addr) (h : a.block = b.block) : PtrEq P w (some a) (some b) (a == b) := by
  exact ⟨by simp [samePointer, sameAddr, h], by simp [samePointer, sameAddr, h]⟩
theorem ptrEq_apart {a b : Addr} {c c' : Array Value} {e e' : TypeId} (hne : a.block ≠ b.block) (ha : w.heap[a.block]? = some (.cells c e (0, 0))) (hb : w.heap[b.block]? = some (.cells c' e' (0, 0))) : PtrEq P w (some a) (some b) false := by
  have h1 : (a.block == b.block) = false := by simpa using hne
  have fa : ∀ o s, w.frozen? ⟨a.block, o, s⟩ = false := fun o s => by simp [World.frozen?, ha]
  have fb : ∀ o s, w.frozen? ⟨b.block, o, s⟩ = false := fun o s => by simp [World.frozen?, hb]
  have fa' : w.frozen? a = false := by simp [World.frozen?, ha]
  have fb' : w.frozen? b = false := by simp [World.frozen?, hb]
  have sa : w.shape? a.block = some (e, c.size) := by simp [World.shape?, ha]
  have sb : w.shape? b.block = some (e', c'.size) := by simp [World.shape?, hb]
  exact ⟨by simp [samePointer, sameAddr, h1, noView, mayBeOne, stringish, viewAt, fa, fb, fa', fb', sa, sb], by simp [samePointer, sameAddr, h1, noView, mayBeOne, stringish, viewAt, fa, fb, fa', fb', sa, sb]⟩
section
variable {main : Bool} {b : Frame} {a : Act} {kk : List Item} {cs : List Frame} {ops : Array Oper} {i : Nat} {rest : List Nat} {o : Oper} {Stop : Goroutine → World → Prop} {f : FuncId} {fn : Func} {ats : Array TypeId}
theorem own_val {v : Value} (ho : ops[i]? = some o) (hw : Region.wanted o (yielded ops a.tmps) = true) (hk : b.kind ≠ .early) (hr : ∀ d, (execOp a.eval o).run P (w.at d) = .ok (.value v) (w'.at d))
    (hg : ∀ d, ∃ j, Grew F (w.at d) (w'.at d) j) (he : ∀ d, ∀ e ∈ (execOp a.eval o).events P (w.at d) #[], EvT F e) (h : Own P main F Stop (G (b.at (a.put o.dst v) (.inRegion ops rest :: kk)) cs) w') :
    Own P main F Stop (G (b.at a (.inRegion ops (i :: rest) :: kk)) cs) w :=
  .step rfl fun d => ⟨_, _, _, stepG_value ho hw hk (hr d), ⟨hg d, fun e hm => he d e (mem_listed hm)⟩, h.at d⟩
theorem exec_extern {args : Array Operand} {vs : Array Value} (hop : o.op = .call { callee := .value (.func f), args := args, argTypes := ats }) (hx : args.map a.eval = vs) : execOp a.eval o = callFunc f vs := by
  have ef : a.eval (.func f) = .func (.func f) #[] #[] := rfl
  unfold execOp
  subst hx
  simp [hop, resolve, Deferred.ofValue, invoke, ef]
theorem evT_ext (f : FuncId) : EvT F ⟨.mark (.extern f), false, true⟩ := ⟨fun h => by simp at h, fun m h => by cases h; exact .inr ⟨f, rfl⟩⟩
theorem own_load_ptr {x : Operand} (ho : ops[i]? = some o) (hw : Region.wanted o (yielded ops a.tmps) = true) (hk : b.kind ≠ .early) (hop : o.op = .call { callee := .value (.func f), args := #[x], argTypes := ats })
    (hf : P.funcs[f]? = some fn) (hname : (fn.name == "runtime.NumGoroutine") = false) (hb : fn.body.isNone = true) (hn : Extern.findNext fn = none)
    (he : Extern.find fn = some (Extern.Atomic.loadT .ptr)) {ad : Addr} {v : Option Addr} (hx : a.eval x = .pointer (some ad)) (hc : w.cell? ad = some (.pointer v))
    (h : Own P main F Stop (G (b.at (a.put o.dst (.pointer v)) (.inRegion ops rest :: kk)) cs) w) : Own P main F Stop (G (b.at a (.inRegion ops (i :: rest) :: kk)) cs) w := by
  have e1 : execOp a.eval o = callFunc f #[.pointer (some ad)] := exec_extern hop (by simp [hx])
  refine own_val (w' := w) ho hw hk (fun d => ?_) (fun d => ⟨0, Grew.refl _ _⟩) (fun d e hm => ?_) h
  · have hc' : (w.at d).cell? ad = some (.pointer v) := hc
    rw [e1, run_callFunc_extern hf hname hb hn he]
    change (Sem.run P (do Extern.Atomic.read .ptr (← asAddr (.pointer (some ad)))) (w.at d)).andThen _ = _
    simp [Extern.Atomic.read, asAddr, hc', Result.andThen]
  · have hc' : (w.at d).cell? ad = some (.pointer v) := hc
    rw [e1, events_callFunc_extern hf hname hb hn he] at hm
    change e ∈ Sem.events P (do Extern.Atomic.read .ptr (← asAddr (.pointer (some ad)))) (w.at d) _ at hm
    simp [Extern.Atomic.read, asAddr, hc', events_load] at hm
    rcases hm with rfl | rfl
    · exact evT_ext f
    · exact evT_read _ _
theorem own_cas_ptr {x y z : Operand} (ho : ops[i]? = some o) (hw : Region.wanted o (yielded ops a.tmps) = true) (hk : b.kind ≠ .early) (hop : o.op = .call { callee := .value (.func f), args := #[x, y, z], argTypes := ats })
    (hf : P.funcs[f]? = some fn) (hname : (fn.name == "runtime.NumGoroutine") = false) (hb : fn.body.isNone = true) (hn : Extern.findNext fn = none)
    (he : Extern.find fn = some (Extern.Atomic.casT .ptr)) {ad : Addr} {v u n : Option Addr} {t : Bool} (hs : ad.spot = none) (hx : a.eval x = .pointer (some ad)) (hy : a.eval y = .pointer u) (hz : a.eval z = .pointer n) (hc : w.cell? ad = some (.pointer v)) (hfz : w.frozen? ad = false) (hnh : ¬ held F ad)
    (hq : ∀ d, PtrEq P (w.at d) v u t) (h : Own P main F Stop (G (b.at (a.put o.dst (.bool t)) (.inRegion ops rest :: kk)) cs) (if t then w.setCell ad (.pointer n) else w)) : Own P main F Stop (G (b.at a (.inRegion ops (i :: rest) :: kk)) cs) w := by
  have e1 : execOp a.eval o = callFunc f #[.pointer (some ad), .pointer u, .pointer n] := exec_extern hop (by simp [hx, hy, hz])
  refine own_val (w' := if t then w.setCell ad (.pointer n) else w) ho hw hk (fun d => ?_) (fun d => ?_) (fun d e hm => ?_) h
  · have hc' : (w.at d).cell? ad = some (.pointer v) := hc
    have hz' : (w.at d).frozen? ad = false := hfz
    have hq' := (hq d).run
    rw [e1, run_callFunc_extern hf hname hb hn he]
    change (Sem.run P (do
      let a' ← asAddr (.pointer (some ad))
      if ← Extern.Atomic.touchesFrozen a' then unsupported (.unsafePointer "a write to bytes that a string shares")
      let eq ← match Extern.Atomic.T.ptr, ← Extern.Atomic.read .ptr a', Value.pointer u with
        | _, .int _ x, .int _ y => pure (x == y)
        | .ptr, .pointer x, .pointer y => samePointer x y
        | .int _, .pointer (some _), .int _ 0 | .int _, .int _ 0, .pointer (some _) => pure false
        | .int _, .pointer (some _), _ | .int _, _, .pointer (some _) => unsupported .addressObserved
        | _, _, _ => stuck "atomic.CompareAndSwap: old is no T"
      if eq then store a' (.pointer n) .atomic
      pure (Value.bool eq)) (w.at d)).andThen _ = _
    cases t <;> simp [Extern.Atomic.touchesFrozen, Extern.Atomic.read, asAddr, viewAt, World.shape?_isSome_of_cell? hc', hc', hz', hq', run_store P (w.at d) ad (.pointer n) .atomic rfl, Result.andThen, setCell_at']
  · cases t
    · exact ⟨0, Grew.refl _ _⟩
    · exact ⟨0, by simpa [setCell_at'] using grew_setCell (w := w.at d) hs hnh (.pointer n)⟩
  · have hc' : (w.at d).cell? ad = some (.pointer v) := hc
    have hz' : (w.at d).frozen? ad = false := hfz
    have hq' := (hq d).run
    have hq2 := (hq d).ev
    rw [e1, events_callFunc_extern hf hname hb hn he] at hm
    change e ∈ Sem.events P (do
      let a' ← asAddr (.pointer (some ad))
      if ← Extern.Atomic.touchesFrozen a' then unsupported (.unsafePointer "a write to bytes that a string shares")
      let eq ← match Extern.Atomic.T.ptr, ← Extern.Atomic.read .ptr a', Value.pointer u with
        | _, .int _ x, .int _ y => pure (x == y)
        | .ptr, .pointer x, .pointer y => samePointer x y
        | .int _, .pointer (some _), .int _ 0 | .int _, .int _ 0, .pointer (some _) => pure false
        | .int _, .pointer (some _), _ | .int _, _, .pointer (some _) => unsupported .addressObserved
        | _, _, _ => stuck "atomic.CompareAndSwap: old is no T"
      if eq then store a' (.pointer n) .atomic
      pure (Value.bool eq)) (w.at d) _ at hm
    cases t <;> simp [Extern.Atomic.touchesFrozen, Extern.Atomic.read, asAddr, viewAt, World.shape?_isSome_of_cell? hc', hc', hz', hq', hq2, events_load, run_store P (w.at d) ad (.pointer n) .atomic rfl, events_store P (w.at d) _ ad (.pointer n) .atomic rfl] at hm
    · rcases hm with rfl | rfl
      · exact evT_ext f
      · exact evT_read _ _
    · rcases hm with rfl | rfl | rfl
      · exact evT_ext f
      · exact evT_read _ _
      · exact evT_write _ _ hnh
end
end Go.Proofs.Ytcejbandeikdjaa
namespace Go.Proofs.Ytcejbandeikdjaa
open Go Go.Conc Go.RowKit Go.Proofs
variable {F : Fz} {w : World}
noncomputable def qstBody : Code := Try.f53.body.getD .skip
noncomputable def qsts0 : Code := Code.piece [] qstBody
noncomputable def qstr0 : Code := Code.piece [true] qstBody
noncomputable def qsto0 : Array Oper := Code.opsOf qstr0
noncomputable def qstc3 : Code := Code.piece [false] qstBody
noncomputable def qstr1 : Code := Code.piece [false, true] qstBody
noncomputable def qsto1 : Array Oper := Code.opsOf qstr1
theorem qsts0_eq : qsts0 = .seq qstr0 qstc3 := by kernel_rfl
theorem qstr0_eq : qstr0 = .region 0 qsto0 false := by kernel_rfl
theorem qstc3_eq : qstc3 = .cond (.tmp 3) qstr1 .skip := by kernel_rfl
theorem qstr1_eq : qstr1 = .region 1 qsto1 false := by kernel_rfl
theorem enter_qst (args : Array Value) : Frame.enter Try.prog 53 args .normal = (Go.Conc.base 53).at { tmps := args ++ Array.replicate (6 - args.size) undef, defers := [] } [.code qsts0] := enter_at args Try.func53 rfl
theorem callable53 : Callable 53 := callable Try.func53 rfl rfl
noncomputable def qldBody : Code := Try.f52.body.getD .skip
noncomputable def qlds0 : Code := Code.piece [] qldBody
noncomputable def qldr0 : Code := Code.piece [true] qldBody
noncomputable def qldo0 : Array Oper := Code.opsOf qldr0
noncomputable def qlds1 : Code := Code.piece [false] qldBody
noncomputable def qldr1 : Code := Code.piece [false, true] qldBody
noncomputable def qldo1 : Array Oper := Code.opsOf qldr1
theorem qlds0_eq : qlds0 = .seq qldr0 qlds1 := by kernel_rfl
theorem qldr0_eq : qldr0 = .region 0 qldo0 false := by kernel_rfl
theorem qlds1_eq : qlds1 = .seq qldr1 .ret := by kernel_rfl
theorem qldr1_eq : qldr1 = .region 1 qldo1 false := by kernel_rfl
theorem enter_qld (args : Array Value) : Frame.enter Try.prog 52 args .normal = (Go.Conc.base 52).at { tmps := args ++ Array.replicate (8 - args.size) undef, defers := [] } [.code qlds0] := enter_at args Try.func52 rfl
theorem callable52 : Callable 52 := callable Try.func52 rfl rfl
noncomputable def qcsBody : Code := Try.f54.body.getD .skip
noncomputable def qcss0 : Code := Code.piece [] qcsBody
noncomputable def qcsr0 : Code := Code.piece [true] qcsBody
noncomputable def qcso0 : Array Oper := Code.opsOf qcsr0
noncomputable def qcss1 : Code := Code.piece [false] qcsBody
noncomputable def qcsr1 : Code := Code.piece [false, true] qcsBody
noncomputable def qcso1 : Array Oper := Code.opsOf qcsr1
theorem qcss0_eq : qcss0 = .seq qcsr0 qcss1 := by kernel_rfl
theorem qcsr0_eq : qcsr0 = .region 0 qcso0 false := by kernel_rfl
theorem qcss1_eq : qcss1 = .seq qcsr1 .ret := by kernel_rfl
theorem qcsr1_eq : qcsr1 = .region 1 qcso1 false := by kernel_rfl
theorem enter_qcs (args : Array Value) : Frame.enter Try.prog 54 args .normal = (Go.Conc.base 54).at { tmps := args ++ Array.replicate (15 - args.size) undef, defers := [] } [.code qcss0] := enter_at args Try.func54 rfl
theorem callable54 : Callable 54 := callable Try.func54 rfl rfl
noncomputable def qnoBody : Code := Try.f51.body.getD .skip
noncomputable def qnos0 : Code := Code.piece [] qnoBody
noncomputable def qnor0 : Code := Code.piece [true] qnoBody
noncomputable def qnoo0 : Array Oper := Code.opsOf qnor0
noncomputable def qnos1 : Code := Code.piece [false] qnoBody
noncomputable def qnor1 : Code := Code.piece [false, true] qnoBody
noncomputable def qnoo1 : Array Oper := Code.opsOf qnor1
theorem qnos0_eq : qnos0 = .seq qnor0 qnos1 := by kernel_rfl
theorem qnor0_eq : qnor0 = .region 0 qnoo0 false := by kernel_rfl
theorem qnos1_eq : qnos1 = .seq qnor1 .ret := by kernel_rfl
theorem qnor1_eq : qnor1 = .region 1 qnoo1 false := by kernel_rfl
theorem enter_qno (args : Array Value) : Frame.enter Try.prog 51 args .normal = (Go.Conc.base 51).at { tmps := args ++ Array.replicate (12 - args.size) undef, defers := [] } [.code qnos0] := enter_at args Try.func51 rfl
theorem callable51 : Callable 51 := callable Try.func51 rfl rfl
theorem callable119 : Callable 119 := callable Try.func119 rfl rfl
theorem call_step (a : Addr) (w : World) : (callMethod (.iface 145 (.pointer (some a))) "Step" #[]).run Try.prog w = .ok (.enter 119 #[.pointer (some a)]) w := by kernel_rfl
theorem call_stepE (a : Addr) (w : World) (es : Array Event) : (callMethod (.iface 145 (.pointer (some a))) "Step" #[]).events Try.prog w es = es := by kernel_rfl
@[go_sem] theorem neq_nilE (t : TypeId) (v : Value) (w : World) (es : Array Event) : (binOp .neq 116 (.iface t v) .nilIface).events Try.prog w es = es := by kernel_rfl
@[go_sem] theorem eql_nilE (a : Addr) (w : World) (es : Array Event) : (binOp .eql 33 (.pointer (some a)) (.pointer none)).events Try.prog w es = es := by kernel_rfl
@[go_sem] theorem eql_nilE54 (a : Option Addr) (w : World) (es : Array Event) : (binOp .eql 54 (.pointer a) (.pointer none)).events Try.prog w es = es := by cases a <;> kernel_rfl
@[go_sem] theorem neq_nilE54 (a : Option Addr) (w : World) (es : Array Event) : (binOp .neq 54 (.pointer a) (.pointer none)).events Try.prog w es = es := by cases a <;> kernel_rfl
@[go_sem] theorem eql_nil54 (a : Option Addr) (w : World) : (binOp .eql 54 (.pointer a) (.pointer none)).run Try.prog w = .ok (.bool a.isNone) w := by cases a <;> kernel_rfl
@[go_sem] theorem neq_nil54 (a : Option Addr) (w : World) : (binOp .neq 54 (.pointer a) (.pointer none)).run Try.prog w = .ok (.bool a.isSome) w := by cases a <;> kernel_rfl
theorem size106 : (Try.prog.info? 106).map (·.size) = some 2 := by kernel_rfl
theorem eqIn54 (d : Nat) {w : World} {x y : Option Addr} {b : Bool} (h : PtrEq Try.prog w x y b) : (Op.equalIn (d + 1) 54 (.pointer x) (.pointer y)).run Try.prog w = .ok b w := by
  obtain ⟨i, hi, hs⟩ := Option.map_eq_some_iff.1 size106
  cases x with
  | none => have h1 := h.run; cases y <;> simp [samePointer] at h1 <;> subst h1 <;> simp [Op.equalIn, run_underlying Try.underlying54]
  | some x =>
    cases y with
    | none => have h1 := h.run; simp [samePointer] at h1; subst h1; simp [Op.equalIn, run_underlying Try.underlying54]
    | some y =>
      have h1 : (sameAddr x y).run Try.prog w = .ok b w := h.run
      simp [Op.equalIn, run_underlying Try.underlying54, sizeOf, typeInfo, hi, hs, h1]
theorem eqIn54E (d : Nat) {w : World} {x y : Option Addr} {b : Bool} (h : PtrEq Try.prog w x y b) (es : Array Event) : (Op.equalIn (d + 1) 54 (.pointer x) (.pointer y)).events Try.prog w es = es := by
  obtain ⟨i, hi, hs⟩ := Option.map_eq_some_iff.1 size106
  cases x with
  | none => cases y <;> simp [Op.equalIn, run_underlying Try.underlying54]
  | some x =>
    cases y with
    | none => simp [Op.equalIn, run_underlying Try.underlying54]
    | some y =>
      have h2 : (sameAddr x y).events Try.prog w es = es := h.ev es
      simp [Op.equalIn, run_underlying Try.underlying54, sizeOf, typeInfo, hi, hs, h2]
theorem eql_ptr54 {w : World} {x y : Option Addr} {b : Bool} (h : PtrEq Try.prog w x y b) : (binOp .eql 54 (.pointer x) (.pointer y)).run Try.prog w = .ok (.bool b) w := by
  have h1 : (Op.equal 54 (.pointer x) (.pointer y)).run Try.prog w = .ok b w := eqIn54 9999 h
  simp only [binOp]
  simp [h1]
theorem eql_ptr54E {w : World} {x y : Option Addr} {b : Bool} (h : PtrEq Try.prog w x y b) (es : Array Event) : (binOp .eql 54 (.pointer x) (.pointer y)).events Try.prog w es = es := by
  have h1 : (Op.equal 54 (.pointer x) (.pointer y)).run Try.prog w = .ok b w := eqIn54 9999 h
  have h2 : (Op.equal 54 (.pointer x) (.pointer y)).events Try.prog w es = es := eqIn54E 9999 h es
  simp only [binOp]
  simp [h1, h2]
def BoxP (w : World) (x : Option Addr) : Prop := x = none ∨ ∃ b c z, x = some ⟨b, 0, none⟩ ∧ w.heap[b]? = some (.cells c 106 z) ∧ c.size = 2
theorem BoxP.at {w : World} {x : Option Addr} (h : BoxP w x) (d : Nat) : BoxP (w.at d) x := h
theorem lies106 : Go.liesAt Try.prog Try.prog.depth 106 (2 / Try.prog.cellsOf 106) 0 106 1 = true := by kernel_rfl
theorem conv54 {w : World} {x : Option Addr} (h : BoxP w x) : (convert 54 58 (.pointer x)).run Try.prog w = .ok (.pointer x) w ∧ ∀ es, (convert 54 58 (.pointer x)).events Try.prog w es = es := by
  obtain ⟨i, hi, hs⟩ := Option.map_eq_some_iff.1 size106
  rcases h with rfl | ⟨b, c, z, rfl, hb, hc⟩
  · exact ⟨by kernel_rfl, fun _ => by kernel_rfl⟩
  · have sb : w.shape? b = some (106, c.size) := by simp [World.shape?, hb]
    constructor
    · simp [convert, Conv.unsafePointer, Conv.seenAt, viewAt, cellsIn, run_underlying Try.underlying54, run_underlying Try.underlying58, sizeOf, typeInfo, hi, hs, sb, hc]
    · intro es
      simp [convert, Conv.unsafePointer, Conv.seenAt, viewAt, cellsIn, run_underlying Try.underlying54, run_underlying Try.underlying58, sizeOf, typeInfo, hi, hs, sb, hc]
theorem conv58 {w : World} {x : Option Addr} (h : BoxP w x) : (convert 58 54 (.pointer x)).run Try.prog w = .ok (.pointer x) w ∧ ∀ es, (convert 58 54 (.pointer x)).events Try.prog w es = es := by
  obtain ⟨i, hi, hs⟩ := Option.map_eq_some_iff.1 size106
  have hl := lies106
  rcases h with rfl | ⟨b, c, z, rfl, hb, hc⟩
  · exact ⟨by kernel_rfl, fun _ => by kernel_rfl⟩
  · have sb : w.shape? b = some (106, c.size) := by simp [World.shape?, hb]
    constructor
    · simp [convert, Conv.unsafePointer, Conv.seenAt, viewAt, cellsIn, variablesAt, run_underlying Try.underlying54, run_underlying Try.underlying58, sizeOf, typeInfo, hi, hs, sb, hc, hl]
    · intro es
      simp [convert, Conv.unsafePointer, Conv.seenAt, viewAt, cellsIn, variablesAt, run_underlying Try.underlying54, run_underlying Try.underlying58, sizeOf, typeInfo, hi, hs, sb, hc, hl]
noncomputable def stepFr (sa : Addr) : Frame := (Go.Conc.base 53).at ⟨#[.iface 145 (.pointer (some sa)), undef, .iface 145 (.pointer (some sa)), .bool true, .iface 145 (.pointer (some sa)), undef], []⟩ [.inRegion qsto1 [1]]
set_option maxRecDepth 100000 in
theorem own_step_call {sa : Addr} {cs : List Frame} {main : Bool} {Stop : Goroutine → World → Prop} (h : Own Try.prog main F Stop (G (Frame.enter Try.prog 119 #[.pointer (some sa)] .normal) (stepFr sa :: cs)) w) :
    Own Try.prog main F Stop (G (Frame.enter Try.prog 53 #[.iface 145 (.pointer (some sa))] .normal) cs) w := by
  rw [enter_qst]
  walk_nrm
  rw [qsts0_eq]
  refine own_go rfl (fun d => stepG_seq) ?_
  rw [qstr0_eq]
  refine own_go rfl (fun d => stepG_region) ?_
  simp only [qsto0, Code.opsOf, qstr0, Code.piece, qstBody, Try.f53, Option.getD_some, List.size_toArray, List.length_cons, List.length_nil, Nat.reduceAdd, Nat.zero_add, List.range, List.range.loop]
  (refine oWd rfl rfl (by decide) fun dd K hK => ?_; go_simp; refine hK _ _ ⟨⟨⟨0, Grew.refl _ _⟩, fun e he => by (have hm := mem_listed he; simp [go_sem] at hm)⟩, Own.at ?_ dd⟩; clear hK K)
  (refine oWd rfl rfl (by decide) fun dd K hK => ?_; go_simp; refine hK _ _ ⟨⟨⟨0, Grew.refl _ _⟩, fun e he => by (have hm := mem_listed he; simp [go_sem] at hm)⟩, Own.at ?_ dd⟩; clear hK K)
  refine own_go rfl (fun d => stepG_region_end) ?_
  rw [qstc3_eq]
  refine own_go rfl (fun d => stepG_cond (t := true) rfl) ?_
  simp only [if_true]
  rw [qstr1_eq]
  refine own_go rfl (fun d => stepG_region) ?_
  simp only [qsto1, Code.opsOf, qstr1, Code.piece, qstBody, Try.f53, Option.getD_some, List.size_toArray, List.length_cons, List.length_nil, Nat.reduceAdd, Nat.zero_add, List.range, List.range.loop]
  (refine oWd rfl rfl (by decide) fun dd K hK => ?_; go_simp; refine hK _ _ ⟨⟨⟨0, Grew.refl _ _⟩, fun e he => by (have hm := mem_listed he; simp [go_sem] at hm)⟩, Own.at ?_ dd⟩; clear hK K)
  refine own_call (f := 119) (args := #[.pointer (some sa)]) rfl rfl (by decide) (fun w => by simp [execOp, Act.eval, resolve, invoke, Deferred.ofValue, callable119.run, call_step]) (fun w => by simp [execOp, Act.eval, resolve, invoke, Deferred.ofValue, callable119.run, callable119.quiet, call_step, call_stepE]) ?_
  exact h
set_option maxRecDepth 100000 in
theorem own_step_back {sa : Addr} {c : Frame} {cs : List Frame} {main : Bool} {Stop : Goroutine → World → Prop} (h : Own Try.prog main F Stop (G (c.finish (.tuple #[])) cs) w) :
    Own Try.prog main F Stop (G ((stepFr sa).finish (.tuple #[])) (c :: cs)) w := by
  unfold stepFr
  rw [Frame.finish_at]
  simp only [qsto1, Code.opsOf, qstr1, Code.piece, qstBody, Try.f53, Option.getD_some, List.size_toArray, List.length_cons, List.length_nil, Nat.reduceAdd, Nat.zero_add, List.range, List.range.loop]
  walk_nrm
  refine own_go rfl (fun d => stepG_region_end) ?_
  refine own_go rfl (fun d => stepG_end) ?_
  refine own_go rfl (fun d => stepG_leave (fn := Try.f53) (v := .tuple #[]) rfl rfl Try.func53 (by simp [results, Try.f53]) (by simp [results, Try.f53, go_sem])) ?_
  exact h
set_option maxRecDepth 100000 in
theorem own_load {ad : Addr} {v : Option Addr} (hbx : BoxP w v) (hc : w.cell? ad = some (.pointer v)) (hs : ad.spot = none) {c : Frame} {cs : List Frame} {main : Bool} {Stop : Goroutine → World → Prop} (h : Own Try.prog main F Stop (G (c.finish (.pointer v)) cs) w) :
    Own Try.prog main F Stop (G (Frame.enter Try.prog 52 #[.pointer (some ad)] .normal) (c :: cs)) w := by
  obtain ⟨ab, ao, asp⟩ := ad
  simp only at hs
  subst hs
  have cv := fun d => (conv58 (hbx.at d)).1
  have cvE := fun d => (conv58 (hbx.at d)).2
  rw [enter_qld]
  walk_nrm
  rw [qlds0_eq]
  refine own_go rfl (fun d => stepG_seq) ?_
  rw [qldr0_eq]
  refine own_go rfl (fun d => stepG_region) ?_
  simp only [qldo0, Code.opsOf, qldr0, Code.piece, qldBody, Try.f52, Option.getD_some, List.size_toArray, List.length_cons, List.length_nil, Nat.reduceAdd, Nat.zero_add, List.range, List.range.loop]
  (refine oWd rfl rfl (by decide) fun dd K hK => ?_; go_simp; refine hK _ _ ⟨⟨⟨0, Grew.refl _ _⟩, fun e he => by (have hm := mem_listed he; simp [go_sem] at hm)⟩, Own.at ?_ dd⟩; clear hK K)
  refine own_go rfl (fun d => stepG_region_end) ?_
  rw [qlds1_eq]
  refine own_go rfl (fun d => stepG_seq) ?_
  rw [qldr1_eq]
  refine own_go rfl (fun d => stepG_region) ?_
  simp only [qldo1, Code.opsOf, qldr1, Code.piece, qldBody, Try.f52, Option.getD_some, List.size_toArray, List.length_cons, List.length_nil, Nat.reduceAdd, Nat.zero_add, List.range, List.range.loop]
  (refine oWd rfl rfl (by decide) fun dd K hK => ?_; go_simp; refine hK _ _ ⟨⟨⟨0, Grew.refl _ _⟩, fun e he => by (have hm := mem_listed he; simp [go_sem] at hm)⟩, Own.at ?_ dd⟩; clear hK K)
  (refine oWd rfl rfl (by decide) fun dd K hK => ?_; go_simp; refine hK _ _ ⟨⟨⟨0, Grew.refl _ _⟩, fun e he => by (have hm := mem_listed he; simp [go_sem] at hm)⟩, Own.at ?_ dd⟩; clear hK K)
  (refine oWd rfl rfl (by decide) fun dd K hK => ?_; go_simp; refine hK _ _ ⟨⟨⟨0, Grew.refl _ _⟩, fun e he => by (have hm := mem_listed he; simp [go_sem] at hm)⟩, Own.at ?_ dd⟩; clear hK K)
  refine own_load_ptr (f := 65) (fn := Try.f65) rfl rfl (by decide) rfl Try.func65 rfl rfl rfl rfl rfl hc ?_
  walk_nrm
  (refine own_val (v := _) (w' := w) rfl rfl (by decide) (fun d => by simp [execOp, Act.eval, cv d]; rfl) (fun d => ⟨0, Grew.refl _ _⟩) (fun d e hm => by simp [execOp, Act.eval, cvE d] at hm) ?_; walk_nrm)
  (refine oWd rfl rfl (by decide) fun dd K hK => ?_; go_simp; refine hK _ _ ⟨⟨⟨0, Grew.refl _ _⟩, fun e he => by (have hm := mem_listed he; simp [go_sem] at hm)⟩, Own.at ?_ dd⟩; clear hK K)
  refine own_go rfl (fun d => stepG_region_end) ?_
  refine own_go rfl (fun d => stepG_ret') ?_
  refine own_go rfl (fun d => stepG_leave (fn := Try.f52) (v := .pointer v) rfl rfl Try.func52 (by simp [results, Try.f52]) (by simp [results, Try.f52, go_sem])) ?_
  exact h
set_option maxRecDepth 100000 in
theorem own_cas {ad : Addr} {v u n : Option Addr} {t : Bool} (hc : w.cell? ad = some (.pointer v)) (hs : ad.spot = none) (hz : w.frozen? ad = false) (hnh : ¬ held F ad) (hbu : BoxP w u) (hbn : BoxP w n) (hq : ∀ d, PtrEq Try.prog (w.at d) v u t) {c : Frame} {cs : List Frame} {main : Bool} {Stop : Goroutine → World → Prop}
    (h : Own Try.prog main F Stop (G (c.finish (.bool t)) cs) (if t then w.setCell ad (.pointer n) else w)) :
    Own Try.prog main F Stop (G (Frame.enter Try.prog 54 #[.pointer (some ad), .pointer u, .pointer n] .normal) (c :: cs)) w := by
  obtain ⟨ab, ao, asp⟩ := ad
  simp only at hs
  subst hs
  have cu := fun d => (conv54 (hbu.at d)).1
  have cuE := fun d => (conv54 (hbu.at d)).2
  have cn := fun d => (conv54 (hbn.at d)).1
  have cnE := fun d => (conv54 (hbn.at d)).2
  rw [enter_qcs]
  walk_nrm
  rw [qcss0_eq]
  refine own_go rfl (fun d => stepG_seq) ?_
  rw [qcsr0_eq]
  refine own_go rfl (fun d => stepG_region) ?_
  simp only [qcso0, Code.opsOf, qcsr0, Code.piece, qcsBody, Try.f54, Option.getD_some, List.size_toArray, List.length_cons, List.length_nil, Nat.reduceAdd, Nat.zero_add, List.range, List.range.loop]
  (refine oWd rfl rfl (by decide) fun dd K hK => ?_; go_simp; refine hK _ _ ⟨⟨⟨0, Grew.refl _ _⟩, fun e he => by (have hm := mem_listed he; simp [go_sem] at hm)⟩, Own.at ?_ dd⟩; clear hK K)
  refine own_go rfl (fun d => stepG_region_end) ?_
  rw [qcss1_eq]
  refine own_go rfl (fun d => stepG_seq) ?_
  rw [qcsr1_eq]
  refine own_go rfl (fun d => stepG_region) ?_
  simp only [qcso1, Code.opsOf, qcsr1, Code.piece, qcsBody, Try.f54, Option.getD_some, List.size_toArray, List.length_cons, List.length_nil, Nat.reduceAdd, Nat.zero_add, List.range, List.range.loop]
  (refine oWd rfl rfl (by decide) fun dd K hK => ?_; go_simp; refine hK _ _ ⟨⟨⟨0, Grew.refl _ _⟩, fun e he => by (have hm := mem_listed he; simp [go_sem] at hm)⟩, Own.at ?_ dd⟩; clear hK K)
  (refine oWd rfl rfl (by decide) fun dd K hK => ?_; go_simp; refine hK _ _ ⟨⟨⟨0, Grew.refl _ _⟩, fun e he => by (have hm := mem_listed he; simp [go_sem] at hm)⟩, Own.at ?_ dd⟩; clear hK K)
  (refine oWd rfl rfl (by decide) fun dd K hK => ?_; go_simp; refine hK _ _ ⟨⟨⟨0, Grew.refl _ _⟩, fun e he => by (have hm := mem_listed he; simp [go_sem] at hm)⟩, Own.at ?_ dd⟩; clear hK K)
  (refine oWd rfl rfl (by decide) fun dd K hK => ?_; go_simp; refine hK _ _ ⟨⟨⟨0, Grew.refl _ _⟩, fun e he => by (have hm := mem_listed he; simp [go_sem] at hm)⟩, Own.at ?_ dd⟩; clear hK K)
  (refine own_val (v := _) (w' := w) rfl rfl (by decide) (fun d => by simp [execOp, Act.eval, cu d]; rfl) (fun d => ⟨0, Grew.refl _ _⟩) (fun d e hm => by simp [execOp, Act.eval, cuE d] at hm) ?_; walk_nrm)
  (refine oWd rfl rfl (by decide) fun dd K hK => ?_; go_simp; refine hK _ _ ⟨⟨⟨0, Grew.refl _ _⟩, fun e he => by (have hm := mem_listed he; simp [go_sem] at hm)⟩, Own.at ?_ dd⟩; clear hK K)
  (refine own_val (v := _) (w' := w) rfl rfl (by decide) (fun d => by simp [execOp, Act.eval, cn d]; rfl) (fun d => ⟨0, Grew.refl _ _⟩) (fun d e hm => by simp [execOp, Act.eval, cnE d] at hm) ?_; walk_nrm)
  refine own_cas_ptr (f := 66) (fn := Try.f66) (v := v) (u := u) (n := n) (t := t) rfl rfl (by decide) rfl Try.func66 rfl rfl rfl rfl rfl rfl rfl rfl hc hz hnh hq ?_
  walk_nrm
  (refine oWd rfl rfl (by decide) fun dd K hK => ?_; go_simp; refine hK _ _ ⟨⟨⟨0, Grew.refl _ _⟩, fun e he => by (have hm := mem_listed he; simp [go_sem] at hm)⟩, Own.at ?_ dd⟩; clear hK K)
  refine own_go rfl (fun d => stepG_region_end) ?_
  refine own_go rfl (fun d => stepG_ret') ?_
  refine own_go rfl (fun d => stepG_leave (fn := Try.f54) (v := .bool t) rfl rfl Try.func54 (by simp [results, Try.f54]) (by simp [results, Try.f54, go_sem])) ?_
  exact h
set_option maxRecDepth 100000 in
theorem own_no {q : Nat} {v : Addr} (hbx : BoxP w (some v)) (hc : w.cell? ⟨q, 0, none⟩ = some (.pointer (some v))) {c : Frame} {cs : List Frame} {main : Bool} {Stop : Goroutine → World → Prop} (h : Own Try.prog main F Stop (G (c.finish (.bool false)) cs) w) :
    Own Try.prog main F Stop (G (Frame.enter Try.prog 51 #[.pointer (some ⟨q, 0, none⟩)] .normal) (c :: cs)) w := by
  rw [enter_qno]
  walk_nrm
  rw [qnos0_eq]
  refine own_go rfl (fun d => stepG_seq) ?_
  rw [qnor0_eq]
  refine own_go rfl (fun d => stepG_region) ?_
  simp only [qnoo0, Code.opsOf, qnor0, Code.piece, qnoBody, Try.f51, Option.getD_some, List.size_toArray, List.length_cons, List.length_nil, Nat.reduceAdd, Nat.zero_add, List.range, List.range.loop]
  (refine oWd rfl rfl (by decide) fun dd K hK => ?_; go_simp; refine hK _ _ ⟨⟨⟨0, Grew.refl _ _⟩, fun e he => by (have hm := mem_listed he; simp [go_sem] at hm)⟩, Own.at ?_ dd⟩; clear hK K)
  refine own_go rfl (fun d => stepG_region_end) ?_
  rw [qnos1_eq]
  refine own_go rfl (fun d => stepG_seq) ?_
  rw [qnor1_eq]
  refine own_go rfl (fun d => stepG_region) ?_
  simp only [qnoo1, Code.opsOf, qnor1, Code.piece, qnoBody, Try.f51, Option.getD_some, List.size_toArray, List.length_cons, List.length_nil, Nat.reduceAdd, Nat.zero_add, List.range, List.range.loop]
  (refine oWd rfl rfl (by decide) fun dd K hK => ?_; go_simp; refine hK _ _ ⟨⟨⟨0, Grew.refl _ _⟩, fun e he => by (have hm := mem_listed he; simp [go_sem] at hm)⟩, Own.at ?_ dd⟩; clear hK K)
  (refine oWd rfl rfl (by decide) fun dd K hK => ?_; go_simp; refine hK _ _ ⟨⟨⟨0, Grew.refl _ _⟩, fun e he => by (have hm := mem_listed he; simp [go_sem] at hm)⟩, Own.at ?_ dd⟩; clear hK K)
  (refine oWd rfl rfl (by decide) fun dd K hK => ?_; go_simp; refine hK _ _ ⟨⟨⟨0, Grew.refl _ _⟩, fun e he => by (have hm := mem_listed he; simp [go_sem] at hm)⟩, Own.at ?_ dd⟩; clear hK K)
  (refine oWd rfl rfl (by decide) fun dd K hK => ?_; go_simp; refine hK _ _ ⟨⟨⟨0, Grew.refl _ _⟩, fun e he => by (have hm := mem_listed he; simp [go_sem] at hm)⟩, Own.at ?_ dd⟩; clear hK K)
  (refine oWd rfl rfl (by decide) fun dd K hK => ?_; go_simp; refine hK _ _ ⟨⟨⟨0, Grew.refl _ _⟩, fun e he => by (have hm := mem_listed he; simp [go_sem] at hm)⟩, Own.at ?_ dd⟩; clear hK K)
  (refine oWd rfl rfl (by decide) fun dd K hK => ?_; go_simp; refine hK _ _ ⟨⟨⟨0, Grew.refl _ _⟩, fun e he => by (have hm := mem_listed he; simp [go_sem] at hm)⟩, Own.at ?_ dd⟩; clear hK K)
  refine own_call (f := 52) (args := #[.pointer (some ⟨q, 0, none⟩)]) rfl rfl (by decide) (fun w => by simp [execOp, Act.eval, resolve, invoke, Deferred.ofValue, callable52.run]) (fun w => by simp [execOp, Act.eval, resolve, invoke, Deferred.ofValue, callable52.run, callable52.quiet]) ?_
  refine own_load hbx hc rfl ?_
  rw [Frame.finish_at]
  walk_nrm
  (refine oWd rfl rfl (by decide) fun dd K hK => ?_; go_simp; refine hK _ _ ⟨⟨⟨0, Grew.refl _ _⟩, fun e he => by (have hm := mem_listed he; simp [go_sem] at hm)⟩, Own.at ?_ dd⟩; clear hK K)
  (refine oWd rfl rfl (by decide) fun dd K hK => ?_; go_simp; refine hK _ _ ⟨⟨⟨0, Grew.refl _ _⟩, fun e he => by (have hm := mem_listed he; simp [go_sem] at hm)⟩, Own.at ?_ dd⟩; clear hK K)
  (refine oWd rfl rfl (by decide) fun dd K hK => ?_; go_simp; refine hK _ _ ⟨⟨⟨0, Grew.refl _ _⟩, fun e he => by (have hm := mem_listed he; simp [go_sem] at hm)⟩, Own.at ?_ dd⟩; clear hK K)
  refine own_go rfl (fun d => stepG_region_end) ?_
  refine own_go rfl (fun d => stepG_ret') ?_
  refine own_go rfl (fun d => stepG_leave (fn := Try.f51) (v := .bool false) rfl rfl Try.func51 (by simp [results, Try.f51]) (by simp [results, Try.f51, go_sem])) ?_
  exact h
end Go.Proofs.Ytcejbandeikdjaa
