/-
  StackNone: a nil stack and the zero one
  Part 3 of 5.
-/
import Derived.Test.YtlcgkpapnpdfpaaZB
import Derived.Conc.AppendWalk
import Derived.Conc.AppendEvents3
import Derived.Laws.BitsLemmas
import Derived.Laws.Bits64
set_option linter.unusedSimpArgs false
set_option linter.unusedVariables false
namespace Go.Proofs.Ytlcgkpapnpdfpaa
open Go Go.Conc Go.RowKit Go.Proofs
variable {g : Gate} {F : Fz} {w : World}
noncomputable def hdBody : Code := Try.f100.body.getD .skip
noncomputable def hds0 : Code := Code.piece [] hdBody
noncomputable def hdr0 : Code := Code.piece [true] hdBody
noncomputable def hdo0 : Array Oper := Code.opsOf hdr0
noncomputable def hds1 : Code := Code.piece [false] hdBody
noncomputable def hdr1 : Code := Code.piece [false, true] hdBody
noncomputable def hdo1 : Array Oper := Code.opsOf hdr1
theorem hds0_eq : hds0 = .seq hdr0 hds1 := by kernel_rfl
theorem hdr0_eq : hdr0 = .region 0 hdo0 false := by kernel_rfl
theorem hds1_eq : hds1 = .seq hdr1 .ret := by kernel_rfl
theorem hdr1_eq : hdr1 = .region 1 hdo1 false := by kernel_rfl
theorem enter_held (args : Array Value) : Frame.enter Try.prog 100 args .normal = (Go.Conc.base 100).at { tmps := args ++ Array.replicate (9 - args.size) undef, defers := [] } [.code hdBody] := enter_at args Try.func100 rfl
theorem callable100 : Callable 100 := callable Try.func100 rfl rfl
set_option maxRecDepth 100000 in
theorem own_held_low {m : Int} (hm : m < 0) {c : Frame} {cs : List Frame} {main : Bool} {Stop : Goroutine → World → Prop} (h : Own Try.prog main F Stop (G (c.finish (.int .i64 0)) cs) w) :
    Own Try.prog main F Stop (G (Frame.enter Try.prog 100 #[.int .i64 m, .int .i64 1048576] .normal) (c :: cs)) w := by
  have f1 : ¬ (0 : Int) < m := by omega
  rw [enter_held]
  change Own _ _ _ _ (G ((Go.Conc.base 100).at _ [.code hds0]) _) _
  walk_nrm
  rw [hds0_eq]
  refine ogS ?_
  rw [hdr0_eq]
  refine ogR ?_
  simp only [hdo0, Code.opsOf, hdr0, Code.piece, hdBody, Try.f100, Option.getD_some, List.size_toArray, List.length_cons, List.length_nil, Nat.reduceAdd, Nat.zero_add, List.range, List.range.loop]
  (refine oW fun dd K hK => ?_; go_simp; refine qT hK ?_; clear hK K)
  refine ogE ?_
  rw [hds1_eq]
  refine ogS ?_
  rw [hdr1_eq]
  refine ogR ?_
  simp only [hdo1, Code.opsOf, hdr1, Code.piece, hdBody, Try.f100, Option.getD_some, List.size_toArray, List.length_cons, List.length_nil, Nat.reduceAdd, Nat.zero_add, List.range, List.range.loop]
  (refine oW fun dd K hK => ?_; go_simp; refine qT hK ?_; clear hK K)
  (refine oW fun dd K hK => ?_; go_simp; refine qT hK ?_; clear hK K)
  (refine oW fun dd K hK => ?_; go_simp; refine qT hK ?_; clear hK K)
  (refine oW fun dd K hK => ?_; go_simp; refine qT hK ?_; clear hK K)
  (refine oW fun dd K hK => ?_; go_simp; refine qT hK ?_; clear hK K)
  refine ogE ?_
  refine ogX ?_
  refine own_go rfl (fun d => stepG_leave (fn := Try.f100) (v := .int .i64 0) rfl rfl Try.func100 (by simp [results, Try.f100, go_sem, *]) (by simp [results, Try.f100, go_sem, *])) ?_
  exact h
set_option maxRecDepth 100000 in
theorem own_held_mid {m : Int} (hm : 0 ≤ m) (hm2 : m ≤ 1048576) {c : Frame} {cs : List Frame} {main : Bool} {Stop : Goroutine → World → Prop} (h : Own Try.prog main F Stop (G (c.finish (.int .i64 m)) cs) w) :
    Own Try.prog main F Stop (G (Frame.enter Try.prog 100 #[.int .i64 m, .int .i64 1048576] .normal) (c :: cs)) w := by
  have f1 : ¬ m < 0 := by omega
  have f2 : ¬ (1048576 : Int) < m := by omega
  rw [enter_held]
  change Own _ _ _ _ (G ((Go.Conc.base 100).at _ [.code hds0]) _) _
  walk_nrm
  rw [hds0_eq]
  refine ogS ?_
  rw [hdr0_eq]
  refine ogR ?_
  simp only [hdo0, Code.opsOf, hdr0, Code.piece, hdBody, Try.f100, Option.getD_some, List.size_toArray, List.length_cons, List.length_nil, Nat.reduceAdd, Nat.zero_add, List.range, List.range.loop]
  (refine oW fun dd K hK => ?_; go_simp; refine qT hK ?_; clear hK K)
  refine ogE ?_
  rw [hds1_eq]
  refine ogS ?_
  rw [hdr1_eq]
  refine ogR ?_
  simp only [hdo1, Code.opsOf, hdr1, Code.piece, hdBody, Try.f100, Option.getD_some, List.size_toArray, List.length_cons, List.length_nil, Nat.reduceAdd, Nat.zero_add, List.range, List.range.loop]
  (refine oW fun dd K hK => ?_; go_simp; refine qT hK ?_; clear hK K)
  (refine oW fun dd K hK => ?_; go_simp; refine qT hK ?_; clear hK K)
  (refine oW fun dd K hK => ?_; go_simp; refine qT hK ?_; clear hK K)
  (refine oW fun dd K hK => ?_; go_simp; refine qT hK ?_; clear hK K)
  (refine oW fun dd K hK => ?_; go_simp; refine qT hK ?_; clear hK K)
  refine ogE ?_
  refine ogX ?_
  refine own_go rfl (fun d => stepG_leave (fn := Try.f100) (v := .int .i64 m) rfl rfl Try.func100 (by simp [results, Try.f100, go_sem, *]) (by simp [results, Try.f100, go_sem, *])) ?_
  exact h
set_option maxRecDepth 100000 in
theorem own_held_high {m : Int} (hm : 1048576 < m) {c : Frame} {cs : List Frame} {main : Bool} {Stop : Goroutine → World → Prop} (h : Own Try.prog main F Stop (G (c.finish (.int .i64 1048576)) cs) w) :
    Own Try.prog main F Stop (G (Frame.enter Try.prog 100 #[.int .i64 m, .int .i64 1048576] .normal) (c :: cs)) w := by
  have f1 : ¬ m < 0 := by omega
  rw [enter_held]
  change Own _ _ _ _ (G ((Go.Conc.base 100).at _ [.code hds0]) _) _
  walk_nrm
  rw [hds0_eq]
  refine ogS ?_
  rw [hdr0_eq]
  refine ogR ?_
  simp only [hdo0, Code.opsOf, hdr0, Code.piece, hdBody, Try.f100, Option.getD_some, List.size_toArray, List.length_cons, List.length_nil, Nat.reduceAdd, Nat.zero_add, List.range, List.range.loop]
  (refine oW fun dd K hK => ?_; go_simp; refine qT hK ?_; clear hK K)
  refine ogE ?_
  rw [hds1_eq]
  refine ogS ?_
  rw [hdr1_eq]
  refine ogR ?_
  simp only [hdo1, Code.opsOf, hdr1, Code.piece, hdBody, Try.f100, Option.getD_some, List.size_toArray, List.length_cons, List.length_nil, Nat.reduceAdd, Nat.zero_add, List.range, List.range.loop]
  (refine oW fun dd K hK => ?_; go_simp; refine qT hK ?_; clear hK K)
  (refine oW fun dd K hK => ?_; go_simp; refine qT hK ?_; clear hK K)
  (refine oW fun dd K hK => ?_; go_simp; refine qT hK ?_; clear hK K)
  (refine oW fun dd K hK => ?_; go_simp; refine qT hK ?_; clear hK K)
  (refine oW fun dd K hK => ?_; go_simp; refine qT hK ?_; clear hK K)
  refine ogE ?_
  refine ogX ?_
  refine own_go rfl (fun d => stepG_leave (fn := Try.f100) (v := .int .i64 1048576) rfl rfl Try.func100 (by simp [results, Try.f100, go_sem, *]) (by simp [results, Try.f100, go_sem, *])) ?_
  exact h
theorem own_held {m : Int} {M : Nat} (hM : (M : Int) = min (max m 0) 1048576) {c : Frame} {cs : List Frame} {main : Bool} {Stop : Goroutine → World → Prop} (h : Own Try.prog main F Stop (G (c.finish (.int .i64 M)) cs) w) :
    Own Try.prog main F Stop (G (Frame.enter Try.prog 100 #[.int .i64 m, .int .i64 1048576] .normal) (c :: cs)) w := by
  by_cases h1 : m < 0
  · exact own_held_low h1 (by rw [show (0 : Int) = M by omega]; exact h)
  · by_cases h2 : m ≤ 1048576
    · exact own_held_mid (by omega) h2 (by rw [show m = M by omega]; exact h)
    · exact own_held_high (by omega) (by rw [show (1048576 : Int) = M by omega]; exact h)
end Go.Proofs.Ytlcgkpapnpdfpaa
namespace Go.Proofs.Ytlcgkpapnpdfpaa
open Go Go.Conc Go.RowKit Go.Proofs
variable {g : Gate} {F : Fz} {w : World}
theorem enter_over (args : Array Value) : Frame.enter Try.prog 82 args .normal = (Go.Conc.base 82).at { tmps := args ++ Array.replicate (129 - args.size) undef, defers := [] } [.code ovs0] := enter_at args Try.func82 rfl
theorem callable82 : Callable 82 := callable Try.func82 rfl rfl
theorem set_new (X : World) (v u : Value) (t : TypeId) : (X.alloc (.cells #[v] t)).setCell ⟨X.heap.size, 0, none⟩ u = X.alloc (.cells #[u] t) := by go_simp
theorem set_old (X : World) (o : Obj) (a : Addr) (u : Value) (h : a.block < X.heap.size) : (X.alloc o).setCell a u = (X.setCell a u).alloc o := by
  unfold World.alloc World.setCell
  congr 1
  apply Array.ext_getElem?
  intro i
  simp only [Array.getElem?_modify, Array.getElem?_push, Array.size_modify]
  by_cases h1 : i = X.heap.size
  · subst h1; simp; omega
  · simp [h1]
def ovW0 (w : World) (M n : Nat) : World := ((w.alloc (.cells #[.int .i64 M] 3)).alloc (.cells #[.slice none 0 0] 24)).alloc (.cells #[.int .i64 n] 3)
set_option maxRecDepth 100000 in
set_option maxHeartbeats 2000000 in
theorem ov_s0 {n : Nat} (hU : Under F n) (hn : n ≤ w.heap.size) {ta : Option Addr} {tl tc M : Nat} {sch : Value} {m : Int} (htl : tl ≤ 64) (hM : min (max m 0) 1048576 = (M : Int)) {cs : List Frame} {main : Bool} {Stop : Goroutine → World → Prop}
    (h : ∀ A, Slots 129 A [(0, .slice ta tl tc), (1, sch), (5, .pointer (some ⟨w.heap.size, 0, none⟩)), (6, .pointer (some ⟨w.heap.size + 1, 0, none⟩)), (7, .bool false), (8, .slice none 0 0), (9, .pointer (some ⟨w.heap.size + 2, 0, none⟩))] →
      Own Try.prog main F Stop (G ((Go.Conc.base 82).at ⟨A, []⟩ [.code ovs3]) cs) (ovW0 w M tl)) :
    Own Try.prog main F Stop (G (Frame.enter Try.prog 82 #[.slice ta tl tc, sch, .int .i64 m] .normal) cs) w := by
  have n1 : ¬ (64 : Int) < (tl : Int) := by omega
  have n2 : ¬ 64 < tl := by omega
  rw [enter_over]
  walk_nrm
  rw [ovs0_eq]
  refine ogS ?_
  rw [ovr0_eq]
  refine ogR ?_
  simp only [ovo0, Code.opsOf, ovr0, Code.piece, ovBody, Try.f82, Option.getD_some, List.size_toArray, List.length_cons, List.length_nil, Nat.reduceAdd, Nat.zero_add, List.range, List.range.loop]
  (refine oW fun dd K hK => ?_; go_simp; refine qA hK hU ?_; clear hK K)
  (refine oW fun dd K hK => ?_; go_simp; refine qA hK hU ?_; clear hK K)
  (refine oW fun dd K hK => ?_; go_simp; refine qT hK ?_; clear hK K)
  (refine oW fun dd K hK => ?_; go_simp; refine qT hK ?_; clear hK K)
  refine ogE ?_
  rw [ovs1_eq]
  refine ogS ?_
  rw [ovr1_eq]
  refine ogR ?_
  simp only [ovo1, Code.opsOf, ovr1, Code.piece, ovBody, Try.f82, Option.getD_some, List.size_toArray, List.length_cons, List.length_nil, Nat.reduceAdd, Nat.zero_add, List.range, List.range.loop]
  (refine oW fun dd K hK => ?_; go_simp; refine qT hK ?_; clear hK K)
  (refine oW fun dd K hK => ?_; go_simp; refine qT hK ?_; clear hK K)
  (refine oW fun dd K hK => ?_; go_simp; refine qT hK ?_; clear hK K)
  (refine oW fun dd K hK => ?_; go_simp; refine qA hK hU ?_; clear hK K)
  (refine oW fun dd K hK => ?_; go_simp; refine qS hK hU ?_; clear hK K)
  have e1 := set_new ((w.alloc (.cells #[.int .i64 m] 3)).alloc (.cells #[.slice none 0 0] 24)) (.int .i64 0) (.int .i64 tl) 3
  simp only [World.size_alloc] at e1
  rw [e1]
  clear e1
  refine ogE ?_
  rw [ovs2_eq]
  refine ogS ?_
  rw [ovr2_eq]
  refine ogR ?_
  simp only [ovo2, Code.opsOf, ovr2, Code.piece, ovBody, Try.f82, Option.getD_some, List.size_toArray, List.length_cons, List.length_nil, Nat.reduceAdd, Nat.zero_add, List.range, List.range.loop]
  (refine oW fun dd K hK => ?_; go_simp; refine qL hK ?_; clear hK K)
  refine oc callable100 #[.int .i64 m, .int .i64 1048576] ?_
  (refine own_held hM.symm ?_)
  rw [Frame.finish_at]
  walk_nrm
  (refine oW fun dd K hK => ?_; go_simp; refine qS hK hU ?_; clear hK K)
  rw [set_old _ _ _ _ (by simp; omega), set_old _ _ _ _ (by simp), set_new]
  refine ogE ?_
  refine h _ ?_
  exact ⟨rfl, rfl, rfl, rfl, rfl, rfl, rfl, rfl, trivial⟩
end Go.Proofs.Ytlcgkpapnpdfpaa
namespace Go.Proofs.Ytlcgkpapnpdfpaa
open Go Go.Conc Go.RowKit Go.Proofs
section
variable {P : Program}
theorem ev_places (w : World) (es : Array Event) : ∀ (fs : List Field) (places : List (Nat × Nat)), fs.mapM (fun f => (P.info? f.type).map fun i => (f.offset, i.size)) = some places →
    (fs.mapM fun f => Prod.mk f.offset <$> sizeOf f.type).events P w es = es
  | [], places, h => by simp
  | f :: fs, places, h => by
    simp only [List.mapM_cons, Option.bind_eq_bind, Option.pure_def] at h
    cases hi : P.info? f.type with
    | none => simp [hi] at h
    | some i =>
      cases hr : fs.mapM (fun f => (P.info? f.type).map fun i => (f.offset, i.size)) with
      | none => simp [hi, hr] at h
      | some rest =>
        have hs : (sizeOf f.type).run P w = .ok i.size w := by simp [sizeOf, typeInfo, hi]
        have he : (sizeOf f.type).events P w es = es := by simp [sizeOf, typeInfo, hi, go_sem]
        simp [List.mapM_cons, hs, he, run_places w fs rest hr, ev_places w es fs rest hr]
theorem ev_build (w : World) (es : Array Event) (t : TypeId) (parts : Array (Nat × Value)) (cells : Array Value) (fields : Array Field) (hu : P.underlying t = some (.struct fields)) (h : P.built t parts.toList = some cells) : (Instr.build t parts).events P w es = es := by
  unfold Program.built at h
  cases hit : P.info? t with
  | none => simp [hit] at h
  | some it =>
    cases hz : it.zero with
    | none => simp [hit, hu, hz] at h
    | some z =>
      cases hp : fields.toList.mapM (fun f => (P.info? f.type).map fun i => (f.offset, i.size)) with
      | none => simp [hit, hu, hz, hp] at h
      | some places =>
        simp only [hit, hu, hz, hp] at h
        have h' : Instr.fill (fun x => places[x]?) z.cells parts.toList = some cells := by simpa using h
        unfold Value.cells at h'
        simp [Instr.build, run_underlying hu, typeInfo, zeroValue, hit, hz, Array.mapM_eq_mapM_toList, run_places w _ _ hp, ev_places w es _ _ hp, h', go_sem]
end
section
variable (w : World) (es : Array Event) (c b : Nat) (n m : Nat)
theorem built144 (c b n m : Nat) : Try.prog.built 172 [(0, .chan (some c)), (2, .slice (some ⟨b, 0, none⟩) n m)] = some #[.chan (some c), .slice none 0 0, .slice (some ⟨b, 0, none⟩) n m] := by kernel_rfl
@[go_sem] theorem run_build144 : (Instr.build 172 #[(0, .chan (some c)), (2, .slice (some ⟨b, 0, none⟩) n m)]).run Try.prog w = .ok (.agg #[.chan (some c), .slice none 0 0, .slice (some ⟨b, 0, none⟩) n m]) w := run_build w _ _ _ (built144 c b n m)
@[go_sem] theorem ev_build144 : (Instr.build 172 #[(0, .chan (some c)), (2, .slice (some ⟨b, 0, none⟩) n m)]).events Try.prog w es = es := ev_build w es _ _ _ _ Try.underlying172 (built144 c b n m)
theorem built148 (t c : Nat) : Try.prog.built 176 [(0, .pointer (some ⟨t, 0, none⟩)), (1, .chan (some c))] = some #[.pointer (some ⟨t, 0, none⟩), .chan (some c), .bool false] := by kernel_rfl
@[go_sem] theorem run_build148 : (Instr.build 176 #[(0, .pointer (some ⟨b, 0, none⟩)), (1, .chan (some c))]).run Try.prog w = .ok (.agg #[.pointer (some ⟨b, 0, none⟩), .chan (some c), .bool false]) w := run_build w _ _ _ (built148 b c)
@[go_sem] theorem ev_build148 : (Instr.build 176 #[(0, .pointer (some ⟨b, 0, none⟩)), (1, .chan (some c))]).events Try.prog w es = es := ev_build w es _ _ _ _ Try.underlying176 (built148 b c)
end
theorem info56 : ∃ i, Try.prog.info? 56 = some i ∧ i.bytes = 0 := by
  have h : (Try.prog.info? 56).map (·.bytes) = some 0 := by kernel_rfl
  obtain ⟨i, hi, h1⟩ := Option.map_eq_some_iff.1 h
  exact ⟨i, hi, h1⟩
theorem info4 : ∃ i, Try.prog.info? 4 = some i ∧ i.zero = some (.bool false) ∧ i.size = 1 ∧ i.bytes = 1 := by
  have h : (Try.prog.info? 4).map (fun i => (i.size, i.bytes)) = some (1, 1) := by kernel_rfl
  have h0 : (Try.prog.info? 4).bind (·.zero) = some (.bool false) := by kernel_rfl
  obtain ⟨i, hi, h1⟩ := Option.map_eq_some_iff.1 h
  rw [hi] at h0
  simp only [Prod.mk.injEq] at h1
  exact ⟨i, hi, h0, h1.1, h1.2⟩
section
variable (w : World) (es : Array Event) (n : Nat)
@[go_sem] theorem mkChan141 : (Instr.makeChan 169 (.int .i64 0)).run Try.prog w = .ok (.chan (some w.heap.size)) (w.alloc (.chan 0 #[] false 0 0 false)) := by
  obtain ⟨i, hi, hb⟩ := info56
  exact run_makeChan Try.underlying169 hi .i64 0 (by decide) (by simp)
@[go_sem] theorem mkChan141e : (Instr.makeChan 169 (.int .i64 0)).events Try.prog w es = es := by
  obtain ⟨i, hi, hb⟩ := info56
  exact events_makeChan Try.underlying169 hi .i64 0 (by decide) (by simp) es
@[go_sem] theorem mkChan146 : (Instr.makeChan 174 (.int .i64 0)).run Try.prog w = .ok (.chan (some w.heap.size)) (w.alloc (.chan 0 #[] false 0 0 false)) := by
  obtain ⟨i, hi, _, _, hb⟩ := info4
  exact run_makeChan Try.underlying174 hi .i64 0 (by decide) (by simp)
@[go_sem] theorem mkChan146e : (Instr.makeChan 174 (.int .i64 0)).events Try.prog w es = es := by
  obtain ⟨i, hi, _, _, hb⟩ := info4
  exact events_makeChan Try.underlying174 hi .i64 0 (by decide) (by simp) es
@[go_sem] theorem mkSlice142 (h : n ≤ 64) : (Instr.makeSlice 142 (.int .i64 n) (.int .i64 n)).run Try.prog w = .ok (.slice (some ⟨w.heap.size, 0, none⟩) n n) (w.alloc (.cells (madeCells #[.bool false] n) 4)) := by
  obtain ⟨i, hi, hz, hs, hb⟩ := info4
  have := run_make (P := Try.prog) w 142 4 i (.bool false) Try.underlying142 hi hz .i64 .i64 n n (by omega) (by omega) (by rw [hb]; omega) (by omega)
  rw [hs] at this
  simpa [Value.cells] using this
@[go_sem] theorem mkSlice142e (h : n ≤ 64) : (Instr.makeSlice 142 (.int .i64 n) (.int .i64 n)).events Try.prog w es = es := by
  obtain ⟨i, hi, hz, hs, hb⟩ := info4
  exact events_make (P := Try.prog) w 142 4 i (.bool false) Try.underlying142 hi hz .i64 .i64 n n (by omega) (by omega) (by rw [hb]; omega) (by omega) (by rw [hb]; omega) es
end
structure SN (nn nb n : Nat) (u : World) : Prop where
  top : nn ≤ u.heap.size
  lt : nb < u.heap.size
  c : u.cell? ⟨nb, 0, none⟩ = some (.int .i64 n)
  z : u.frozen? ⟨nb, 0, none⟩ = false
theorem SN.at {nn nb n : Nat} {u : World} (h : SN nn nb n u) (d : Nat) : SN nn nb n (u.at d) := ⟨h.top, h.lt, h.c, h.z⟩
theorem SN.alloc {nn nb n : Nat} {u : World} (h : SN nn nb n u) (o : Obj) : SN nn nb n (u.alloc o) :=
  ⟨by have := h.top; simp; omega, by have := h.lt; simp; omega, by rw [cell_alloc u o _ h.lt]; exact h.c, by
    have : (u.alloc o).heap[nb]? = u.heap[nb]? := heap_alloc_lt u o h.lt
    unfold World.frozen?
    simp only [this]
    exact h.z⟩
structure Set3 (n : Nat) (w w' : World) (tv tb bk br : Nat) : Prop where
  size : w.heap.size ≤ w'.heap.size
  old : ∀ r, r < w.heap.size → w'.heap[r]? = w.heap[r]?
  htv : w'.heap[tv]? = some (.cells #[.pointer (some ⟨tb, 0, none⟩)] 168)
  htb : w'.heap[tb]? = some (.cells #[.chan (some bk), .slice none 0 0, .slice (some ⟨br, 0, none⟩) n n] 172)
  hbk : w'.heap[bk]? = some (.chan 0 #[] false 0 0 false)
  hbr : w'.heap[br]? = some (.cells (madeCells #[.bool false] n) 4)
  low : w.heap.size ≤ tv ∧ w.heap.size ≤ tb ∧ w.heap.size ≤ bk ∧ w.heap.size ≤ br
theorem four_size (w : World) (a b c e : Obj) : w.heap.size ≤ ((((w.alloc a).alloc b).alloc c).alloc e).heap.size := by simp; omega
theorem four_old (w : World) (a b c e : Obj) : ∀ r, r < w.heap.size → ((((w.alloc a).alloc b).alloc c).alloc e).heap[r]? = w.heap[r]? := fun r hr => by
  rw [heap_alloc_lt _ _ (by simp; omega), heap_alloc_lt _ _ (by simp; omega), heap_alloc_lt _ _ (by simp; omega), heap_alloc_lt _ _ hr]
theorem four3 (w : World) (a b c e : Obj) : ((((w.alloc a).alloc b).alloc c).alloc e).heap[w.heap.size + 1 + 1 + 1]? = some e := by
  have := heap_alloc_new (((w.alloc a).alloc b).alloc c) e
  simpa using this
theorem four2 (w : World) (a b c e : Obj) : ((((w.alloc a).alloc b).alloc c).alloc e).heap[w.heap.size + 1 + 1]? = some c := by
  rw [heap_alloc_lt _ _ (by simp)]
  have := heap_alloc_new ((w.alloc a).alloc b) c
  simpa using this
theorem four1 (w : World) (a b c e : Obj) : ((((w.alloc a).alloc b).alloc c).alloc e).heap[w.heap.size + 1]? = some b := by
  rw [heap_alloc_lt _ _ (by simp), heap_alloc_lt _ _ (by simp)]
  have := heap_alloc_new (w.alloc a) b
  simpa using this
theorem four0 (w : World) (a b c e : Obj) : ((((w.alloc a).alloc b).alloc c).alloc e).heap[w.heap.size]? = some a := by
  rw [heap_alloc_lt _ _ (by simp; omega), heap_alloc_lt _ _ (by simp; omega), heap_alloc_lt _ _ (by simp)]
  exact heap_alloc_new w a
theorem set3_of {w w4 : World} {n tv tb bk br : Nat} (hs : w.heap.size ≤ w4.heap.size) (ho : ∀ r, r < w.heap.size → w4.heap[r]? = w.heap[r]?) (h1 : w4.heap[tv]? = some (.cells #[.pointer none] 168))
    (h2 : w4.heap[tb]? = some (.cells #[.chan (some bk), .slice none 0 0, .slice (some ⟨br, 0, none⟩) n n] 172)) (h3 : w4.heap[bk]? = some (.chan 0 #[] false 0 0 false)) (h4 : w4.heap[br]? = some (.cells (madeCells #[.bool false] n) 4))
    (d1 : tb ≠ tv) (d2 : bk ≠ tv) (d3 : br ≠ tv) (l1 : w.heap.size ≤ tv) (l2 : w.heap.size ≤ tb) (l3 : w.heap.size ≤ bk) (l4 : w.heap.size ≤ br) : Set3 n w (w4.setCell ⟨tv, 0, none⟩ (.pointer (some ⟨tb, 0, none⟩))) tv tb bk br :=
  ⟨by simpa using hs, fun r hr => (heap_setCell_ne _ _ _ (by simp only; omega)).trans (ho r hr), by simp [World.setCell, Array.getElem?_modify, h1], (heap_setCell_ne _ _ _ d1).trans h2, (heap_setCell_ne _ _ _ d2).trans h3, (heap_setCell_ne _ _ _ d3).trans h4, l1, l2, l3, l4⟩
end Go.Proofs.Ytlcgkpapnpdfpaa
namespace Go.Proofs.Ytlcgkpapnpdfpaa
open Go Go.Conc Go.RowKit Go.Proofs
variable {F : Fz} {w : World}
set_option maxRecDepth 100000 in
set_option maxHeartbeats 8000000 in
theorem ov_s3 {nn n nb mo od : Nat} {thr sch : Value} (hU : Under F nn) (hn64 : n ≤ 64) (hs : SN nn nb n w) {A : Array Value} (hA : Slots 129 A [(0, thr), (1, sch), (5, .pointer (some ⟨mo, 0, none⟩)), (6, .pointer (some ⟨od, 0, none⟩)), (7, .bool false), (8, .slice none 0 0), (9, .pointer (some ⟨nb, 0, none⟩))]) {cs : List Frame} {main : Bool} {Stop : Goroutine → World → Prop} {k : List Item}
    (h : ∀ (w' : World) (tv tb bk br : Nat) (A : Array Value), Set3 n w w' tv tb bk br → Slots 129 A [(0, thr), (1, sch), (5, .pointer (some ⟨mo, 0, none⟩)), (6, .pointer (some ⟨od, 0, none⟩)), (7, .bool false), (8, .slice none 0 0), (9, .pointer (some ⟨nb, 0, none⟩)), (10, .pointer (some ⟨tv, 0, none⟩))] →
      Own Try.prog main F Stop (G ((Go.Conc.base 82).at ⟨A, []⟩ k) cs) w') :
    Own Try.prog main F Stop (G ((Go.Conc.base 82).at ⟨A, []⟩ (.code ovr3 :: k)) cs) w := by
  obtain ⟨hsz, h0, h1, h5, h6, h7, h8, h9, _⟩ := hA
  obtain ⟨s, rfl⟩ := ovT_of hsz
  change s 0 = _ at h0
  change s 1 = _ at h1
  change s 5 = _ at h5
  change s 6 = _ at h6
  change s 7 = _ at h7
  change s 8 = _ at h8
  change s 9 = _ at h9
  clear hsz
  simp only [ovT, h0, h1, h5, h6, h7, h8, h9]
  clear h0 h1 h5 h6 h7 h8 h9
  have hS : ∀ u d, SN nn nb n u → SN nn nb n (World.at u d) := fun u d h => h.at d
  have htop := hs.top
  rw [ovr3_eq]
  refine own_drawnM (SN nn nb n) (last := 6) run_mixed (ll_of (by kernel_rfl)) (by decide) ?_
  simp only [ovo3, Code.opsOf, ovr3, Code.piece, ovBody, Try.f82, Option.getD_some, List.size_toArray, List.length_cons, List.length_nil, Nat.reduceAdd, Nat.zero_add, List.range, List.range.loop]
  have hZ : ∀ a u d, Own Try.prog main F Stop (G ((Go.Conc.base 82).at a (.inRegion ovo3 [6] :: k)) cs) u → Own Try.prog main F Stop (G ((Go.Conc.base 82).at a (.inRegion ovo3 [6] :: k)) cs) (World.at u d) := fun a u d h => h.at d
  simp only [ovo3, Code.opsOf, ovr3, Code.piece, ovBody, Try.f82, Option.getD_some, List.size_toArray, List.length_cons, List.length_nil, Nat.reduceAdd, Nat.zero_add, List.range, List.range.loop] at hZ
  refine anyM_take hS hZ (i := 1) (v := .int .i64 n) hs rfl rfl (by kernel_rfl) (by kernel_rfl) (by kernel_rfl) (fun u hu => .inl ⟨rfl, fun d => ⟨by simp [go_sem, execOp, Act.eval, hu.c, hu.z], fun e he => by have hm := mem_listed he; simp [go_sem, execOp, Act.eval, hu.c, hu.z] at hm; subst hm; exact evT_read _ _⟩⟩) ?_
  walk_nrm
  refine anyM_all (r := [0, 2, 5]) (by kernel_rfl) (by kernel_rfl) (fun i hi hil => ?_)
  simp only [List.mem_cons, List.not_mem_nil, or_false] at hi
  rcases hi with rfl | rfl | rfl
  · refine opm_k rfl rfl (fun d K' hK' => ?_)
    go_simp
    refine hK' _ _ ⟨⟨⟨0, grew_alloc hU (hs.at d).top _⟩, fun e he => by (have hm := mem_listed he; simp [go_sem, hn64] at hm)⟩, (hs.at d).alloc _, ?_⟩
    clear hK' K'
    rw [alloc_at']
    refine anyM_at hS hZ _ _ _ _ ?_ d
    replace hs := hs.alloc (.chan 0 #[] false 0 0 false)
    refine anyM_all (r := [2, 5]) (by kernel_rfl) (by kernel_rfl) (fun i hi hil => ?_)
    simp only [List.mem_cons, List.not_mem_nil, or_false] at hi
    rcases hi with rfl | rfl
    · refine opm_k rfl rfl (fun d K' hK' => ?_)
      go_simp
      refine hK' _ _ ⟨⟨⟨0, grew_alloc hU (hs.at d).top _⟩, fun e he => by (have hm := mem_listed he; simp [go_sem, hn64] at hm)⟩, (hs.at d).alloc _, ?_⟩
      clear hK' K'
      rw [alloc_at']
      refine anyM_at hS hZ _ _ _ _ ?_ d
      replace hs := hs.alloc (.cells (madeCells #[.bool false] n) 4)
      refine anyM_take hS hZ (i := 3) (v := .agg #[.chan (some (w.heap.size)), .slice none 0 0, .slice (some ⟨w.heap.size + 1, 0, none⟩) n n]) hs rfl rfl (by kernel_rfl) (by kernel_rfl) (by kernel_rfl) (fun u hu => .inl ⟨rfl, fun d => ⟨by simp [go_sem, execOp, Act.eval], fun e he => by have hm := mem_listed he; simp [go_sem, execOp, Act.eval] at hm⟩⟩) ?_
      walk_nrm
      refine anyM_all (r := [4, 5]) (by kernel_rfl) (by kernel_rfl) (fun i hi hil => ?_)
      simp only [List.mem_cons, List.not_mem_nil, or_false] at hi
      rcases hi with rfl | rfl
      · refine opm_k rfl rfl (fun d K' hK' => ?_)
        go_simp
        refine hK' _ _ ⟨⟨⟨0, grew_alloc hU (hs.at d).top _⟩, fun e he => by (have hm := mem_listed he; simp [go_sem, hn64] at hm)⟩, (hs.at d).alloc _, ?_⟩
        clear hK' K'
        rw [alloc_at']
        refine anyM_at hS hZ _ _ _ _ ?_ d
        replace hs := hs.alloc (.cells #[.chan (some (w.heap.size)), .slice none 0 0, .slice (some ⟨w.heap.size + 1, 0, none⟩) n n] 172)
        refine anyM_all (r := [5]) (by kernel_rfl) (by kernel_rfl) (fun i hi hil => ?_)
        simp only [List.mem_cons, List.not_mem_nil, or_false] at hi
        subst hi
        refine opm_k rfl rfl (fun d K' hK' => ?_)
        go_simp
        refine hK' _ _ ⟨⟨⟨0, grew_alloc hU (hs.at d).top _⟩, fun e he => by (have hm := mem_listed he; simp [go_sem, hn64] at hm)⟩, (hs.at d).alloc _, ?_⟩
        clear hK' K'
        rw [alloc_at']
        refine anyM_at hS hZ _ _ _ _ ?_ d
        replace hs := hs.alloc (.cells #[.pointer none] 168)
        refine anyM_end (by kernel_rfl) ?_ _
        (refine oW fun dd K hK => ?_; go_simp; refine qS hK hU ?_; clear hK K)
        refine ogE ?_
        refine h _ (w.heap.size + 1 + 1 + 1) (w.heap.size + 1 + 1) (w.heap.size) (w.heap.size + 1) _ (set3_of (four_size w _ _ _ _) (four_old w _ _ _ _) (four3 w _ _ _ _) (four2 w _ _ _ _) (four0 w _ _ _ _) (four1 w _ _ _ _) (by omega) (by omega) (by omega) (by omega) (by omega) (by omega) (by omega)) ⟨rfl, rfl, rfl, rfl, rfl, rfl, rfl, rfl, rfl, trivial⟩
      · refine opm_k rfl rfl (fun d K' hK' => ?_)
        go_simp
        refine hK' _ _ ⟨⟨⟨0, grew_alloc hU (hs.at d).top _⟩, fun e he => by (have hm := mem_listed he; simp [go_sem, hn64] at hm)⟩, (hs.at d).alloc _, ?_⟩
        clear hK' K'
        rw [alloc_at']
        refine anyM_at hS hZ _ _ _ _ ?_ d
        replace hs := hs.alloc (.cells #[.pointer none] 168)
        refine anyM_all (r := [4]) (by kernel_rfl) (by kernel_rfl) (fun i hi hil => ?_)
        simp only [List.mem_cons, List.not_mem_nil, or_false] at hi
        subst hi
        refine opm_k rfl rfl (fun d K' hK' => ?_)
        go_simp
        refine hK' _ _ ⟨⟨⟨0, grew_alloc hU (hs.at d).top _⟩, fun e he => by (have hm := mem_listed he; simp [go_sem, hn64] at hm)⟩, (hs.at d).alloc _, ?_⟩
        clear hK' K'
        rw [alloc_at']
        refine anyM_at hS hZ _ _ _ _ ?_ d
        replace hs := hs.alloc (.cells #[.chan (some (w.heap.size)), .slice none 0 0, .slice (some ⟨w.heap.size + 1, 0, none⟩) n n] 172)
        refine anyM_end (by kernel_rfl) ?_ _
        (refine oW fun dd K hK => ?_; go_simp; refine qS hK hU ?_; clear hK K)
        refine ogE ?_
        refine h _ (w.heap.size + 1 + 1) (w.heap.size + 1 + 1 + 1) (w.heap.size) (w.heap.size + 1) _ (set3_of (four_size w _ _ _ _) (four_old w _ _ _ _) (four2 w _ _ _ _) (four3 w _ _ _ _) (four0 w _ _ _ _) (four1 w _ _ _ _) (by omega) (by omega) (by omega) (by omega) (by omega) (by omega) (by omega)) ⟨rfl, rfl, rfl, rfl, rfl, rfl, rfl, rfl, rfl, trivial⟩
    · refine opm_k rfl rfl (fun d K' hK' => ?_)
      go_simp
      refine hK' _ _ ⟨⟨⟨0, grew_alloc hU (hs.at d).top _⟩, fun e he => by (have hm := mem_listed he; simp [go_sem, hn64] at hm)⟩, (hs.at d).alloc _, ?_⟩
      clear hK' K'
      rw [alloc_at']
      refine anyM_at hS hZ _ _ _ _ ?_ d
      replace hs := hs.alloc (.cells #[.pointer none] 168)
      refine anyM_all (r := [2]) (by kernel_rfl) (by kernel_rfl) (fun i hi hil => ?_)
      simp only [List.mem_cons, List.not_mem_nil, or_false] at hi
      subst hi
      refine opm_k rfl rfl (fun d K' hK' => ?_)
      go_simp
      refine hK' _ _ ⟨⟨⟨0, grew_alloc hU (hs.at d).top _⟩, fun e he => by (have hm := mem_listed he; simp [go_sem, hn64] at hm)⟩, (hs.at d).alloc _, ?_⟩
      clear hK' K'
      rw [alloc_at']
      refine anyM_at hS hZ _ _ _ _ ?_ d
      replace hs := hs.alloc (.cells (madeCells #[.bool false] n) 4)
      refine anyM_take hS hZ (i := 3) (v := .agg #[.chan (some (w.heap.size)), .slice none 0 0, .slice (some ⟨w.heap.size + 1 + 1, 0, none⟩) n n]) hs rfl rfl (by kernel_rfl) (by kernel_rfl) (by kernel_rfl) (fun u hu => .inl ⟨rfl, fun d => ⟨by simp [go_sem, execOp, Act.eval], fun e he => by have hm := mem_listed he; simp [go_sem, execOp, Act.eval] at hm⟩⟩) ?_
      walk_nrm
      refine anyM_all (r := [4]) (by kernel_rfl) (by kernel_rfl) (fun i hi hil => ?_)
      simp only [List.mem_cons, List.not_mem_nil, or_false] at hi
      subst hi
      refine opm_k rfl rfl (fun d K' hK' => ?_)
      go_simp
      refine hK' _ _ ⟨⟨⟨0, grew_alloc hU (hs.at d).top _⟩, fun e he => by (have hm := mem_listed he; simp [go_sem, hn64] at hm)⟩, (hs.at d).alloc _, ?_⟩
      clear hK' K'
      rw [alloc_at']
      refine anyM_at hS hZ _ _ _ _ ?_ d
      replace hs := hs.alloc (.cells #[.chan (some (w.heap.size)), .slice none 0 0, .slice (some ⟨w.heap.size + 1 + 1, 0, none⟩) n n] 172)
      refine anyM_end (by kernel_rfl) ?_ _
      (refine oW fun dd K hK => ?_; go_simp; refine qS hK hU ?_; clear hK K)
      refine ogE ?_
      refine h _ (w.heap.size + 1) (w.heap.size + 1 + 1 + 1) (w.heap.size) (w.heap.size + 1 + 1) _ (set3_of (four_size w _ _ _ _) (four_old w _ _ _ _) (four1 w _ _ _ _) (four3 w _ _ _ _) (four0 w _ _ _ _) (four2 w _ _ _ _) (by omega) (by omega) (by omega) (by omega) (by omega) (by omega) (by omega)) ⟨rfl, rfl, rfl, rfl, rfl, rfl, rfl, rfl, rfl, trivial⟩
  · refine opm_k rfl rfl (fun d K' hK' => ?_)
    go_simp
    refine hK' _ _ ⟨⟨⟨0, grew_alloc hU (hs.at d).top _⟩, fun e he => by (have hm := mem_listed he; simp [go_sem, hn64] at hm)⟩, (hs.at d).alloc _, ?_⟩
    clear hK' K'
    rw [alloc_at']
    refine anyM_at hS hZ _ _ _ _ ?_ d
    replace hs := hs.alloc (.cells (madeCells #[.bool false] n) 4)
    refine anyM_all (r := [0, 5]) (by kernel_rfl) (by kernel_rfl) (fun i hi hil => ?_)
    simp only [List.mem_cons, List.not_mem_nil, or_false] at hi
    rcases hi with rfl | rfl
    · refine opm_k rfl rfl (fun d K' hK' => ?_)
      go_simp
      refine hK' _ _ ⟨⟨⟨0, grew_alloc hU (hs.at d).top _⟩, fun e he => by (have hm := mem_listed he; simp [go_sem, hn64] at hm)⟩, (hs.at d).alloc _, ?_⟩
      clear hK' K'
      rw [alloc_at']
      refine anyM_at hS hZ _ _ _ _ ?_ d
      replace hs := hs.alloc (.chan 0 #[] false 0 0 false)
      refine anyM_take hS hZ (i := 3) (v := .agg #[.chan (some (w.heap.size + 1)), .slice none 0 0, .slice (some ⟨w.heap.size, 0, none⟩) n n]) hs rfl rfl (by kernel_rfl) (by kernel_rfl) (by kernel_rfl) (fun u hu => .inl ⟨rfl, fun d => ⟨by simp [go_sem, execOp, Act.eval], fun e he => by have hm := mem_listed he; simp [go_sem, execOp, Act.eval] at hm⟩⟩) ?_
      walk_nrm
      refine anyM_all (r := [4, 5]) (by kernel_rfl) (by kernel_rfl) (fun i hi hil => ?_)
      simp only [List.mem_cons, List.not_mem_nil, or_false] at hi
      rcases hi with rfl | rfl
      · refine opm_k rfl rfl (fun d K' hK' => ?_)
        go_simp
        refine hK' _ _ ⟨⟨⟨0, grew_alloc hU (hs.at d).top _⟩, fun e he => by (have hm := mem_listed he; simp [go_sem, hn64] at hm)⟩, (hs.at d).alloc _, ?_⟩
        clear hK' K'
        rw [alloc_at']
        refine anyM_at hS hZ _ _ _ _ ?_ d
        replace hs := hs.alloc (.cells #[.chan (some (w.heap.size + 1)), .slice none 0 0, .slice (some ⟨w.heap.size, 0, none⟩) n n] 172)
        refine anyM_all (r := [5]) (by kernel_rfl) (by kernel_rfl) (fun i hi hil => ?_)
        simp only [List.mem_cons, List.not_mem_nil, or_false] at hi
        subst hi
        refine opm_k rfl rfl (fun d K' hK' => ?_)
        go_simp
        refine hK' _ _ ⟨⟨⟨0, grew_alloc hU (hs.at d).top _⟩, fun e he => by (have hm := mem_listed he; simp [go_sem, hn64] at hm)⟩, (hs.at d).alloc _, ?_⟩
        clear hK' K'
        rw [alloc_at']
        refine anyM_at hS hZ _ _ _ _ ?_ d
        replace hs := hs.alloc (.cells #[.pointer none] 168)
        refine anyM_end (by kernel_rfl) ?_ _
        (refine oW fun dd K hK => ?_; go_simp; refine qS hK hU ?_; clear hK K)
        refine ogE ?_
        refine h _ (w.heap.size + 1 + 1 + 1) (w.heap.size + 1 + 1) (w.heap.size + 1) (w.heap.size) _ (set3_of (four_size w _ _ _ _) (four_old w _ _ _ _) (four3 w _ _ _ _) (four2 w _ _ _ _) (four1 w _ _ _ _) (four0 w _ _ _ _) (by omega) (by omega) (by omega) (by omega) (by omega) (by omega) (by omega)) ⟨rfl, rfl, rfl, rfl, rfl, rfl, rfl, rfl, rfl, trivial⟩
      · refine opm_k rfl rfl (fun d K' hK' => ?_)
        go_simp
        refine hK' _ _ ⟨⟨⟨0, grew_alloc hU (hs.at d).top _⟩, fun e he => by (have hm := mem_listed he; simp [go_sem, hn64] at hm)⟩, (hs.at d).alloc _, ?_⟩
        clear hK' K'
        rw [alloc_at']
        refine anyM_at hS hZ _ _ _ _ ?_ d
        replace hs := hs.alloc (.cells #[.pointer none] 168)
        refine anyM_all (r := [4]) (by kernel_rfl) (by kernel_rfl) (fun i hi hil => ?_)
        simp only [List.mem_cons, List.not_mem_nil, or_false] at hi
        subst hi
        refine opm_k rfl rfl (fun d K' hK' => ?_)
        go_simp
        refine hK' _ _ ⟨⟨⟨0, grew_alloc hU (hs.at d).top _⟩, fun e he => by (have hm := mem_listed he; simp [go_sem, hn64] at hm)⟩, (hs.at d).alloc _, ?_⟩
        clear hK' K'
        rw [alloc_at']
        refine anyM_at hS hZ _ _ _ _ ?_ d
        replace hs := hs.alloc (.cells #[.chan (some (w.heap.size + 1)), .slice none 0 0, .slice (some ⟨w.heap.size, 0, none⟩) n n] 172)
        refine anyM_end (by kernel_rfl) ?_ _
        (refine oW fun dd K hK => ?_; go_simp; refine qS hK hU ?_; clear hK K)
        refine ogE ?_
        refine h _ (w.heap.size + 1 + 1) (w.heap.size + 1 + 1 + 1) (w.heap.size + 1) (w.heap.size) _ (set3_of (four_size w _ _ _ _) (four_old w _ _ _ _) (four2 w _ _ _ _) (four3 w _ _ _ _) (four1 w _ _ _ _) (four0 w _ _ _ _) (by omega) (by omega) (by omega) (by omega) (by omega) (by omega) (by omega)) ⟨rfl, rfl, rfl, rfl, rfl, rfl, rfl, rfl, rfl, trivial⟩
    · refine opm_k rfl rfl (fun d K' hK' => ?_)
      go_simp
      refine hK' _ _ ⟨⟨⟨0, grew_alloc hU (hs.at d).top _⟩, fun e he => by (have hm := mem_listed he; simp [go_sem, hn64] at hm)⟩, (hs.at d).alloc _, ?_⟩
      clear hK' K'
      rw [alloc_at']
      refine anyM_at hS hZ _ _ _ _ ?_ d
      replace hs := hs.alloc (.cells #[.pointer none] 168)
      refine anyM_all (r := [0]) (by kernel_rfl) (by kernel_rfl) (fun i hi hil => ?_)
      simp only [List.mem_cons, List.not_mem_nil, or_false] at hi
      subst hi
      refine opm_k rfl rfl (fun d K' hK' => ?_)
      go_simp
      refine hK' _ _ ⟨⟨⟨0, grew_alloc hU (hs.at d).top _⟩, fun e he => by (have hm := mem_listed he; simp [go_sem, hn64] at hm)⟩, (hs.at d).alloc _, ?_⟩
      clear hK' K'
      rw [alloc_at']
      refine anyM_at hS hZ _ _ _ _ ?_ d
      replace hs := hs.alloc (.chan 0 #[] false 0 0 false)
      refine anyM_take hS hZ (i := 3) (v := .agg #[.chan (some (w.heap.size + 1 + 1)), .slice none 0 0, .slice (some ⟨w.heap.size, 0, none⟩) n n]) hs rfl rfl (by kernel_rfl) (by kernel_rfl) (by kernel_rfl) (fun u hu => .inl ⟨rfl, fun d => ⟨by simp [go_sem, execOp, Act.eval], fun e he => by have hm := mem_listed he; simp [go_sem, execOp, Act.eval] at hm⟩⟩) ?_
      walk_nrm
      refine anyM_all (r := [4]) (by kernel_rfl) (by kernel_rfl) (fun i hi hil => ?_)
      simp only [List.mem_cons, List.not_mem_nil, or_false] at hi
      subst hi
      refine opm_k rfl rfl (fun d K' hK' => ?_)
      go_simp
      refine hK' _ _ ⟨⟨⟨0, grew_alloc hU (hs.at d).top _⟩, fun e he => by (have hm := mem_listed he; simp [go_sem, hn64] at hm)⟩, (hs.at d).alloc _, ?_⟩
      clear hK' K'
      rw [alloc_at']
      refine anyM_at hS hZ _ _ _ _ ?_ d
      replace hs := hs.alloc (.cells #[.chan (some (w.heap.size + 1 + 1)), .slice none 0 0, .slice (some ⟨w.heap.size, 0, none⟩) n n] 172)
      refine anyM_end (by kernel_rfl) ?_ _
      (refine oW fun dd K hK => ?_; go_simp; refine qS hK hU ?_; clear hK K)
      refine ogE ?_
      refine h _ (w.heap.size + 1) (w.heap.size + 1 + 1 + 1) (w.heap.size + 1 + 1) (w.heap.size) _ (set3_of (four_size w _ _ _ _) (four_old w _ _ _ _) (four1 w _ _ _ _) (four3 w _ _ _ _) (four2 w _ _ _ _) (four0 w _ _ _ _) (by omega) (by omega) (by omega) (by omega) (by omega) (by omega) (by omega)) ⟨rfl, rfl, rfl, rfl, rfl, rfl, rfl, rfl, rfl, trivial⟩
  · refine opm_k rfl rfl (fun d K' hK' => ?_)
    go_simp
    refine hK' _ _ ⟨⟨⟨0, grew_alloc hU (hs.at d).top _⟩, fun e he => by (have hm := mem_listed he; simp [go_sem, hn64] at hm)⟩, (hs.at d).alloc _, ?_⟩
    clear hK' K'
    rw [alloc_at']
    refine anyM_at hS hZ _ _ _ _ ?_ d
    replace hs := hs.alloc (.cells #[.pointer none] 168)
    refine anyM_all (r := [0, 2]) (by kernel_rfl) (by kernel_rfl) (fun i hi hil => ?_)
    simp only [List.mem_cons, List.not_mem_nil, or_false] at hi
    rcases hi with rfl | rfl
    · refine opm_k rfl rfl (fun d K' hK' => ?_)
      go_simp
      refine hK' _ _ ⟨⟨⟨0, grew_alloc hU (hs.at d).top _⟩, fun e he => by (have hm := mem_listed he; simp [go_sem, hn64] at hm)⟩, (hs.at d).alloc _, ?_⟩
      clear hK' K'
      rw [alloc_at']
      refine anyM_at hS hZ _ _ _ _ ?_ d
      replace hs := hs.alloc (.chan 0 #[] false 0 0 false)
      refine anyM_all (r := [2]) (by kernel_rfl) (by kernel_rfl) (fun i hi hil => ?_)
      simp only [List.mem_cons, List.not_mem_nil, or_false] at hi
      subst hi
      refine opm_k rfl rfl (fun d K' hK' => ?_)
      go_simp
      refine hK' _ _ ⟨⟨⟨0, grew_alloc hU (hs.at d).top _⟩, fun e he => by (have hm := mem_listed he; simp [go_sem, hn64] at hm)⟩, (hs.at d).alloc _, ?_⟩
      clear hK' K'
      rw [alloc_at']
      refine anyM_at hS hZ _ _ _ _ ?_ d
      replace hs := hs.alloc (.cells (madeCells #[.bool false] n) 4)
      refine anyM_take hS hZ (i := 3) (v := .agg #[.chan (some (w.heap.size + 1)), .slice none 0 0, .slice (some ⟨w.heap.size + 1 + 1, 0, none⟩) n n]) hs rfl rfl (by kernel_rfl) (by kernel_rfl) (by kernel_rfl) (fun u hu => .inl ⟨rfl, fun d => ⟨by simp [go_sem, execOp, Act.eval], fun e he => by have hm := mem_listed he; simp [go_sem, execOp, Act.eval] at hm⟩⟩) ?_
      walk_nrm
      refine anyM_all (r := [4]) (by kernel_rfl) (by kernel_rfl) (fun i hi hil => ?_)
      simp only [List.mem_cons, List.not_mem_nil, or_false] at hi
      subst hi
      refine opm_k rfl rfl (fun d K' hK' => ?_)
      go_simp
      refine hK' _ _ ⟨⟨⟨0, grew_alloc hU (hs.at d).top _⟩, fun e he => by (have hm := mem_listed he; simp [go_sem, hn64] at hm)⟩, (hs.at d).alloc _, ?_⟩
      clear hK' K'
      rw [alloc_at']
      refine anyM_at hS hZ _ _ _ _ ?_ d
      replace hs := hs.alloc (.cells #[.chan (some (w.heap.size + 1)), .slice none 0 0, .slice (some ⟨w.heap.size + 1 + 1, 0, none⟩) n n] 172)
      refine anyM_end (by kernel_rfl) ?_ _
      (refine oW fun dd K hK => ?_; go_simp; refine qS hK hU ?_; clear hK K)
      refine ogE ?_
      refine h _ (w.heap.size) (w.heap.size + 1 + 1 + 1) (w.heap.size + 1) (w.heap.size + 1 + 1) _ (set3_of (four_size w _ _ _ _) (four_old w _ _ _ _) (four0 w _ _ _ _) (four3 w _ _ _ _) (four1 w _ _ _ _) (four2 w _ _ _ _) (by omega) (by omega) (by omega) (by omega) (by omega) (by omega) (by omega)) ⟨rfl, rfl, rfl, rfl, rfl, rfl, rfl, rfl, rfl, trivial⟩
    · refine opm_k rfl rfl (fun d K' hK' => ?_)
      go_simp
      refine hK' _ _ ⟨⟨⟨0, grew_alloc hU (hs.at d).top _⟩, fun e he => by (have hm := mem_listed he; simp [go_sem, hn64] at hm)⟩, (hs.at d).alloc _, ?_⟩
      clear hK' K'
      rw [alloc_at']
      refine anyM_at hS hZ _ _ _ _ ?_ d
      replace hs := hs.alloc (.cells (madeCells #[.bool false] n) 4)
      refine anyM_all (r := [0]) (by kernel_rfl) (by kernel_rfl) (fun i hi hil => ?_)
      simp only [List.mem_cons, List.not_mem_nil, or_false] at hi
      subst hi
      refine opm_k rfl rfl (fun d K' hK' => ?_)
      go_simp
      refine hK' _ _ ⟨⟨⟨0, grew_alloc hU (hs.at d).top _⟩, fun e he => by (have hm := mem_listed he; simp [go_sem, hn64] at hm)⟩, (hs.at d).alloc _, ?_⟩
      clear hK' K'
      rw [alloc_at']
      refine anyM_at hS hZ _ _ _ _ ?_ d
      replace hs := hs.alloc (.chan 0 #[] false 0 0 false)
      refine anyM_take hS hZ (i := 3) (v := .agg #[.chan (some (w.heap.size + 1 + 1)), .slice none 0 0, .slice (some ⟨w.heap.size + 1, 0, none⟩) n n]) hs rfl rfl (by kernel_rfl) (by kernel_rfl) (by kernel_rfl) (fun u hu => .inl ⟨rfl, fun d => ⟨by simp [go_sem, execOp, Act.eval], fun e he => by have hm := mem_listed he; simp [go_sem, execOp, Act.eval] at hm⟩⟩) ?_
      walk_nrm
      refine anyM_all (r := [4]) (by kernel_rfl) (by kernel_rfl) (fun i hi hil => ?_)
      simp only [List.mem_cons, List.not_mem_nil, or_false] at hi
      subst hi
      refine opm_k rfl rfl (fun d K' hK' => ?_)
      go_simp
      refine hK' _ _ ⟨⟨⟨0, grew_alloc hU (hs.at d).top _⟩, fun e he => by (have hm := mem_listed he; simp [go_sem, hn64] at hm)⟩, (hs.at d).alloc _, ?_⟩
      clear hK' K'
      rw [alloc_at']
      refine anyM_at hS hZ _ _ _ _ ?_ d
      replace hs := hs.alloc (.cells #[.chan (some (w.heap.size + 1 + 1)), .slice none 0 0, .slice (some ⟨w.heap.size + 1, 0, none⟩) n n] 172)
      refine anyM_end (by kernel_rfl) ?_ _
      (refine oW fun dd K hK => ?_; go_simp; refine qS hK hU ?_; clear hK K)
      refine ogE ?_
      refine h _ (w.heap.size) (w.heap.size + 1 + 1 + 1) (w.heap.size + 1 + 1) (w.heap.size + 1) _ (set3_of (four_size w _ _ _ _) (four_old w _ _ _ _) (four0 w _ _ _ _) (four3 w _ _ _ _) (four2 w _ _ _ _) (four1 w _ _ _ _) (by omega) (by omega) (by omega) (by omega) (by omega) (by omega) (by omega)) ⟨rfl, rfl, rfl, rfl, rfl, rfl, rfl, rfl, rfl, trivial⟩
end Go.Proofs.Ytlcgkpapnpdfpaa
namespace Go.Proofs.Ytlcgkpapnpdfpaa
open Go Go.Conc Go.RowKit Go.Proofs
variable {P : Program} {F : Fz} {w w' : World}
theorem Wf.of_grew {j : Nat} (h : Wf F w) (hg : Grew F w w' j) : Wf F w' := by
  constructor
  intro r z hz
  obtain ⟨c, e, z0, h1, h2⟩ := h.own r z hz
  rcases hg.objs r _ h1 with ⟨c1, e1, z1, c', h3, h4, _⟩ | h3
  · cases h3; exact ⟨c', e, z0, h4, h2⟩
  · exact ⟨c, e, z0, h3, h2⟩
theorem opm_lift {S' : FuncId → Bool} {px : Bool} (hC : Closed P S' px) (hF : px = true → ∀ r, F r = none) {fn : FuncId} {ops : Array Oper} {i : Nat} {o : Oper} {K : Act → World → Prop} {a : Act} (ho : ops[i]? = some o) (hok : opOk P S' px o.op = true)
    (hw : Region.wanted o (yielded ops a.tmps) = true) (hwf : Wf F w)
    (h : ∀ d, ∃ v u, (execOp a.eval o).run P (mask F (w.at d)) = .ok (.value v) u ∧ ∀ w', u = mask F w' → (∃ j, Grew F (w.at d) w' j) → Wf F w' → K (a.put o.dst v) w') : OpM P F fn ops i K a w := by
  refine ⟨o, ho, .inl ⟨hw, fun d => ?_⟩⟩
  obtain ⟨v, u, hr, hk⟩ := h d
  have hs := execOp_sims hC hF a.eval (fun v => rfl) (fun f => rfl) o hok (w.at d) ⟨hwf.own⟩
  unfold SimAt at hs
  rw [hr] at hs
  obtain ⟨w', es, j, hu, hrun, hev, het, hg, hwf', _⟩ := hs
  rw [hrun]
  refine ⟨⟨⟨j, hg⟩, fun e he => ?_⟩, hk w' hu ⟨j, hg⟩ hwf'⟩
  have hm := mem_listed he
  rw [hev] at hm
  exact het e (by simpa using hm)
theorem run_append_op {o : Oper} {a : Act} {v xv v' : Value} {u : World} (s x : Operand) (t : TypeId)
    (ho : o.op = .call { callee := .builtin .append, args := #[s, x], argTypes := #[t, t] }) (hs : a.eval s = v) (hx : a.eval x = xv)
    (hr : (Builtin.append_ #[t, t] o.type #[v, xv]).run P w = .ok v' u) : (execOp a.eval o).run P w = .ok (.value v') u := by
  unfold execOp
  simp only [ho, resolve, invoke, builtin, Sem.run_bind, Sem.run_pure, Result.andThen_ok, List.map_toArray, List.map_cons, List.map_nil, hs, hx, hr]
theorem info173 : ∃ i, Try.prog.info? 173 = some i ∧ i.zero = some (.pointer none) ∧ i.size = 1 ∧ i.bytes = 8 := by
  have h : (Try.prog.info? 173).map (fun i => (i.size, i.bytes)) = some (1, 8) := by kernel_rfl
  have h0 : (Try.prog.info? 173).bind (·.zero) = some (.pointer none) := by kernel_rfl
  obtain ⟨i, hi, h1⟩ := Option.map_eq_some_iff.1 h
  rw [hi] at h0
  simp only [Prod.mk.injEq] at h1
  exact ⟨i, hi, h0, h1.1, h1.2⟩
theorem slice_form2 {base n size : Nat} {e : TypeId} {v : Value} {xs : List Value} (h : w.ownsRow base e size v (n + 1) xs) : ∃ b cap cur, v = .slice (some ⟨b, 0, none⟩) (n + 1) cap ∧ base ≤ b ∧ w.heap[b]? = some (.cells cur e (0, 0)) := by
  rcases h.2 with ⟨_, h⟩ | ⟨b, cap, cur, h1, h2, h3, _⟩
  · omega
  · exact ⟨b, cap, cur, h1, h2, h3⟩
theorem own_chan {base n size b cap k l : Nat} {e : TypeId} {v : Value} {xs : List Value} {buf : Array Value} {cl tm : Bool} (h : w.ownsRow base e size v n xs) (hc : w.heap[b]? = some (.chan cap buf cl k l tm)) : some b ≠ Value.ownBlock v := by
  rcases h.2 with ⟨rfl, _⟩ | ⟨g, cap, cur, rfl, _, h3, _⟩
  · simp [Value.ownBlock]
  · intro h4
    simp only [Value.ownBlock, Option.some.injEq] at h4
    subst h4
    rw [hc] at h3
    cases h3
structure ST (F : Fz) (nn n tv tb bk br : Nat) (slv : Value) (u : World) : Prop where
  top : nn ≤ u.heap.size
  wf : Wf F u
  tvc : u.heap[tv]? = some (.cells #[.pointer (some ⟨tb, 0, none⟩)] 168)
  tbc : u.heap[tb]? = some (.cells #[.chan (some bk), slv, .slice (some ⟨br, 0, none⟩) n n] 172)
section
variable {nn n tv tb bk br : Nat} {slv : Value} {u : World}
theorem ST.at (h : ST F nn n tv tb bk br slv u) (d : Nat) : ST F nn n tv tb bk br slv (u.at d) := ⟨h.top, ⟨h.wf.own⟩, h.tvc, h.tbc⟩
theorem ST.alloc (hU : Under F nn) (h : ST F nn n tv tb bk br slv u) (o : Obj) : ST F nn n tv tb bk br slv (u.alloc o) :=
  ⟨by have := h.top; simp; omega, h.wf.of_grew (grew_alloc hU h.top o), (heap_alloc_lt _ _ (Array.getElem?_eq_some_iff.1 h.tvc).1).trans h.tvc, (heap_alloc_lt _ _ (Array.getElem?_eq_some_iff.1 h.tbc).1).trans h.tbc⟩
theorem ST.c1 (h : ST F nn n tv tb bk br slv u) : u.cell? ⟨tv, 0, none⟩ = some (.pointer (some ⟨tb, 0, none⟩)) := by simp [World.cell?, h.tvc]
theorem ST.z1 (h : ST F nn n tv tb bk br slv u) : u.frozen? ⟨tv, 0, none⟩ = false := by simp [World.frozen?, h.tvc]
theorem ST.c2 (h : ST F nn n tv tb bk br slv u) : u.cell? ⟨tb, 1, none⟩ = some slv := by simp [World.cell?, h.tbc]
theorem ST.z2 (h : ST F nn n tv tb bk br slv u) : u.frozen? ⟨tb, 1, none⟩ = false := by simp [World.frozen?, h.tbc]
end
structure Stood (F : Fz) (nn n tv tb bk br i : Nat) (slv : Value) (xs : List Value) (w w' : World) (v' : Value) (p q : Nat) : Prop where
  st : ST F nn n tv tb bk br v' w'
  row : w'.ownsRow nn 173 1 v' (i + 1) (xs ++ [.pointer (some ⟨q, 0, none⟩)])
  pc : w'.heap[p]? = some (.chan 0 #[] false 0 0 false)
  qc : w'.heap[q]? = some (.cells #[.pointer (some ⟨tb, 0, none⟩), .chan (some p), .bool false] 176)
  pl : p = w.heap.size
  ql : q = w.heap.size + 1
  size : w.heap.size + 2 ≤ w'.heap.size
  old : ∀ r, nn ≤ r → r < w.heap.size → r ≠ tb → some r ≠ Value.ownBlock slv → w'.heap[r]? = w.heap[r]?
set_option maxRecDepth 100000 in
set_option maxHeartbeats 8000000 in
theorem ov_s6 {nn n tv tb bk br i mo od nb : Nat} {slv thr sch : Value} {xs : List Value} (hU : Under F nn) (hs : ST F nn n tv tb bk br slv w) (hrow : w.ownsRow nn 173 1 slv i xs) (hi64 : i < 64) (hlow : nn ≤ tv ∧ nn ≤ tb) {A : Array Value} (hA : Slots 129 A [(0, thr), (1, sch), (5, .pointer (some ⟨mo, 0, none⟩)), (6, .pointer (some ⟨od, 0, none⟩)), (7, .bool false), (8, .slice none 0 0), (9, .pointer (some ⟨nb, 0, none⟩)), (10, .pointer (some ⟨tv, 0, none⟩)), (29, .int .i64 n), (30, .int .i64 i)]) {cs : List Frame} {main : Bool} {Stop : Goroutine → World → Prop} {k : List Item}
    (h : ∀ (w' : World) (v' : Value) (p q : Nat) (A : Array Value), Stood F nn n tv tb bk br i slv xs w w' v' p q → Slots 129 A [(0, thr), (1, sch), (5, .pointer (some ⟨mo, 0, none⟩)), (6, .pointer (some ⟨od, 0, none⟩)), (7, .bool false), (8, .slice none 0 0), (9, .pointer (some ⟨nb, 0, none⟩)), (10, .pointer (some ⟨tv, 0, none⟩)), (29, .int .i64 n), (30, .int .i64 i)] → Own Try.prog main F Stop (G ((Go.Conc.base 82).at ⟨A, []⟩ k) cs) w') :
    Own Try.prog main F Stop (G ((Go.Conc.base 82).at ⟨A, []⟩ (.code ovr6 :: k)) cs) w := by
  obtain ⟨hsz, h0, h1, h5, h6, h7, h8, h9, h10, h29, h30, _⟩ := hA
  obtain ⟨s, rfl⟩ := ovT_of hsz
  change s 0 = _ at h0
  change s 1 = _ at h1
  change s 5 = _ at h5
  change s 6 = _ at h6
  change s 7 = _ at h7
  change s 8 = _ at h8
  change s 9 = _ at h9
  change s 10 = _ at h10
  change s 29 = _ at h29
  change s 30 = _ at h30
  clear hsz
  simp only [ovT, h0, h1, h5, h6, h7, h8, h9, h10, h29, h30]
  clear h0 h1 h5 h6 h7 h8 h9 h10 h29 h30
  have hS : ∀ u d, ST F nn n tv tb bk br slv u → ST F nn n tv tb bk br slv (World.at u d) := fun u d h => h.at d
  have htop := hs.top
  rw [ovr6_eq]
  refine own_drawnM (ST F nn n tv tb bk br slv) (last := 13) run_mixed (ll_of (by kernel_rfl)) (by decide) ?_
  simp only [ovo6, Code.opsOf, ovr6, Code.piece, ovBody, Try.f82, Option.getD_some, List.size_toArray, List.length_cons, List.length_nil, Nat.reduceAdd, Nat.zero_add, List.range, List.range.loop]
  have hZ : ∀ a u d, Own Try.prog main F Stop (G ((Go.Conc.base 82).at a (.inRegion ovo6 [13] :: k)) cs) u → Own Try.prog main F Stop (G ((Go.Conc.base 82).at a (.inRegion ovo6 [13] :: k)) cs) (World.at u d) := fun a u d h => h.at d
  simp only [ovo6, Code.opsOf, ovr6, Code.piece, ovBody, Try.f82, Option.getD_some, List.size_toArray, List.length_cons, List.length_nil, Nat.reduceAdd, Nat.zero_add, List.range, List.range.loop] at hZ
  refine anyM_take hS hZ (i := 0) (v := .pointer (some ⟨tb, 0, none⟩)) hs rfl rfl (by kernel_rfl) (by kernel_rfl) (by kernel_rfl) (fun u hu => .inl ⟨rfl, fun d => ⟨by simp [go_sem, execOp, Act.eval, hu.c1, hu.z1], fun e he => by have hm := mem_listed he; simp [go_sem, execOp, Act.eval, hu.c1, hu.z1] at hm; subst hm; exact evT_read _ _⟩⟩) ?_
  walk_nrm
  refine anyM_take hS hZ (i := 1) (v := .pointer (some ⟨tb, 0, none⟩)) hs rfl rfl (by kernel_rfl) (by kernel_rfl) (by kernel_rfl) (fun u hu => .inl ⟨rfl, fun d => ⟨by simp [go_sem, execOp, Act.eval, hu.c1, hu.z1], fun e he => by have hm := mem_listed he; simp [go_sem, execOp, Act.eval, hu.c1, hu.z1] at hm; subst hm; exact evT_read _ _⟩⟩) ?_
  walk_nrm
  refine anyM_take hS hZ (i := 2) (v := .pointer (some ⟨tb, 0, none⟩)) hs rfl rfl (by kernel_rfl) (by kernel_rfl) (by kernel_rfl) (fun u hu => .inl ⟨rfl, fun d => ⟨by simp [go_sem, execOp, Act.eval], fun e he => by have hm := mem_listed he; simp [go_sem, execOp, Act.eval] at hm⟩⟩) ?_
  walk_nrm
  refine anyM_take hS hZ (i := 3) (v := .pointer (some ⟨tb, 1, none⟩)) hs rfl rfl (by kernel_rfl) (by kernel_rfl) (by kernel_rfl) (fun u hu => .inl ⟨rfl, fun d => ⟨by simp [go_sem, execOp, Act.eval], fun e he => by have hm := mem_listed he; simp [go_sem, execOp, Act.eval] at hm⟩⟩) ?_
  walk_nrm
  refine anyM_take hS hZ (i := 4) (v := slv) hs rfl rfl (by kernel_rfl) (by kernel_rfl) (by kernel_rfl) (fun u hu => .inl ⟨rfl, fun d => ⟨by simp [go_sem, execOp, Act.eval, hu.c2, hu.z2], fun e he => by have hm := mem_listed he; simp [go_sem, execOp, Act.eval, hu.c2, hu.z2] at hm; subst hm; exact evT_read _ _⟩⟩) ?_
  walk_nrm
  refine anyM_take hS hZ (i := 5) (v := .pointer (some ⟨tb, 0, none⟩)) hs rfl rfl (by kernel_rfl) (by kernel_rfl) (by kernel_rfl) (fun u hu => .inl ⟨rfl, fun d => ⟨by simp [go_sem, execOp, Act.eval, hu.c1, hu.z1], fun e he => by have hm := mem_listed he; simp [go_sem, execOp, Act.eval, hu.c1, hu.z1] at hm; subst hm; exact evT_read _ _⟩⟩) ?_
  walk_nrm
  refine anyM_all (r := [6]) (by kernel_rfl) (by kernel_rfl) (fun i hi hil => ?_)
  simp only [List.mem_cons, List.not_mem_nil, or_false] at hi
  subst hi
  refine opm_k rfl rfl (fun d K' hK' => ?_)
  go_simp
  refine hK' _ _ ⟨⟨⟨0, grew_alloc hU (hs.at d).top _⟩, fun e he => by (have hm := mem_listed he; simp [go_sem] at hm)⟩, (hs.at d).alloc hU _, ?_⟩
  clear hK' K'
  rw [alloc_at']
  refine anyM_at hS hZ _ _ _ _ ?_ d
  replace hs := hs.alloc hU (.chan 0 #[] false 0 0 false)
  refine anyM_take hS hZ (i := 7) (v := .agg #[.pointer (some ⟨tb, 0, none⟩), .chan (some w.heap.size), .bool false]) hs rfl rfl (by kernel_rfl) (by kernel_rfl) (by kernel_rfl) (fun u hu => .inl ⟨rfl, fun d => ⟨by simp [go_sem, execOp, Act.eval], fun e he => by have hm := mem_listed he; simp [go_sem, execOp, Act.eval] at hm⟩⟩) ?_
  walk_nrm
  refine anyM_all (r := [8]) (by kernel_rfl) (by kernel_rfl) (fun i hi hil => ?_)
  simp only [List.mem_cons, List.not_mem_nil, or_false] at hi
  subst hi
  refine opm_k rfl rfl (fun d K' hK' => ?_)
  go_simp
  refine hK' _ _ ⟨⟨⟨0, grew_alloc hU (hs.at d).top _⟩, fun e he => by (have hm := mem_listed he; simp [go_sem] at hm)⟩, (hs.at d).alloc hU _, ?_⟩
  clear hK' K'
  rw [alloc_at']
  refine anyM_at hS hZ _ _ _ _ ?_ d
  replace hs := hs.alloc hU (.cells #[.pointer (some ⟨tb, 0, none⟩), .chan (some w.heap.size), .bool false] 176)
  refine anyM_all (r := [9]) (by kernel_rfl) (by kernel_rfl) (fun i hi hil => ?_)
  simp only [List.mem_cons, List.not_mem_nil, or_false] at hi
  subst hi
  refine opm_k rfl rfl (fun d K' hK' => ?_)
  go_simp
  refine hK' _ _ ⟨⟨⟨0, grew_alloc hU (hs.at d).top _⟩, fun e he => by (have hm := mem_listed he; simp [go_sem] at hm)⟩, (hs.at d).alloc hU _, ?_⟩
  clear hK' K'
  rw [alloc_at']
  refine anyM_at hS hZ _ _ _ _ ?_ d
  replace hs := hs.alloc hU (.cells #[.pointer (some ⟨w.heap.size + 1, 0, none⟩)] 173)
  refine anyM_all (r := [10]) (by kernel_rfl) (by kernel_rfl) (fun i hi hil => ?_)
  simp only [List.mem_cons, List.not_mem_nil, or_false] at hi
  subst hi
  obtain ⟨i0, hi0, hz0, hz1, hz2⟩ := info173
  have hFn : ∀ b, nn ≤ b → F b = none := fun b hb => by
    cases e : F b with
    | none => rfl
    | some z => exact absurd (hU b z e) (by omega)
  have hown4 : ∀ b, Value.ownBlock slv = some b → nn ≤ b → b < w.heap.size := fun b hb _ => (hrow.lt b hb).2
  have hW4 : ∀ r, r < w.heap.size → (((w.alloc (.chan 0 #[] false 0 0 false)).alloc (.cells #[.pointer (some ⟨tb, 0, none⟩), .chan (some w.heap.size), .bool false] 176)).alloc (.cells #[.pointer (some ⟨w.heap.size + 1, 0, none⟩)] 173)).heap[r]? = w.heap[r]? := fun r hr => by
    rw [heap_alloc_lt _ _ (by simp; omega), heap_alloc_lt _ _ (by simp; omega), heap_alloc_lt _ _ hr]
  have hp4 : (((w.alloc (.chan 0 #[] false 0 0 false)).alloc (.cells #[.pointer (some ⟨tb, 0, none⟩), .chan (some w.heap.size), .bool false] 176)).alloc (.cells #[.pointer (some ⟨w.heap.size + 1, 0, none⟩)] 173)).heap[w.heap.size]? = some (.chan 0 #[] false 0 0 false) := by
    rw [heap_alloc_lt _ _ (by simp; omega), heap_alloc_lt _ _ (by simp)]
    exact heap_alloc_new _ _
  have hq4 : (((w.alloc (.chan 0 #[] false 0 0 false)).alloc (.cells #[.pointer (some ⟨tb, 0, none⟩), .chan (some w.heap.size), .bool false] 176)).alloc (.cells #[.pointer (some ⟨w.heap.size + 1, 0, none⟩)] 173)).heap[w.heap.size + 1]? = some (.cells #[.pointer (some ⟨tb, 0, none⟩), .chan (some w.heap.size), .bool false] 176) := by
    rw [heap_alloc_lt _ _ (by simp)]
    have := heap_alloc_new (w.alloc (.chan 0 #[] false 0 0 false)) (.cells #[.pointer (some ⟨tb, 0, none⟩), .chan (some w.heap.size), .bool false] 176)
    simpa using this
  have hn4 := cell_one_new ((w.alloc (.chan 0 #[] false 0 0 false)).alloc (.cells #[.pointer (some ⟨tb, 0, none⟩), .chan (some w.heap.size), .bool false] 176)) (.pointer (some ⟨w.heap.size + 1, 0, none⟩)) 173
  have hsz4 : (((w.alloc (.chan 0 #[] false 0 0 false)).alloc (.cells #[.pointer (some ⟨tb, 0, none⟩), .chan (some w.heap.size), .bool false] 176)).alloc (.cells #[.pointer (some ⟨w.heap.size + 1, 0, none⟩)] 173)).heap.size = w.heap.size + 3 := by simp
  have hz4 : ((w.alloc (.chan 0 #[] false 0 0 false)).alloc (.cells #[.pointer (some ⟨tb, 0, none⟩), .chan (some w.heap.size), .bool false] 176)).heap.size = w.heap.size + 1 + 1 := by simp
  rw [hz4] at hn4
  clear hz4
  generalize ((w.alloc (.chan 0 #[] false 0 0 false)).alloc (.cells #[.pointer (some ⟨tb, 0, none⟩), .chan (some w.heap.size), .bool false] 176)).alloc (.cells #[.pointer (some ⟨w.heap.size + 1, 0, none⟩)] 173) = W4 at *
  refine opm_lift (S' := fun _ => false) (px := false) (ready0.shut false) (by simp) rfl rfl rfl hs.wf (fun d => ?_)
  have hrowm : (mask F (W4.at d)).ownsRow nn 173 1 slv i xs := ownsRow_same2 hrow fun b hb hbn => by
    rw [mask_at_none (hFn b hbn)]
    exact hW4 b (hown4 b hb hbn)
  obtain ⟨v', u, hr, hown, hgrow, _⟩ := run_append_own (P := Try.prog) (mask F (W4.at d)) nn 170 170 173 i0 (.pointer none) 1 8 Try.underlying170 hi0 hz0 hz1 hz2 rfl (by decide) slv i xs hrowm ⟨w.heap.size + 1 + 1, 0, none⟩ 1 1 [.pointer (some ⟨w.heap.size + 1, 0, none⟩)] rfl
    (fun j u hu => (mask_at_cell _).trans (hn4 j u hu)) (fun x hx => by simp at hx; subst hx; rfl) (by unfold maxLen; omega) (by omega) (by rw [mask_size]; show nn ≤ W4.heap.size; omega)
  refine ⟨v', u, run_append_op (.tmp 36) (.tmp 41) 170 rfl rfl rfl hr, fun w' hu hg hwf' => ?_⟩
  subst hu
  have hkeep : ∀ r, nn ≤ r → r < w.heap.size + 3 → some r ≠ Value.ownBlock slv → w'.heap[r]? = W4.heap[r]? := fun r h1 h2 h3 => by
    have := hgrow.block r (by rw [mask_size]; show r < W4.heap.size; omega) h3
    rw [mask_at_none (hFn r h1), mask_at_none (hFn r h1)] at this
    exact this
  have htvl := (Array.getElem?_eq_some_iff.1 hs.tvc).1
  have ntv := own_type hrowm ((mask_at_none (hFn tv hlow.1)).trans (show (W4.at d).heap[tv]? = _ from hs.tvc)) (by decide)
  have ntb := own_type hrowm ((mask_at_none (hFn tb hlow.2)).trans (show (W4.at d).heap[tb]? = _ from hs.tbc)) (by decide)
  have np := own_chan hrowm ((mask_at_none (hFn w.heap.size htop)).trans (show (W4.at d).heap[w.heap.size]? = _ from hp4))
  have nq := own_type hrowm ((mask_at_none (hFn (w.heap.size + 1) (by omega))).trans (show (W4.at d).heap[w.heap.size + 1]? = _ from hq4)) (by decide)
  have hsize : w.heap.size + 3 ≤ w'.heap.size := by
    have := hgrow.size
    rw [mask_size, mask_size] at this
    have h2 : (W4.at d).heap.size = w.heap.size + 3 := hsz4
    omega
  have htv4 := (Array.getElem?_eq_some_iff.1 hs.tvc).1
  have htb4 := (Array.getElem?_eq_some_iff.1 hs.tbc).1
  have hst' : ST F nn n tv tb bk br slv w' := ⟨by omega, hwf', (hkeep tv hlow.1 (by omega) ntv).trans hs.tvc, (hkeep tb hlow.2 (by omega) ntb).trans hs.tbc⟩
  obtain ⟨b1, cap1, cur1, rfl, hb1, hb2⟩ := slice_form2 hown
  have hb3 : w'.heap[b1]? = some (.cells cur1 173 (0, 0)) := by rw [mask_at_none (hFn b1 hb1)] at hb2; exact hb2
  have hrow' : w'.ownsRow nn 173 1 (.slice (some ⟨b1, 0, none⟩) (i + 1) cap1) (i + 1) (xs ++ [.pointer (some ⟨w.heap.size + 1, 0, none⟩)]) := ownsRow_same2 hown fun b hb hbn => (mask_at_none (hFn b hbn)).symm
  have nb1 : b1 ≠ tb := by
    rintro rfl
    rw [hst'.tbc] at hb3
    cases hb3
  have htt : tv ≠ tb := by
    rintro rfl
    have := hst'.tbc
    rw [hst'.tvc] at this
    cases this
  refine ⟨hst', ?_⟩
  clear hs
  have hs := hst'
  walk_nrm
  refine anyM_take hS hZ (i := 11) (v := .pointer (some ⟨tb, 0, none⟩)) hs rfl rfl (by kernel_rfl) (by kernel_rfl) (by kernel_rfl) (fun u hu => .inl ⟨rfl, fun d => ⟨by simp [go_sem, execOp, Act.eval], fun e he => by have hm := mem_listed he; simp [go_sem, execOp, Act.eval] at hm⟩⟩) ?_
  walk_nrm
  refine anyM_take hS hZ (i := 12) (v := .pointer (some ⟨tb, 1, none⟩)) hs rfl rfl (by kernel_rfl) (by kernel_rfl) (by kernel_rfl) (fun u hu => .inl ⟨rfl, fun d => ⟨by simp [go_sem, execOp, Act.eval], fun e he => by have hm := mem_listed he; simp [go_sem, execOp, Act.eval] at hm⟩⟩) ?_
  walk_nrm
  refine anyM_end (by kernel_rfl) ?_ _
  have ctb := hst'.c2
  have ztb := hst'.z2
  have htb1 := hlow.2
  have hnh : ¬ held F ⟨tb, 1, none⟩ := not_held hU htb1
  clear hZ hS hn4 hr hown hgrow hrowm
  (refine oW fun dd K hK => ?_; go_simp; refine hK _ _ ⟨⟨⟨0, grew_setCell rfl hnh _⟩, fun e he => by (have hm := mem_listed he; clear he hK; simp [go_sem, storedEv, ctb, ztb] at hm; subst hm; exact evT_write _ _ hnh)⟩, ?_⟩; clear hK K; rw [setCell_at']; refine Own.at ?_ dd)
  refine ogE ?_
  refine h _ (.slice (some ⟨b1, 0, none⟩) (i + 1) cap1) (w.heap.size) (w.heap.size + 1) _ ?_ ⟨rfl, rfl, rfl, rfl, rfl, rfl, rfl, rfl, rfl, rfl, rfl, trivial⟩
  refine ⟨⟨by simp; omega, hwf'.of_grew (grew_setCell rfl (not_held hU hlow.2) _), (heap_setCell_ne _ _ _ htt).trans hst'.tvc, by simp [World.setCell, Array.getElem?_modify, hst'.tbc]⟩, ownsRow_same2 hrow' fun b hb _ => heap_setCell_ne _ _ _ (by simp only [Value.ownBlock, Option.some.injEq] at hb; subst hb; exact nb1), ?_, ?_, rfl, rfl, by simp; omega, fun r h1 h2 h3 h4 => ?_⟩
  · refine (heap_setCell_ne _ _ _ ?_).trans ((hkeep _ htop (by omega) np).trans hp4)
    rintro rfl
    have := hst'.tbc
    rw [hkeep _ htop (by omega) np, hp4] at this
    cases this
  · refine (heap_setCell_ne _ _ _ ?_).trans ((hkeep _ (by omega) (by omega) nq).trans hq4)
    intro e
    simp only at e
    have := hst'.tbc
    rw [← e, hkeep _ (by omega) (by omega) nq, hq4] at this
    cases this
  · rw [heap_setCell_ne _ _ _ h3, hkeep r h1 (by omega) h4, hW4 r h2]
end Go.Proofs.Ytlcgkpapnpdfpaa
namespace Go.Proofs.Ytlcgkpapnpdfpaa
open Go Go.Conc Go.RowKit Go.Proofs
variable {F : Fz} {w w' : World}
set_option maxRecDepth 100000 in
set_option maxHeartbeats 2000000 in
theorem ov_w2 {n mo od nb tv : Nat} {thr sch : Value} (hc : w.cell? ⟨nb, 0, none⟩ = some (.int .i64 n)) (hz : w.frozen? ⟨nb, 0, none⟩ = false) {A : Array Value} (hA : Slots 129 A [(0, thr), (1, sch), (5, .pointer (some ⟨mo, 0, none⟩)), (6, .pointer (some ⟨od, 0, none⟩)), (7, .bool false), (8, .slice none 0 0), (9, .pointer (some ⟨nb, 0, none⟩)), (10, .pointer (some ⟨tv, 0, none⟩))]) {cs : List Frame} {main : Bool} {Stop : Goroutine → World → Prop}
    (h : ∀ A, Slots 129 A [(0, thr), (1, sch), (5, .pointer (some ⟨mo, 0, none⟩)), (6, .pointer (some ⟨od, 0, none⟩)), (7, .bool false), (8, .slice none 0 0), (9, .pointer (some ⟨nb, 0, none⟩)), (10, .pointer (some ⟨tv, 0, none⟩)), (29, .int .i64 n), (30, .int .i64 (0 : Nat))] → Own Try.prog main F Stop (G ((Go.Conc.base 82).at ⟨A, []⟩ [.code ovs7, .inLoop ovs7, .inBlock 0, .code ovs10]) cs) w) : Own Try.prog main F Stop (G ((Go.Conc.base 82).at ⟨A, []⟩ [.code ovs4]) cs) w := by
  obtain ⟨hsz, h0, h1, h5, h6, h7, h8, h9, h10, _⟩ := hA
  obtain ⟨s, rfl⟩ := ovT_of hsz
  change s 0 = _ at h0
  change s 1 = _ at h1
  change s 5 = _ at h5
  change s 6 = _ at h6
  change s 7 = _ at h7
  change s 8 = _ at h8
  change s 9 = _ at h9
  change s 10 = _ at h10
  clear hsz
  simp only [ovT, h0, h1, h5, h6, h7, h8, h9, h10]
  clear h0 h1 h5 h6 h7 h8 h9 h10
  rw [ovs4_eq]
  refine ogS ?_
  rw [ovs5_eq]
  refine ogS ?_
  rw [ovr4_eq]
  refine ogR ?_
  simp only [ovo4, Code.opsOf, ovr4, Code.piece, ovBody, Try.f82, Option.getD_some, List.size_toArray, List.length_cons, List.length_nil, Nat.reduceAdd, Nat.zero_add, List.range, List.range.loop]
  (refine oW fun dd K hK => ?_; go_simp; refine qL hK ?_; clear hK K)
  (refine oW fun dd K hK => ?_; go_simp; refine qT hK ?_; clear hK K)
  refine ogE ?_
  rw [ovb0_eq]
  refine ogB ?_
  rw [ovl6_eq]
  refine ogP ?_
  refine h _ ?_
  exact ⟨rfl, rfl, rfl, rfl, rfl, rfl, rfl, rfl, rfl, rfl, rfl, trivial⟩
set_option maxRecDepth 100000 in
set_option maxHeartbeats 2000000 in
theorem ov_w3 {n mo od nb tv : Nat} {thr sch : Value} {i : Nat} (hi : i < n) {A : Array Value} (hA : Slots 129 A [(0, thr), (1, sch), (5, .pointer (some ⟨mo, 0, none⟩)), (6, .pointer (some ⟨od, 0, none⟩)), (7, .bool false), (8, .slice none 0 0), (9, .pointer (some ⟨nb, 0, none⟩)), (10, .pointer (some ⟨tv, 0, none⟩)), (29, .int .i64 n), (30, .int .i64 i)]) {cs : List Frame} {main : Bool} {Stop : Goroutine → World → Prop}
    (h : ∀ A, Slots 129 A [(0, thr), (1, sch), (5, .pointer (some ⟨mo, 0, none⟩)), (6, .pointer (some ⟨od, 0, none⟩)), (7, .bool false), (8, .slice none 0 0), (9, .pointer (some ⟨nb, 0, none⟩)), (10, .pointer (some ⟨tv, 0, none⟩)), (29, .int .i64 n), (30, .int .i64 i)] → Own Try.prog main F Stop (G ((Go.Conc.base 82).at ⟨A, []⟩ [.code ovr6, .inBlock 1, .code ovr7, .inLoop ovs7, .inBlock 0, .code ovs10]) cs) w) : Own Try.prog main F Stop (G ((Go.Conc.base 82).at ⟨A, []⟩ [.code ovs7, .inLoop ovs7, .inBlock 0, .code ovs10]) cs) w := by
  obtain ⟨hsz, h0, h1, h5, h6, h7, h8, h9, h10, h29, h30, _⟩ := hA
  obtain ⟨s, rfl⟩ := ovT_of hsz
  change s 0 = _ at h0
  change s 1 = _ at h1
  change s 5 = _ at h5
  change s 6 = _ at h6
  change s 7 = _ at h7
  change s 8 = _ at h8
  change s 9 = _ at h9
  change s 10 = _ at h10
  change s 29 = _ at h29
  change s 30 = _ at h30
  clear hsz
  simp only [ovT, h0, h1, h5, h6, h7, h8, h9, h10, h29, h30]
  clear h0 h1 h5 h6 h7 h8 h9 h10 h29 h30
  have hlt : decide ((i : Int) < (n : Int)) = true := by simp; omega
  have hlt2 : decide (i < n) = true := by simp; omega
  rw [ovs7_eq]
  refine ogS ?_
  rw [ovr5_eq]
  refine ogR ?_
  simp only [ovo5, Code.opsOf, ovr5, Code.piece, ovBody, Try.f82, Option.getD_some, List.size_toArray, List.length_cons, List.length_nil, Nat.reduceAdd, Nat.zero_add, List.range, List.range.loop]
  (refine oW fun dd K hK => ?_; go_simp; refine qT hK ?_; clear hK K)
  refine ogE ?_
  rw [ovs8_eq]
  refine ogS ?_
  rw [ovc31_eq]
  refine ogT ?_
  simp only [if_true]
  refine ogK ?_
  rw [ovs9_eq]
  refine ogS ?_
  rw [ovb1_eq]
  refine ogB ?_
  refine h _ ?_
  exact ⟨rfl, rfl, rfl, rfl, rfl, rfl, rfl, rfl, rfl, rfl, rfl, trivial⟩
set_option maxRecDepth 100000 in
set_option maxHeartbeats 2000000 in
theorem ov_w4 {n mo od nb tv : Nat} {thr sch : Value} {i : Nat} (hi : i < 100) {A : Array Value} (hA : Slots 129 A [(0, thr), (1, sch), (5, .pointer (some ⟨mo, 0, none⟩)), (6, .pointer (some ⟨od, 0, none⟩)), (7, .bool false), (8, .slice none 0 0), (9, .pointer (some ⟨nb, 0, none⟩)), (10, .pointer (some ⟨tv, 0, none⟩)), (29, .int .i64 n), (30, .int .i64 i)]) {cs : List Frame} {main : Bool} {Stop : Goroutine → World → Prop}
    (h : ∀ A, Slots 129 A [(0, thr), (1, sch), (5, .pointer (some ⟨mo, 0, none⟩)), (6, .pointer (some ⟨od, 0, none⟩)), (7, .bool false), (8, .slice none 0 0), (9, .pointer (some ⟨nb, 0, none⟩)), (10, .pointer (some ⟨tv, 0, none⟩)), (29, .int .i64 n), (30, .int .i64 (i + 1 : Nat))] → Own Try.prog main F Stop (G ((Go.Conc.base 82).at ⟨A, []⟩ [.code ovs7, .inLoop ovs7, .inBlock 0, .code ovs10]) cs) w) : Own Try.prog main F Stop (G ((Go.Conc.base 82).at ⟨A, []⟩ [.inBlock 1, .code ovr7, .inLoop ovs7, .inBlock 0, .code ovs10]) cs) w := by
  obtain ⟨hsz, h0, h1, h5, h6, h7, h8, h9, h10, h29, h30, _⟩ := hA
  obtain ⟨s, rfl⟩ := ovT_of hsz
  change s 0 = _ at h0
  change s 1 = _ at h1
  change s 5 = _ at h5
  change s 6 = _ at h6
  change s 7 = _ at h7
  change s 8 = _ at h8
  change s 9 = _ at h9
  change s 10 = _ at h10
  change s 29 = _ at h29
  change s 30 = _ at h30
  clear hsz
  simp only [ovT, h0, h1, h5, h6, h7, h8, h9, h10, h29, h30]
  clear h0 h1 h5 h6 h7 h8 h9 h10 h29 h30
  have hk64 : IntKind.i64.wrap ((i : Int) + 1) = (i : Int) + 1 := IntWalk.i64_in _ (by omega)
  refine ogI ?_
  rw [ovr7_eq]
  refine ogR ?_
  simp only [ovo7, Code.opsOf, ovr7, Code.piece, ovBody, Try.f82, Option.getD_some, List.size_toArray, List.length_cons, List.length_nil, Nat.reduceAdd, Nat.zero_add, List.range, List.range.loop]
  (refine oW fun dd K hK => ?_; go_simp; refine qT hK ?_; clear hK K)
  (refine oW fun dd K hK => ?_; go_simp; refine qT hK ?_; clear hK K)
  refine ogE ?_
  refine ogL ?_
  refine h _ ?_
  exact ⟨rfl, rfl, rfl, rfl, rfl, rfl, rfl, rfl, rfl, rfl, rfl, trivial⟩
set_option maxRecDepth 100000 in
set_option maxHeartbeats 2000000 in
theorem ov_w5 {nn : Nat} (hU : Under F nn) (hn : nn ≤ w.heap.size) {n mo od nb tv : Nat} {thr sch : Value} (hb : nb < w.heap.size) (hc : w.cell? ⟨nb, 0, none⟩ = some (.int .i64 n)) (hz : w.frozen? ⟨nb, 0, none⟩ = false) {A : Array Value} (hA : Slots 129 A [(0, thr), (1, sch), (5, .pointer (some ⟨mo, 0, none⟩)), (6, .pointer (some ⟨od, 0, none⟩)), (7, .bool false), (8, .slice none 0 0), (9, .pointer (some ⟨nb, 0, none⟩)), (10, .pointer (some ⟨tv, 0, none⟩)), (29, .int .i64 n), (30, .int .i64 n)]) {cs : List Frame} {main : Bool} {Stop : Goroutine → World → Prop}
    (h : ∀ A, Slots 129 A [(0, thr), (1, sch), (7, .bool false), (46, .int .i64 n), (47, .int .i64 (0 : Nat)), (5, .pointer (some ⟨mo, 0, none⟩)), (6, .pointer (some ⟨od, 0, none⟩)), (8, .slice none 0 0), (9, .pointer (some ⟨nb, 0, none⟩)), (10, .pointer (some ⟨tv, 0, none⟩)), (11, .pointer (some ⟨w.heap.size, 0, none⟩))] → Own Try.prog main F Stop (G ((Go.Conc.base 82).at ⟨A, []⟩ [.code ovs14, .inLoop ovs14, .inBlock 2, .code ovs21]) cs) (w.alloc (.cells #[.int .i64 0] 3))) : Own Try.prog main F Stop (G ((Go.Conc.base 82).at ⟨A, []⟩ [.code ovs7, .inLoop ovs7, .inBlock 0, .code ovs10]) cs) w := by
  obtain ⟨hsz, h0, h1, h5, h6, h7, h8, h9, h10, h29, h30, _⟩ := hA
  obtain ⟨s, rfl⟩ := ovT_of hsz
  change s 0 = _ at h0
  change s 1 = _ at h1
  change s 5 = _ at h5
  change s 6 = _ at h6
  change s 7 = _ at h7
  change s 8 = _ at h8
  change s 9 = _ at h9
  change s 10 = _ at h10
  change s 29 = _ at h29
  change s 30 = _ at h30
  clear hsz
  simp only [ovT, h0, h1, h5, h6, h7, h8, h9, h10, h29, h30]
  clear h0 h1 h5 h6 h7 h8 h9 h10 h29 h30
  have hlt : decide ((n : Int) < (n : Int)) = false := by simp
  have hc' := (cell_alloc w (.cells #[.int .i64 0] 3) ⟨nb, 0, none⟩ hb).trans hc
  have hz' : (w.alloc (.cells #[.int .i64 0] 3)).frozen? ⟨nb, 0, none⟩ = false := by
    have : (w.alloc (.cells #[.int .i64 0] 3)).heap[nb]? = w.heap[nb]? := heap_alloc_lt w _ hb
    unfold World.frozen?
    simp only [this]
    exact hz
  rw [ovs7_eq]
  refine ogS ?_
  rw [ovr5_eq]
  refine ogR ?_
  simp only [ovo5, Code.opsOf, ovr5, Code.piece, ovBody, Try.f82, Option.getD_some, List.size_toArray, List.length_cons, List.length_nil, Nat.reduceAdd, Nat.zero_add, List.range, List.range.loop]
  (refine oW fun dd K hK => ?_; go_simp; refine qT hK ?_; clear hK K)
  refine ogE ?_
  rw [ovs8_eq]
  refine ogS ?_
  rw [ovc31_eq]
  refine ogF ?_
  simp only [Bool.false_eq_true, if_false]
  refine own_go rfl (fun d => stepG_exit rfl) ?_
  rw [ovs10_eq]
  refine ogS ?_
  rw [ovr8_eq]
  refine ogR ?_
  simp only [ovo8, Code.opsOf, ovr8, Code.piece, ovBody, Try.f82, Option.getD_some, List.size_toArray, List.length_cons, List.length_nil, Nat.reduceAdd, Nat.zero_add, List.range, List.range.loop]
  (refine oW fun dd K hK => ?_; go_simp; refine qA hK hU ?_; clear hK K)
  (refine oW fun dd K hK => ?_; go_simp; refine qS hK hU ?_; clear hK K)
  have e1 := set_new w (.int .i64 0) (.int .i64 0) 3
  rw [e1]
  clear e1
  refine ogE ?_
  rw [ovs11_eq]
  refine ogS ?_
  rw [ovs12_eq]
  refine ogS ?_
  rw [ovr9_eq]
  refine ogR ?_
  simp only [ovo9, Code.opsOf, ovr9, Code.piece, ovBody, Try.f82, Option.getD_some, List.size_toArray, List.length_cons, List.length_nil, Nat.reduceAdd, Nat.zero_add, List.range, List.range.loop]
  (refine oW fun dd K hK => ?_; go_simp; refine qL hK ?_; clear hK K)
  (refine oW fun dd K hK => ?_; go_simp; refine qT hK ?_; clear hK K)
  refine ogE ?_
  rw [ovb2_eq]
  refine ogB ?_
  rw [ovl13_eq]
  refine ogP ?_
  refine h _ ?_
  exact ⟨rfl, rfl, rfl, rfl, rfl, rfl, rfl, rfl, rfl, rfl, rfl, rfl, trivial⟩
end Go.Proofs.Ytlcgkpapnpdfpaa
namespace Go.Proofs.Ytlcgkpapnpdfpaa
open Go Go.Conc Go.RowKit Go.Proofs
variable {F : Fz} {w w' : World} {nn n tv tb bk br mo od nb M : Nat} {slv : Value} {sts : List (Nat × Nat)}
structure Stands (F : Fz) (nn n tv tb bk br mo od nb M : Nat) (slv : Value) (sts : List (Nat × Nat)) (w : World) : Prop where
  st : ST F nn n tv tb bk br slv w
  row : w.ownsRow nn 173 1 slv sts.length (sts.map fun s => .pointer (some ⟨s.1, 0, none⟩))
  mem : ∀ s ∈ sts, w.heap[s.1]? = some (.cells #[.pointer (some ⟨tb, 0, none⟩), .chan (some s.2), .bool false] 176) ∧ w.heap[s.2]? = some (.chan 0 #[] false 0 0 false) ∧ nn ≤ s.1 ∧ nn ≤ s.2
  nd1 : (sts.map (·.1)).Nodup
  nd2 : (sts.map (·.2)).Nodup
  bkc : w.heap[bk]? = some (.chan 0 #[] false 0 0 false) ∧ nn ≤ bk ∧ ∀ s ∈ sts, s.2 ≠ bk
  brc : w.heap[br]? = some (.cells (madeCells #[.bool false] n) 4) ∧ nn ≤ br
  moc : w.heap[mo]? = some (.cells #[.int .i64 M] 3) ∧ nn ≤ mo
  odc : w.heap[od]? = some (.cells #[.slice none 0 0] 24) ∧ nn ≤ od
  nbc : w.heap[nb]? = some (.cells #[.int .i64 n] 3) ∧ nn ≤ nb
  low : nn ≤ tv ∧ nn ≤ tb
  mn : mo ≠ nb
theorem Stands.at (h : Stands F nn n tv tb bk br mo od nb M slv sts w) (d : Nat) : Stands F nn n tv tb bk br mo od nb M slv sts (w.at d) :=
  ⟨h.st.at d, h.row, h.mem, h.nd1, h.nd2, h.bkc, h.brc, h.moc, h.odc, h.nbc, h.low, h.mn⟩
theorem Stands.next (h : Stands F nn n tv tb bk br mo od nb M slv sts w) {v' : Value} {p q : Nat} (k : Stood F nn n tv tb bk br sts.length slv (sts.map fun s => .pointer (some ⟨s.1, 0, none⟩)) w w' v' p q) :
    Stands F nn n tv tb bk br mo od nb M v' (sts ++ [(q, p)]) w' := by
  have hcell : ∀ r c e z, w.heap[r]? = some (.cells c e z) → nn ≤ r → e ≠ 173 → e ≠ 172 → w'.heap[r]? = some (.cells c e z) := fun r c e z h1 h2 h3 h4 =>
    (k.old r h2 (Array.getElem?_eq_some_iff.1 h1).1 (by rintro rfl; rw [h.st.tbc] at h1; cases h1; exact h4 rfl) (own_type h.row h1 (Ne.symm h3))).trans h1
  have hchan : ∀ r, w.heap[r]? = some (.chan 0 #[] false 0 0 false) → nn ≤ r → w'.heap[r]? = some (.chan 0 #[] false 0 0 false) := fun r h1 h2 =>
    (k.old r h2 (Array.getElem?_eq_some_iff.1 h1).1 (by rintro rfl; rw [h.st.tbc] at h1; cases h1) (own_chan h.row h1)).trans h1
  have hlt1 : ∀ s ∈ sts, s.1 < w.heap.size ∧ s.2 < w.heap.size := fun s hs => ⟨(Array.getElem?_eq_some_iff.1 (h.mem s hs).1).1, (Array.getElem?_eq_some_iff.1 (h.mem s hs).2.1).1⟩
  have htop := h.st.top
  have hp := k.pl
  have hq := k.ql
  refine ⟨k.st, ?_, fun s hs => ?_, ?_, ?_, ⟨hchan _ h.bkc.1 h.bkc.2.1, h.bkc.2.1, fun s hs => ?_⟩, ⟨hcell _ _ _ _ h.brc.1 h.brc.2 (by decide) (by decide), h.brc.2⟩, ⟨hcell _ _ _ _ h.moc.1 h.moc.2 (by decide) (by decide), h.moc.2⟩, ⟨hcell _ _ _ _ h.odc.1 h.odc.2 (by decide) (by decide), h.odc.2⟩, ⟨hcell _ _ _ _ h.nbc.1 h.nbc.2 (by decide) (by decide), h.nbc.2⟩, h.low, h.mn⟩
  · have := k.row
    simpa using this
  · rcases List.mem_append.1 hs with hs | hs
    · obtain ⟨h1, h2, h3, h4⟩ := h.mem s hs
      exact ⟨hcell _ _ _ _ h1 h3 (by decide) (by decide), hchan _ h2 h4, h3, h4⟩
    · simp only [List.mem_singleton] at hs
      subst hs
      exact ⟨k.qc, k.pc, by simp only; omega, by simp only; omega⟩
  · rw [List.map_append, List.nodup_append]
    refine ⟨h.nd1, by simp, fun a ha b hb => ?_⟩
    obtain ⟨s, hs, rfl⟩ := List.mem_map.1 ha
    simp only [List.map_cons, List.map_nil, List.mem_singleton] at hb
    have := (hlt1 s hs).1
    omega
  · rw [List.map_append, List.nodup_append]
    refine ⟨h.nd2, by simp, fun a ha b hb => ?_⟩
    obtain ⟨s, hs, rfl⟩ := List.mem_map.1 ha
    simp only [List.map_cons, List.map_nil, List.mem_singleton] at hb
    have := (hlt1 s hs).2
    omega
  · rcases List.mem_append.1 hs with hs | hs
    · exact h.bkc.2.2 s hs
    · simp only [List.mem_singleton] at hs
      subst hs
      have := (Array.getElem?_eq_some_iff.1 h.bkc.1).1
      simp only
      omega
theorem ov_stands (hU : Under F nn) (hn64 : n ≤ 64) {thr sch : Value} {cs : List Frame} {main : Bool} {Stop : Goroutine → World → Prop}
    (hk : ∀ (w : World) slv sts A, Stands F nn n tv tb bk br mo od nb M slv sts w → sts.length = n → Slots 129 A [(0, thr), (1, sch), (5, .pointer (some ⟨mo, 0, none⟩)), (6, .pointer (some ⟨od, 0, none⟩)), (7, .bool false), (8, .slice none 0 0), (9, .pointer (some ⟨nb, 0, none⟩)), (10, .pointer (some ⟨tv, 0, none⟩)), (29, .int .i64 n), (30, .int .i64 n)] →
      Own Try.prog main F Stop (G ((Go.Conc.base 82).at ⟨A, []⟩ [.code ovs7, .inLoop ovs7, .inBlock 0, .code ovs10]) cs) w) :
    ∀ (k i : Nat), i + k = n → ∀ (w : World) slv sts A, Stands F nn n tv tb bk br mo od nb M slv sts w → sts.length = i → Slots 129 A [(0, thr), (1, sch), (5, .pointer (some ⟨mo, 0, none⟩)), (6, .pointer (some ⟨od, 0, none⟩)), (7, .bool false), (8, .slice none 0 0), (9, .pointer (some ⟨nb, 0, none⟩)), (10, .pointer (some ⟨tv, 0, none⟩)), (29, .int .i64 n), (30, .int .i64 i)] →
      Own Try.prog main F Stop (G ((Go.Conc.base 82).at ⟨A, []⟩ [.code ovs7, .inLoop ovs7, .inBlock 0, .code ovs10]) cs) w := by
  intro k
  induction k with
  | zero =>
    intro i hi w slv sts A h hl hA
    obtain rfl : i = n := by omega
    exact hk w slv sts A h hl hA
  | succ k ih =>
    intro i hi w slv sts A h hl hA
    refine ov_w3 (by omega) hA fun A hA => ?_
    have hrow := h.row
    subst hl
    refine ov_s6 hU h.st hrow (by omega) h.low hA fun w' v' p q A hS hA => ?_
    refine ov_w4 (by omega) hA fun A hA => ?_
    exact ih (sts.length + 1) (by omega) w' v' (sts ++ [(q, p)]) A (h.next hS) (by simp) hA
structure Made (nn M : Nat) (g : Gate) (v : Mine) (w : World) : Prop where
  ok : g.Ok
  lie : ∀ a u, g.Place a u → Lies w a u
  top : g.top ≤ w.heap.size
  sln : ∃ a, g.sl = .slice a g.n g.sc
  over : ∀ j, j < g.n → Lies w ⟨g.st j, 2, none⟩ (.bool false)
  brk : ∀ j, j < g.n → Lies w ⟨g.br, j, none⟩ (.bool false)
  chans : ∀ c, g.Chan c → w.heap[c]? = some (.chan 0 #[] false 0 0 false) ∧ nn ≤ c
  place : ∀ a u, g.Place a u → nn ≤ a.block
  st : ∀ j, j < g.n → nn ≤ g.st j ∧ g.st j < w.heap.size
  br : nn ≤ g.br ∧ g.br < w.heap.size
  mo : w.heap[v.mo]? = some (.cells #[.int .i64 M] 3)
  od : w.heap[v.od]? = some (.cells #[.slice none 0 0] 24)
  n : w.heap[v.n]? = some (.cells #[.int .i64 g.n] 3)
  lf : w.heap[v.lf]? = some (.cells #[.int .i64 (0 : Nat)] 3)
  low : nn ≤ v.mo ∧ nn ≤ v.od ∧ nn ≤ v.n ∧ nn ≤ v.lf
  dn : v.mo ≠ v.n ∧ v.lf ≠ v.n ∧ v.lf ≠ v.mo
  alone : ∀ b c e, w.heap[b]? = some (.cells c e (0, 0)) → e = 3 ∨ e = 24 → (∀ j, j < g.n → b ≠ g.st j) ∧ b ≠ g.br ∧ ∀ a u, g.Place a u → b ≠ a.block
theorem madeCells_get (n j : Nat) (h : j < n) : (madeCells #[Value.bool false] n)[j]? = some (.bool false) := by
  simp [madeCells, h, Nat.mod_one]
theorem nodup_inj {α : Type} {l : List α} (h : l.Nodup) {i j : Nat} (hi : i < l.length) (hj : j < l.length) (e : l[i] = l[j]) : i = j := by
  have := List.pairwise_iff_getElem.1 h
  rcases Nat.lt_trichotomy i j with h1 | h1 | h1
  · exact absurd e (this i j hi hj h1)
  · exact h1
  · exact absurd e.symm (this j i hj hi h1)
theorem made_of {A : Anchor} (hF : A.b ≤ nn) {slv : Value} {sts : List (Nat × Nat)} (h : Stands F nn n tv tb bk br mo od nb M slv sts w) (hl : sts.length = n) :
    ∃ g : Gate, g.an = A ∧ g.n = n ∧ g.tv = tv ∧ Made nn M g ⟨mo, od, nb, w.heap.size⟩ (w.alloc (.cells #[.int .i64 (0 : Nat)] 3)) := by
  have hk : ∀ r o, w.heap[r]? = some o → (w.alloc (.cells #[.int .i64 (0 : Nat)] 3)).heap[r]? = some o := fun r o hr => (heap_alloc_lt _ _ (Array.getElem?_eq_some_iff.1 hr).1).trans hr
  obtain ⟨sa, sc, hrow⟩ : ∃ sa sc, (0 < n → slv = .slice (some ⟨sa, 0, none⟩) n sc ∧ nn ≤ sa ∧ ∃ cur, w.heap[sa]? = some (.cells cur 173 (0, 0)) ∧ ∀ j, j < n → cur[j]? = some (.pointer (some ⟨(sts.getD j (0, 0)).1, 0, none⟩))) ∧ ∃ a, slv = .slice a n sc := by
    rcases h.row.2 with ⟨h1, h2⟩ | ⟨b, cap, cur, h1, h2, h3, h4, h5, h6, h7⟩
    · exact ⟨0, 0, fun h0 => by omega, none, by rw [h1, ← hl, h2]⟩
    · rw [hl] at h1 h4 h7
      refine ⟨b, cap, fun h0 => ⟨h1, h2, cur, h3, fun j hj => ?_⟩, some ⟨b, 0, none⟩, h1⟩
      have h8 := congrArg (·[j]?) h7
      simp only [Nat.mul_one, List.getElem?_take, if_pos hj, Array.getElem?_toList] at h8
      rw [h8]
      have hj' : j < sts.length := by omega
      simp [hj', List.getD_eq_getElem?_getD]
  obtain ⟨hrow1, a0, hrow2⟩ := hrow
  have hmem : ∀ j, j < n → sts.getD j (0, 0) ∈ sts := fun j hj => by
    have hj' : j < sts.length := by omega
    simp [List.getD_eq_getElem?_getD, hj']
  have hinj1 : ∀ i j, i < n → j < n → (sts.getD i (0, 0)).1 = (sts.getD j (0, 0)).1 → i = j := fun i j hi hj e => by
    have hi' : i < sts.length := by omega
    have hj' : j < sts.length := by omega
    simp only [List.getD_eq_getElem?_getD, List.getElem?_eq_getElem hi', List.getElem?_eq_getElem hj', Option.getD_some] at e
    exact nodup_inj h.nd1 (by simpa using hi') (by simpa using hj') (by simpa using e)
  have hinj2 : ∀ i j, i < n → j < n → (sts.getD i (0, 0)).2 = (sts.getD j (0, 0)).2 → i = j := fun i j hi hj e => by
    have hi' : i < sts.length := by omega
    have hj' : j < sts.length := by omega
    simp only [List.getD_eq_getElem?_getD, List.getElem?_eq_getElem hi', List.getElem?_eq_getElem hj', Option.getD_some] at e
    exact nodup_inj h.nd2 (by simpa using hi') (by simpa using hj') (by simpa using e)
  let g : Gate := { tv := tv, tb := tb, bk := bk, sa := sa, sc := sc, br := br, n := n, sl := slv, bl := .slice (some ⟨br, 0, none⟩) n n, st := fun j => (sts.getD j (0, 0)).1, pc := fun j => (sts.getD j (0, 0)).2, top := w.heap.size, an := A }
  have hstm : ∀ j, j < n → w.heap[(sts.getD j (0, 0)).1]? = some (.cells #[.pointer (some ⟨tb, 0, none⟩), .chan (some (sts.getD j (0, 0)).2), .bool false] 176) := fun j hj => (h.mem _ (hmem j hj)).1
  have hlt : ∀ r o, w.heap[r]? = some o → r < w.heap.size := fun r o hr => (Array.getElem?_eq_some_iff.1 hr).1
  have hplace : ∀ a u, g.Place a u → ∃ c e, w.heap[a.block]? = some (.cells c e (0, 0)) ∧ c[a.off]? = some u ∧ a.spot = none ∧ nn ≤ a.block ∧ (e = 168 ∨ e = 172 ∨ e = 173 ∨ e = 176) ∧ (e = 176 → a.off < 2) := by
    intro a u p
    cases p with
    | tv => exact ⟨_, _, h.st.tvc, rfl, rfl, h.low.1, by simp, by simp⟩
    | back => exact ⟨_, _, h.st.tbc, rfl, rfl, h.low.2, by simp, by simp⟩
    | stands => exact ⟨_, _, h.st.tbc, rfl, rfl, h.low.2, by simp, by simp⟩
    | broken => exact ⟨_, _, h.st.tbc, rfl, rfl, h.low.2, by simp, by simp⟩
    | stand i hi =>
      obtain ⟨_, h2, cur, h3, h4⟩ := hrow1 (Nat.lt_of_le_of_lt (Nat.zero_le _) hi)
      exact ⟨cur, 173, h3, h4 i hi, rfl, h2, by simp, by simp⟩
    | gate i hi => exact ⟨_, _, hstm i hi, rfl, rfl, (h.mem _ (hmem i hi)).2.2.1, by simp, by simp⟩
    | pass i hi => exact ⟨_, _, hstm i hi, rfl, rfl, (h.mem _ (hmem i hi)).2.2.1, by simp, by simp⟩
  have hchan : ∀ c, g.Chan c → w.heap[c]? = some (.chan 0 #[] false 0 0 false) ∧ nn ≤ c := by
    rintro c (rfl | ⟨i, hi, rfl⟩)
    · exact ⟨h.bkc.1, h.bkc.2.1⟩
    · exact ⟨(h.mem _ (hmem i hi)).2.1, (h.mem _ (hmem i hi)).2.2.2⟩
  refine ⟨g, rfl, rfl, rfl, ⟨⟨fun a u c p hc => ?_, fun c hc => Nat.le_trans hF (hchan c hc).2, fun a u p => ?_, fun c hc => hlt _ _ (hchan c hc).1, hinj2, fun i hi => h.bkc.2.2 _ (hmem i hi), fun h0 => (hrow1 h0).1, fun _ => rfl, fun a u p => ?_, fun i a u hi p e => ?_, fun i hi e => ?_, fun _ => hlt _ _ h.brc.1, hinj1⟩, fun a u p => ?_, by simp [g], ⟨a0, hrow2⟩, fun j hj => ⟨⟨_, _, hk _ _ (hstm j hj), rfl⟩, rfl⟩, fun j hj => ⟨⟨_, _, hk _ _ h.brc.1, madeCells_get n j hj⟩, rfl⟩,
    fun c hc => ⟨hk _ _ (hchan c hc).1, (hchan c hc).2⟩, fun a u p => ?_, fun j hj => ⟨(h.mem _ (hmem j hj)).2.2.1, by have := hlt _ _ (hstm j hj); simp only [World.size_alloc, g]; omega⟩, ⟨h.brc.2, by have := hlt _ _ h.brc.1; simp only [World.size_alloc, g]; omega⟩, hk _ _ h.moc.1, hk _ _ h.odc.1, hk _ _ h.nbc.1, heap_alloc_new _ _,
    ⟨h.moc.2, h.odc.2, h.nbc.2, h.st.top⟩, ⟨h.mn, ?_, ?_⟩, fun b c e hb he => ?_⟩⟩
  · obtain ⟨c', e, h1, _⟩ := hplace a u p
    rintro rfl
    rw [(hchan _ hc).1] at h1
    cases h1
  · obtain ⟨c', e, h1, _⟩ := hplace a u p
    exact hlt _ _ h1
  · obtain ⟨c', e, h1, _, _, _, h2, _⟩ := hplace a u p
    intro e1
    have := h.brc.1
    rw [show br = a.block from e1, h1] at this
    simp only [Option.some.injEq, Obj.cells.injEq] at this
    rw [this.2.1] at h2
    simp at h2
  · obtain ⟨c', e', h1, _, _, _, _, h2⟩ := hplace a u p
    have h3 := hstm i hi
    rw [show (sts.getD i (0, 0)).1 = a.block from e, h1] at h3
    cases h3
    exact h2 rfl
  · have := h.brc.1
    rw [show br = (sts.getD i (0, 0)).1 from e, hstm i hi] at this
    simp only [Option.some.injEq, Obj.cells.injEq] at this
    exact absurd this.2.1 (by decide)
  · obtain ⟨c', e, h1, h2, h3, _⟩ := hplace a u p
    exact ⟨⟨c', e, hk _ _ h1, h2⟩, h3⟩
  · obtain ⟨c', e, _, _, _, h1, _⟩ := hplace a u p
    exact h1
  · have := hlt _ _ h.nbc.1; simp only; omega
  · have := hlt _ _ h.moc.1; simp only; omega
  · have hfin : ∀ r c' e', w.heap[r]? = some (.cells c' e' (0, 0)) → e' ≠ 3 → e' ≠ 24 → b ≠ r := fun r c' e' h1 h2 h3 h4 => by
      subst h4
      rw [hk _ _ h1] at hb
      cases hb
      rcases he with rfl | rfl
      · exact h2 rfl
      · exact h3 rfl
    refine ⟨fun j hj => hfin _ _ _ (hstm j hj) (by decide) (by decide), hfin _ _ _ h.brc.1 (by decide) (by decide), fun a u p => ?_⟩
    obtain ⟨c', e', h1, _, _, _, h2, _⟩ := hplace a u p
    refine hfin _ _ _ h1 ?_ ?_
    · rintro rfl; simp at h2
    · rintro rfl; simp at h2
end Go.Proofs.Ytlcgkpapnpdfpaa
namespace Go.Proofs.Ytlcgkpapnpdfpaa
open Go Go.Conc Go.RowKit Go.Proofs
variable {g : Gate} {P : Program} {F : Fz} {w w' : World}
theorem setCell_same {a : Nat} {c : Array Value} {e : TypeId} {z : Nat × Nat} {v : Value} (h : w.heap[a]? = some (.cells c e z)) (hv : c[0]? = some v) : w.setCell ⟨a, 0, none⟩ v = w := by
  have hh : (w.setCell ⟨a, 0, none⟩ v).heap = w.heap := by
    apply Array.ext_getElem?
    intro i
    by_cases e1 : i = a
    · subst e1
      have hc0 := (Array.getElem?_eq_some_iff.1 hv).1
      simp only [World.setCell, Array.getElem?_modify, h, if_true, Option.map_some, Option.isSome_none, Bool.false_eq_true, if_false, Option.some.injEq, Obj.cells.injEq, and_true]
      apply Array.ext_getElem?
      intro j
      rw [Array.getElem?_setIfInBounds]
      split
      · rename_i e2; subst e2; first | exact hv.symm | (rw [if_pos hc0]; exact hv.symm)
      · rfl
    · exact heap_setCell_ne _ _ _ e1
  have e : w.setCell ⟨a, 0, none⟩ v = { w with heap := (w.setCell ⟨a, 0, none⟩ v).heap } := rfl
  rw [e, hh]
theorem stepG_leave' {main : Bool} {b : Frame} {a : Act} {cs : List Frame} {fn : Func} {todo : List Item} {c : Frame} {v : Value} (hn : b.kind = .normal) (hd : a.defers = []) (hf : P.funcs[b.fn]? = some fn)
    (hr : (results fn a.tmps).run P w = .ok v w) :
    stepG P main (G { b.at a todo with mode := .returning } (c :: cs)) w = .go (G (c.finish v) cs) w (seen P b.fn ((results fn a.tmps).events P w #[])) := by
  simp [G, stepG, unwind, doReturn, Frame.at, hn, hd, hf, hr, GStep.after]
theorem own_leave {main : Bool} {b : Frame} {a : Act} {cs : List Frame} {fn : Func} {todo : List Item} {c : Frame} {v : Value} {Stop : Goroutine → World → Prop} (hn : b.kind = .normal) (hd : a.defers = []) (hf : P.funcs[b.fn]? = some fn)
    (hr : ∀ d, (results fn a.tmps).run P (w.at d) = .ok v (w.at d)) (he : ∀ d, ∀ e ∈ (results fn a.tmps).events P (w.at d) #[], EvT F e) (h : Own P main F Stop (G (c.finish v) cs) w) :
    Own P main F Stop (G { b.at a todo with mode := .returning } (c :: cs)) w :=
  .step rfl fun d => ⟨_, _, _, stepG_leave' hn hd hf (hr d), ⟨⟨0, Grew.refl _ _⟩, fun e hm => he d e (mem_seen hm)⟩, h.at d⟩
structure SE (g : Gate) (od : Nat) (oa : Option Addr) (ol oc : Nat) (u : World) : Prop where
  hod : ∃ c e, u.heap[od]? = some (.cells c e (0, 0)) ∧ c[0]? = some (.slice oa ol oc)
  t : Lies u ⟨g.tv, 0, none⟩ (.pointer (some ⟨g.tb, 0, none⟩))
  b : Lies u ⟨g.tb, 2, none⟩ g.bl
section
variable {od ol oc : Nat} {oa : Option Addr} {u : World}
theorem SE.at (h : SE g od oa ol oc u) (d : Nat) : SE g od oa ol oc (u.at d) := ⟨h.hod, h.t.at d, h.b.at d⟩
theorem SE.lo (h : SE g od oa ol oc u) : Lies u ⟨od, 0, none⟩ (.slice oa ol oc) := by obtain ⟨c, e, h1, h2⟩ := h.hod; exact ⟨⟨c, e, h1, h2⟩, rfl⟩
theorem SE.co (h : SE g od oa ol oc u) : u.cell? ⟨od, 0, none⟩ = some (.slice oa ol oc) := h.lo.c
theorem SE.zo (h : SE g od oa ol oc u) : u.frozen? ⟨od, 0, none⟩ = false := h.lo.z
theorem SE.ct (h : SE g od oa ol oc u) : u.cell? ⟨g.tv, 0, none⟩ = some (.pointer (some ⟨g.tb, 0, none⟩)) := h.t.c
theorem SE.zt (h : SE g od oa ol oc u) : u.frozen? ⟨g.tv, 0, none⟩ = false := h.t.z
theorem SE.cb (h : SE g od oa ol oc u) : u.cell? ⟨g.tb, 2, none⟩ = some (g.bl) := h.b.c
theorem SE.zb (h : SE g od oa ol oc u) : u.frozen? ⟨g.tb, 2, none⟩ = false := h.b.z
end
abbrev F0 : Fz := fun _ => none
set_option maxRecDepth 100000 in
set_option maxHeartbeats 4000000 in
theorem ov_end {v : Mine} {st : Bool} {oa : Option Addr} {ol oc : Nat} (hs : SE g v.od oa ol oc w) {A : Array Value} (hA : Slots 129 A (ovEnds g v st g.n)) {c : Frame} {cs : List Frame} {main : Bool} {Stop : Goroutine → World → Prop}
    (h : Own Try.prog main F0 Stop (G (c.finish (.tuple #[.slice oa ol oc, .bool st, g.bl])) cs) w) : Own Try.prog main F0 Stop (G ((Go.Conc.base 82).at ⟨A, []⟩ [.code ovs48]) (c :: cs)) w := by
  obtain ⟨hsz, h7, h107, h108, h109, h5, h6, h8, h9, h10, h11, _⟩ := hA
  obtain ⟨s, rfl⟩ := ovT_of hsz
  change s 7 = _ at h7
  change s 107 = _ at h107
  change s 108 = _ at h108
  change s 109 = _ at h109
  change s 5 = _ at h5
  change s 6 = _ at h6
  change s 8 = _ at h8
  change s 9 = _ at h9
  change s 10 = _ at h10
  change s 11 = _ at h11
  clear hsz
  simp only [ovT, h7, h107, h108, h109, h5, h6, h8, h9, h10, h11]
  clear h7 h107 h108 h109 h5 h6 h8 h9 h10 h11
  have hS : ∀ u d, SE g v.od oa ol oc u → SE g v.od oa ol oc (World.at u d) := fun u d h => h.at d
  rw [ovs48_eq]
  refine ogS ?_
  rw [ovr36_eq]
  refine own_drawnM (SE g v.od oa ol oc) (last := 8) run_mixed (ll_of (by kernel_rfl)) (by decide) ?_
  simp only [ovo36, Code.opsOf, ovr36, Code.piece, ovBody, Try.f82, Option.getD_some, List.size_toArray, List.length_cons, List.length_nil, Nat.reduceAdd, Nat.zero_add, List.range, List.range.loop]
  have hZ : ∀ a u d, Own Try.prog main F0 Stop (G ((Go.Conc.base 82).at a [.inRegion ovo36 [8], .code .ret]) (c :: cs)) u → Own Try.prog main F0 Stop (G ((Go.Conc.base 82).at a [.inRegion ovo36 [8], .code .ret]) (c :: cs)) (World.at u d) := fun a u d h => h.at d
  simp only [ovo36, Code.opsOf, ovr36, Code.piece, ovBody, Try.f82, Option.getD_some, List.size_toArray, List.length_cons, List.length_nil, Nat.reduceAdd, Nat.zero_add, List.range, List.range.loop] at hZ
  refine anyM_take hS hZ (i := 0) (v := .slice oa ol oc) hs rfl rfl (by kernel_rfl) (by kernel_rfl) (by kernel_rfl) (fun u hu => .inl ⟨rfl, fun d => ⟨by simp [go_sem, execOp, Act.eval, hu.co, hu.zo], fun e he => by have hm := mem_listed he; simp [go_sem, execOp, Act.eval, hu.co, hu.zo] at hm; subst hm; exact evT_read _ _⟩⟩) ?_
  walk_nrm
  refine anyM_take hS hZ (i := 1) (v := .bool st) hs rfl rfl (by kernel_rfl) (by kernel_rfl) (by kernel_rfl) (fun u hu => .inl ⟨rfl, fun d => ⟨by simp [go_sem, execOp, Act.eval], fun e he => by have hm := mem_listed he; simp [go_sem, execOp, Act.eval] at hm⟩⟩) ?_
  walk_nrm
  refine anyM_take hS hZ (i := 2) (v := .pointer (some ⟨g.tb, 0, none⟩)) hs rfl rfl (by kernel_rfl) (by kernel_rfl) (by kernel_rfl) (fun u hu => .inl ⟨rfl, fun d => ⟨by simp [go_sem, execOp, Act.eval, hu.ct, hu.zt], fun e he => by have hm := mem_listed he; simp [go_sem, execOp, Act.eval, hu.ct, hu.zt] at hm; subst hm; exact evT_read _ _⟩⟩) ?_
  walk_nrm
  refine anyM_take hS hZ (i := 3) (v := .pointer (some ⟨g.tb, 0, none⟩)) hs rfl rfl (by kernel_rfl) (by kernel_rfl) (by kernel_rfl) (fun u hu => .inl ⟨rfl, fun d => ⟨by simp [go_sem, execOp, Act.eval], fun e he => by have hm := mem_listed he; simp [go_sem, execOp, Act.eval] at hm⟩⟩) ?_
  walk_nrm
  refine anyM_take hS hZ (i := 4) (v := .pointer (some ⟨g.tb, 2, none⟩)) hs rfl rfl (by kernel_rfl) (by kernel_rfl) (by kernel_rfl) (fun u hu => .inl ⟨rfl, fun d => ⟨by simp [go_sem, execOp, Act.eval], fun e he => by have hm := mem_listed he; simp [go_sem, execOp, Act.eval] at hm⟩⟩) ?_
  walk_nrm
  refine anyM_take hS hZ (i := 5) (v := g.bl) hs rfl rfl (by kernel_rfl) (by kernel_rfl) (by kernel_rfl) (fun u hu => .inl ⟨rfl, fun d => ⟨by simp [go_sem, execOp, Act.eval, hu.cb, hu.zb], fun e he => by have hm := mem_listed he; simp [go_sem, execOp, Act.eval, hu.cb, hu.zb] at hm; subst hm; exact evT_read _ _⟩⟩) ?_
  walk_nrm
  refine anyM_all (r := [6]) (by kernel_rfl) (by kernel_rfl) (fun i hi hil => ?_)
  simp only [List.mem_cons, List.not_mem_nil, or_false] at hi
  subst hi
  refine opm_k rfl rfl (fun d K' hK' => ?_)
  have co := (hs.at d).co
  have zo := (hs.at d).zo
  go_simp
  obtain ⟨cc, ee, hh1, hh2⟩ := (hs.at d).hod
  rw [setCell_same hh1 hh2]
  refine hK' _ _ ⟨⟨⟨0, Grew.refl _ _⟩, fun e he => by (have hm := mem_listed he; clear he hK'; simp [go_sem, storedEv, co, zo] at hm; subst hm; exact evT_write _ _ (not_held' rfl))⟩, hs.at d, ?_⟩
  clear hK' K' co zo
  refine anyM_at hS hZ _ _ _ _ ?_ d
  refine anyM_take hS hZ (i := 7) (v := .bool st) hs rfl rfl (by kernel_rfl) (by kernel_rfl) (by kernel_rfl) (fun u hu => .inl ⟨rfl, fun d => ⟨by simp [go_sem, execOp, Act.eval], fun e he => by have hm := mem_listed he; simp [go_sem, execOp, Act.eval] at hm⟩⟩) ?_
  walk_nrm
  refine anyM_end (by kernel_rfl) ?_ _
  (refine oW fun dd K hK => ?_; go_simp; refine qT hK ?_; clear hK K)
  refine ogE ?_
  refine ogX ?_
  refine own_leave (fn := Try.f82) (v := .tuple #[.slice oa ol oc, .bool st, g.bl]) rfl rfl Try.func82 (fun d => ?_) (fun d e he => ?_) h
  · have co := (hs.at d).co
    simp [results, Try.f82, go_sem, co]
  · have co := (hs.at d).co
    have zo := (hs.at d).zo
    simp [results, Try.f82, go_sem, co, zo] at he
    subst he
    exact evT_read _ _
end Go.Proofs.Ytlcgkpapnpdfpaa
namespace Go.Proofs.Ytlcgkpapnpdfpaa
open Go Go.Conc Go.RowKit Go.Proofs
open Go.ConcN (sumTo upd sumTo_upd upd_ne upd_same)
variable {F : Fz} {w w' : World}
theorem w0_size (w : World) (M n : Nat) : (ovW0 w M n).heap.size = w.heap.size + 3 := by simp [ovW0]
theorem w0_mo (w : World) (M n : Nat) : (ovW0 w M n).heap[w.heap.size]? = some (.cells #[.int .i64 M] 3) := by
  unfold ovW0
  rw [heap_alloc_lt _ _ (by simp; omega), heap_alloc_lt _ _ (by simp)]
  exact heap_alloc_new _ _
theorem w0_od (w : World) (M n : Nat) : (ovW0 w M n).heap[w.heap.size + 1]? = some (.cells #[.slice none 0 0] 24) := by
  unfold ovW0
  rw [heap_alloc_lt _ _ (by simp)]
  simpa using heap_alloc_new (w.alloc (.cells #[.int .i64 M] 3)) (.cells #[.slice none 0 0] 24)
theorem w0_n (w : World) (M n : Nat) : (ovW0 w M n).heap[w.heap.size + 2]? = some (.cells #[.int .i64 n] 3) := by
  unfold ovW0
  simpa using heap_alloc_new ((w.alloc (.cells #[.int .i64 M] 3)).alloc (.cells #[.slice none 0 0] 24)) (.cells #[.int .i64 n] 3)
theorem Wf.of_old {nn : Nat} (hU : Under F nn) (h : Wf F w) (ho : ∀ r, r < nn → w'.heap[r]? = w.heap[r]?) : Wf F w' := by
  constructor
  intro r z hz
  obtain ⟨c, e, z0, h1, h2⟩ := h.own r z hz
  exact ⟨c, e, z0, (ho r (hU r z hz)).trans h1, h2⟩
theorem ov_setup {An : Anchor} (hAb : An.b ≤ w.heap.size) (hU : Under F w.heap.size) (hwf : Wf F w) {ta : Option Addr} {tl tc M : Nat} {sch : Value} {m : Int} (htl : tl ≤ 64) (hM : min (max m 0) 1048576 = (M : Int)) {cs : List Frame} {main : Bool} {Stop : Goroutine → World → Prop}
    (h : ∀ (g : Gate) (v : Mine) (w' : World) (A : Array Value), g.an = An → g.n = tl → Made w.heap.size M g v w' → Slots 129 A (ovBirth g v (.slice ta tl tc) sch 0) → Own Try.prog main F Stop (G ((Go.Conc.base 82).at ⟨A, []⟩ [.code ovs14, .inLoop ovs14, .inBlock 2, .code ovs21]) cs) w') :
    Own Try.prog main F Stop (G (Frame.enter Try.prog 82 #[.slice ta tl tc, sch, .int .i64 m] .normal) cs) w := by
  refine ov_s0 hU (Nat.le_refl _) htl hM fun A hA => ?_
  have hsz := w0_size w M tl
  have hmo := w0_mo w M tl
  have hod := w0_od w M tl
  have hnb := w0_n w M tl
  have hwf0 : Wf F (ovW0 w M tl) := hwf.of_old hU fun r hr => by
    unfold ovW0
    rw [heap_alloc_lt _ _ (by simp; omega), heap_alloc_lt _ _ (by simp; omega), heap_alloc_lt _ _ hr]
  have hsn : SN w.heap.size (w.heap.size + 2) tl (ovW0 w M tl) := ⟨by omega, by omega, by simp [World.cell?, hnb], by simp [World.frozen?, hnb]⟩
  generalize ovW0 w M tl = W0 at *
  rw [ovs3_eq]
  refine own_go rfl (fun d => stepG_seq) (Own.at ?_ W0.drawn)
  refine ov_s3 (k := [.code ovs4]) hU htl hsn hA fun w1 tv tb bk br A h3 hA => ?_
  have hnb1 := (h3.old _ (by omega)).trans hnb
  have hS0 : Stands F w.heap.size tl tv tb bk br w.heap.size (w.heap.size + 1) (w.heap.size + 2) M (.slice none 0 0) [] w1 := by
    have hl := h3.low
    refine ⟨⟨by have := h3.size; omega, hwf0.of_old hU fun r hr => h3.old r (by omega), h3.htv, h3.htb⟩, World.ownsRow_nil _ _ _ _, by simp, by simp, by simp, ⟨h3.hbk, by omega, by simp⟩, ⟨h3.hbr, by omega⟩, ⟨(h3.old _ (by omega)).trans hmo, Nat.le_refl _⟩, ⟨(h3.old _ (by omega)).trans hod, by omega⟩, ⟨hnb1, by omega⟩, by omega, by omega⟩
  refine ov_w2 (n := tl) (nb := w.heap.size + 2) (by simp [World.cell?, hnb1]) (by simp [World.frozen?, hnb1]) hA fun A hA => ?_
  refine ov_stands hU htl (fun w2 slv sts A hS hl hA => ?_) tl 0 (by omega) w1 _ [] A hS0 rfl hA
  have hn2 := hS.nbc.1
  refine ov_w5 (n := tl) (nb := w.heap.size + 2) hU hS.st.top (Array.getElem?_eq_some_iff.1 hn2).1 (by simp [World.cell?, hn2]) (by simp [World.frozen?, hn2]) hA fun A hA => ?_
  obtain ⟨g, hga, hgn, hgt, hm⟩ := made_of hAb hS hl
  refine h g _ _ A hga hgn hm ?_
  subst hgn
  subst hgt
  exact hA
theorem inb_none {Z : Users} {g : Gate} {x : Z.X} {vs : Nat → Vars} {s0 : Nat} : inb Z g s0 (fun j => decide (j < 0) && Z.liv x j) vs none x = fun _ => none := by
  funext j
  unfold inb
  by_cases h : j = 0
  · rw [if_pos h]
  · rw [if_neg h, if_neg (fun h => by simp at h)]
def OverRel (Z : Users) (n M : Nat) (S : List Int) (x0 : Z.X) (t : Z.X × List Nat) : Prop :=
  ∃ x1, Borns Z n x0 x1 ∧ ∃ s, Turns Z n M S (x1, []) s ∧ Rounds Z n M s t
theorem bes_over {An : Anchor} {Z : Gate → Users} {x0 : ∀ g, (Z g).X} {S : List Int} {ta sa : Option Addr} {tb so sb tl tc sc M : Nat} {m : Int} (htl : tl ≤ 64) (hM : min (max m 0) 1048576 = (M : Int)) (hSl : S.length < 9223372036854775808)
    (zok : ∀ g, g.n = tl → Fits g → (Z g).Ok g) (hU0 : ∀ (g : Gate) (w' : World), g.n = tl → w.heap.size ≤ w'.heap.size → (∀ (r : Nat) (o : Obj), w.heap[r]? = some o → w'.heap[r]? = some o) → (Z g).U (x0 g) w')
    (hnw : ∀ g : Gate, g.n = tl → ∀ j, j < g.n → (Z g).nw (x0 g) j) (hR0 : ∀ (g : Gate) (r : Nat), (Z g).R (x0 g) r → r < w.heap.size) (hI0 : ∀ (g : Gate) (r : Nat), (Z g).I r ≠ none → r < w.heap.size ∧ ¬ (Z g).R (x0 g) r)
    (hta : 0 < tl → ta = some ⟨tb, 0, none⟩) (hth : ∀ g, g.n = tl → RowIs (Z g) tb 0 ((List.range tl).map fun j => .func (.func (Z g).fid) #[] ((Z g).cap j)))
    (hsa : 0 < S.length → sa = some ⟨sb, so, none⟩) (hS : ∀ g, g.n = tl → RowIs (Z g) sb so (S.map fun i : Int => Value.int .i64 i)) {c : Frame} {cs : List Frame} {Stop : Goroutine → World → Prop}
    (hk : ∀ g (t : (Z g).X × List Nat) w' oa oc bv, g.n = tl → OverRel (Z g) tl M S (x0 g) t → (Z g).U t.1 w' → w'.ownsRow w.heap.size 3 1 (.slice oa t.2.length oc) t.2.length (t.2.map fun i : Nat => Value.int .i64 i) → (∀ y, oa = some y → ¬ (Z g).R t.1 y.block) → w.heap.size ≤ w'.heap.size →
      Bes An Try.prog Stop (G (c.finish (.tuple #[.slice oa t.2.length oc, .bool (decide (0 < cnt ((Z g).liv t.1) tl)), bv])) cs) w') :
    Bes An Try.prog Stop (G (Frame.enter Try.prog 82 #[.slice ta tl tc, .slice sa S.length sc, .int .i64 m] .normal) (c :: cs)) w := by
  refine bes_assume fun hAn => ?_
  refine bes_own (A := An) (F := FT (fun _ => True) w) (Stop := fun a u => Gd (FT (fun _ => True) w) w u ∧ ∃ (g : Gate) (v : Mine) (A : Array Value), g.an = An ∧ g.n = tl ∧ Made w.heap.size M g v u ∧ Slots 129 A (ovBirth g v (.slice ta tl tc) (.slice sa S.length sc) 0) ∧ a = G ((Go.Conc.base 82).at ⟨A, []⟩ [.code ovs14, .inLoop ovs14, .inBlock 2, .code ovs21]) (c :: cs))
    (own_gd (ov_setup hAn.low (ft_under _ _) (ft_wf w) htl hM fun g v w' A hga hgn hm hA => .stop fun d => ⟨g, v, A, hga, hgn, ?_, hA, rfl⟩)) fun a w1 hS1 => ?_
  · exact ⟨hm.ok, fun a u p => (hm.lie a u p).at d, hm.top, hm.sln, fun j hj => (hm.over j hj).at d, fun j hj => (hm.brk j hj).at d, hm.chans, hm.place, hm.st, hm.br, hm.mo, hm.od, hm.n, hm.lf, hm.low, hm.dn, hm.alone⟩
  obtain ⟨hgd, g, v, A, hga, hgn, hm, hA, rfl⟩ := hS1
  subst hga
  have ok : Fits g := ⟨hm.ok⟩
  have zk := zok g hgn ok
  have hold : ∀ r o, w.heap[r]? = some o → w1.heap[r]? = some o := fun r o hr => (ft_same hgd trivial (Array.getElem?_eq_some_iff.1 hr).1).trans hr
  have hsz : w.heap.size ≤ w1.heap.size := hgd.size
  have hn64 : g.n ≤ 64 := by omega
  have hM2 : M ≤ 1048576 := by omega
  obtain ⟨asl, hsln⟩ := hm.sln
  have hR1 : ∀ r, (Z g).R (x0 g) r → r < w.heap.size := hR0 g
  have hlt : ∀ r o, w1.heap[r]? = some o → r < w1.heap.size := fun r o hr => (Array.getElem?_eq_some_iff.1 hr).1
  let N : Nat → Prop := fun r => r < w1.heap.size ∧ ¬ (Z g).R (x0 g) r
  have hNn : ∀ r, w.heap.size ≤ r → r < w1.heap.size → N r := fun r h1 h2 => ⟨h2, fun h3 => by have := hR1 r h3; omega⟩
  have HT : TI (Z g) g (fun j => (decide (j < 0) && (Z g).liv (x0 g) j) = true) (fun _ => ⟨0, 0, 0⟩) N (fun j => decide (j < 0) && !(Z g).liv (x0 g) j) (x0 g) w1 :=
    ⟨hU0 g w1 hgn hsz hold, fun j hj => by simpa using hm.over j hj, fun j hj => ⟨false, hm.brk j hj⟩, fun j hj => by simp at hj, fun c hc => ⟨0, 0, (hm.chans c hc).1⟩, fun r hr hn => hn.2 hr, fun r hr => hr.1,
      fun a u p => hNn _ (hm.place a u p) (hm.lie a u p).lt, fun j hj => hNn _ (hm.st j hj).1 (hm.st j hj).2, fun _ => hNn _ hm.br.1 hm.br.2, fun j hj => by simp at hj, fun c hc => hNn _ (hm.chans c hc).2 (hlt _ _ (hm.chans c hc).1), fun j k hj => by simp at hj,
      fun r hr => by
        obtain ⟨h1, h2⟩ := hI0 g r hr
        exact ⟨⟨by omega, h2⟩, fun j hj => by have := (hm.st j hj).1; omega, by have := hm.br.1; omega, fun j hj => by simp at hj⟩⟩
  have hal : ∀ b c e, w1.heap[b]? = some (.cells c e (0, 0)) → e = 3 ∨ e = 24 → w.heap.size ≤ b → Alone (Z g) g (fun _ => ⟨0, 0, 0⟩) (fun j => (decide (j < 0) && (Z g).liv (x0 g) j) = true) N b := fun b c e hb he hn => by
    obtain ⟨h1, h2, h3⟩ := hm.alone b c e hb he
    refine ⟨hNn _ hn (hlt _ _ hb), h1, h2, h3, fun j hj => by simp at hj, ?_⟩
    cases hI : (Z g).I b with
    | none => rfl
    | some o => have := (hI0 g b (by rw [hI]; simp)).1; omega
  have htyp : ∀ (a b : Nat) (c c' : Array Value), w1.heap[a]? = some (Obj.cells c 3 (0, 0)) → w1.heap[b]? = some (Obj.cells c' 24 (0, 0)) → a ≠ b := by
    rintro a b c c' h1 h2 rfl
    rw [h1] at h2
    cases h2
  have HM : MI (Z g) g (fun _ => ⟨0, 0, 0⟩) (fun j => (decide (j < 0) && (Z g).liv (x0 g) j) = true) N v w.heap.size M none 0 0 [] 0 w1 :=
    ⟨⟨⟨_, _, hm.n, rfl⟩, rfl⟩, ⟨⟨_, _, hm.mo, rfl⟩, rfl⟩, ⟨⟨_, _, hm.lf, rfl⟩, rfl⟩, ⟨_, hm.od, rfl⟩, World.ownsRow_nil _ _ _ _, hal _ _ _ hm.n (.inl rfl) hm.low.2.2.1, hal _ _ _ hm.mo (.inl rfl) hm.low.1, hal _ _ _ hm.lf (.inl rfl) hm.low.2.2.2, hal _ _ _ hm.od (.inr rfl) hm.low.2.1,
      fun y hy => (by cases hy), ⟨htyp _ _ _ _ hm.n hm.od, htyp _ _ _ _ hm.mo hm.od, htyp _ _ _ _ hm.lf hm.od, hm.dn.2.1, hm.dn.2.2⟩, fun y hy => (by cases hy), hsz⟩
  refine bes_tok (K := g.K) (Still := g.Still) (B0 := g.top) (fun l ⟨a, u, _, e⟩ => by subst e; rfl) (fun h => ⟨hm.lie, h⟩) fun _ s0 hs0 => ?_
  have hnone : (fun _ => none : Nat → Option Seat) = inb (Z g) g s0 (fun j => decide (j < 0) && (Z g).liv (x0 g) j) (fun _ => ⟨0, 0, 0⟩) none (x0 g) := inb_none.symm
  rw [hnone]
  have hfin : ∀ (x : (Z g).X) (u : World) (A : Array Value) (vs : Nat → Vars) (N : Nat → Prop) (ms : Option Seat), Borns (Z g) g.n (x0 g) x → TI (Z g) g (fun j => (decide (j < g.n) && (Z g).liv x j) = true) vs N (fun j => decide (j < g.n) && !(Z g).liv x j) x u →
      MI (Z g) g vs (fun j => (decide (j < g.n) && (Z g).liv x j) = true) N v w.heap.size M none 0 0 [] (cnt ((Z g).liv x) g.n) u → g.top ≤ u.heap.size → Slots 129 A (ovBirth g v (.slice ta tl tc) (.slice sa S.length sc) g.n) →
      Tok Try.prog g.K g.Still g.top (BesG g.an Try.prog Stop) (inb (Z g) g s0 (fun j => decide (j < g.n) && (Z g).liv x j) vs ms x) 0 (s0 + g.n) (G ((Go.Conc.base 82).at ⟨A, []⟩ [.code ovs14, .inLoop ovs14, .inBlock 2, .code ovs21]) (c :: cs)) u := by
    intro x u A vs N ms hB HT HM _ hA
    refine tok_go _ (fun Stop h => ov_t1 hA h) fun A d hA => ?_
    have hU2 : Under2 (Z g) g v w.heap.size M s0 (x, []) (inb (Z g) g s0 (fun j => decide (j < g.n) && (Z g).liv x j) vs ms x) (u.at d) := ⟨by simp, vs, N, none, 0, ms, rfl, HT.at zk d, HM.at d⟩
    refine tok_sched (st := (x, [])) zk hs0 hM2 hn64 hsa (hS g hgn) hSl (fun s Inb u A hs hU hA => ?_) S.length 0 (by omega) (x, []) _ _ A rfl hU2 hA
    refine tok_rounds zk hs0 hM2 hn64 (M - s.2.length) s (Nat.le_refl _) Inb u A (fun t Inb u A hr hU hA => ?_) hU hA
    refine tok_ends zk hs0 hn64 hsln (s := t) (fun u A vs N oa oc ov HT HM hK hA => ?_) hU hA
    have hse : SE g v.od oa t.2.length oc u := ⟨by obtain ⟨cc, h1, h2⟩ := HM.od; exact ⟨cc, _, h1, h2⟩, hK _ _ .tv, hK _ _ .broken⟩
    refine bes_own (F := F0) (Stop := fun a w2 => a = G (c.finish (.tuple #[.slice oa t.2.length oc, .bool (decide (0 < cnt ((Z g).liv t.1) g.n)), g.bl])) cs ∧ ∃ d, w2 = u.at d) (ov_end hse hA (.stop fun d => ⟨rfl, d, rfl⟩)) fun a w2 ⟨ha, d2, hw2⟩ => ?_
    subst ha
    subst hw2
    have hrel : OverRel (Z g) tl M S (x0 g) t := ⟨x, hgn ▸ hB, s, hgn ▸ hs, hgn ▸ hr⟩
    have := hk g t (u.at d2) oa oc g.bl hgn hrel (HT.at zk d2).u HM.row (fun y hy hR => HT.apart _ hR (HM.arow y hy).n) HM.base
    rw [← hgn] at this
    exact this
  by_cases h0 : g.n = 0
  · have e0 : (fun j => decide (j < 0) && (Z g).liv (x0 g) j) = fun j => decide (j < g.n) && (Z g).liv (x0 g) j := by rw [h0]
    have e1 : (fun j => (decide (j < 0) && (Z g).liv (x0 g) j) = true) = fun j => (decide (j < g.n) && (Z g).liv (x0 g) j) = true := by rw [h0]
    have e2 : (fun j => decide (j < 0) && !(Z g).liv (x0 g) j) = fun j => decide (j < g.n) && !(Z g).liv (x0 g) j := by rw [h0]
    rw [e1, e2] at HT
    rw [e1] at HM
    rw [e0]
    have e3 : s0 = s0 + g.n := by omega
    have e4 : cnt ((Z g).liv (x0 g)) g.n = 0 := by rw [h0]; rfl
    have := hfin (x0 g) w1 A _ N none (by rw [h0]; rfl) HT (by rw [e4]; exact HM) hm.top (by rw [h0]; exact hA)
    rw [← e3] at this
    exact this
  · obtain rfl := hta (by omega)
    refine tok_births zk hs0 hn64 (hnw g hgn) (tl := tl) (tc := tc) (sch := .slice sa S.length sc) (x0 := x0 g) (by omega) (by rw [hgn]; exact hth g hgn) hfin g.n 0 (by omega) (x0 g) w1 A _ N none rfl HT HM hm.top hA
end Go.Proofs.Ytlcgkpapnpdfpaa
namespace Go.Proofs.Ytlcgkpapnpdfpaa
open Go Go.Conc Go.RowKit Go.Proofs
variable {P : Program} {F : Fz} {w w' : World}
structure PtrEq (P : Program) (w : World) (x y : Option Addr) (b : Bool) : Prop where
  run : (samePointer x y).run P w = .ok b w
  ev : ∀ es, (samePointer x y).events P w es = es
theorem ptrEq_none (w : World) (x : Option Addr) : PtrEq P w x none x.isNone := by
  cases x <;> exact ⟨by simp [samePointer], by simp [samePointer]⟩
theorem ptrEq_none' (w : World) (x : Option Addr) : PtrEq P w none x x.isNone := by
  cases x <;> exact ⟨by simp [samePointer], by simp [samePointer]⟩
theorem ptrEq_block (w : World) (a b : Addr) (h : a.block = b.block) : PtrEq P w (some a) (some b) (a == b) := by
  exact ⟨by simp [samePointer, sameAddr, h], by simp [samePointer, sameAddr, h]⟩
theorem ptrEq_apart {a b : Addr} {c c' : Array Value} {e e' : TypeId} (hne : a.block ≠ b.block) (ha : w.heap[a.block]? = some (.cells c e (0, 0))) (hb : w.heap[b.block]? = some (.cells c' e' (0, 0))) : PtrEq P w (some a) (some b) false := by
  have h1 : (a.block == b.block) = false := by simpa using hne
  have fa : ∀ o s, w.frozen? ⟨a.block, o, s⟩ = false := fun o s => by simp [World.frozen?, ha]
  have fb : ∀ o s, w.frozen? ⟨b.block, o, s⟩ = false := fun o s => by simp [World.frozen?, hb]
  have fa' : w.frozen? a = false := by simp [World.frozen?, ha]
  have fb' : w.frozen? b = false := by simp [World.frozen?, hb]
  have sa : w.shape? a.block = some (e, c.size) := by simp [World.shape?, ha]
  have sb : w.shape? b.block = some (e', c'.size) := by simp [World.shape?, hb]
  exact ⟨by simp [samePointer, sameAddr, h1, noView, mayBeOne, stringish, viewAt, fa, fb, fa', fb', sa, sb], by simp [samePointer, sameAddr, h1, noView, mayBeOne, stringish, viewAt, fa, fb, fa', fb', sa, sb]⟩
section
variable {main : Bool} {b : Frame} {a : Act} {kk : List Item} {cs : List Frame} {ops : Array Oper} {i : Nat} {rest : List Nat} {o : Oper} {Stop : Goroutine → World → Prop} {f : FuncId} {fn : Func} {ats : Array TypeId}
theorem own_val {v : Value} (ho : ops[i]? = some o) (hw : Region.wanted o (yielded ops a.tmps) = true) (hk : b.kind ≠ .early) (hr : ∀ d, (execOp a.eval o).run P (w.at d) = .ok (.value v) (w'.at d))
    (hg : ∀ d, ∃ j, Grew F (w.at d) (w'.at d) j) (he : ∀ d, ∀ e ∈ (execOp a.eval o).events P (w.at d) #[], EvT F e) (h : Own P main F Stop (G (b.at (a.put o.dst v) (.inRegion ops rest :: kk)) cs) w') :
    Own P main F Stop (G (b.at a (.inRegion ops (i :: rest) :: kk)) cs) w :=
  .step rfl fun d => ⟨_, _, _, stepG_value ho hw hk (hr d), ⟨hg d, fun e hm => he d e (mem_listed hm)⟩, h.at d⟩
theorem exec_extern {args : Array Operand} {vs : Array Value} (hop : o.op = .call { callee := .value (.func f), args := args, argTypes := ats }) (hx : args.map a.eval = vs) : execOp a.eval o = callFunc f vs := by
  have ef : a.eval (.func f) = .func (.func f) #[] #[] := rfl
  unfold execOp
  subst hx
  simp [hop, resolve, Deferred.ofValue, invoke, ef]
theorem evT_ext (f : FuncId) : EvT F ⟨.mark (.extern f), false, true⟩ := ⟨fun h => by simp at h, fun m h => by cases h; exact .inr ⟨f, rfl⟩⟩
theorem own_load_ptr {x : Operand} (ho : ops[i]? = some o) (hw : Region.wanted o (yielded ops a.tmps) = true) (hk : b.kind ≠ .early) (hop : o.op = .call { callee := .value (.func f), args := #[x], argTypes := ats })
    (hf : P.funcs[f]? = some fn) (hname : (fn.name == "runtime.NumGoroutine") = false) (hb : fn.body.isNone = true) (hn : Extern.findNext fn = none)
    (he : Extern.find fn = some (Extern.Atomic.loadT .ptr)) {ad : Addr} {v : Option Addr} (hx : a.eval x = .pointer (some ad)) (hc : w.cell? ad = some (.pointer v))
    (h : Own P main F Stop (G (b.at (a.put o.dst (.pointer v)) (.inRegion ops rest :: kk)) cs) w) : Own P main F Stop (G (b.at a (.inRegion ops (i :: rest) :: kk)) cs) w := by
  have e1 : execOp a.eval o = callFunc f #[.pointer (some ad)] := exec_extern hop (by simp [hx])
  refine own_val (w' := w) ho hw hk (fun d => ?_) (fun d => ⟨0, Grew.refl _ _⟩) (fun d e hm => ?_) h
  · have hc' : (w.at d).cell? ad = some (.pointer v) := hc
    rw [e1, run_callFunc_extern hf hname hb hn he]
    change (Sem.run P (do Extern.Atomic.read .ptr (← asAddr (.pointer (some ad)))) (w.at d)).andThen _ = _
    simp [Extern.Atomic.read, asAddr, hc', Result.andThen]
  · have hc' : (w.at d).cell? ad = some (.pointer v) := hc
    rw [e1, events_callFunc_extern hf hname hb hn he] at hm
    change e ∈ Sem.events P (do Extern.Atomic.read .ptr (← asAddr (.pointer (some ad)))) (w.at d) _ at hm
    simp [Extern.Atomic.read, asAddr, hc', events_load] at hm
    rcases hm with rfl | rfl
    · exact evT_ext f
    · exact evT_read _ _
theorem own_cas_ptr {x y z : Operand} (ho : ops[i]? = some o) (hw : Region.wanted o (yielded ops a.tmps) = true) (hk : b.kind ≠ .early) (hop : o.op = .call { callee := .value (.func f), args := #[x, y, z], argTypes := ats })
    (hf : P.funcs[f]? = some fn) (hname : (fn.name == "runtime.NumGoroutine") = false) (hb : fn.body.isNone = true) (hn : Extern.findNext fn = none)
    (he : Extern.find fn = some (Extern.Atomic.casT .ptr)) {ad : Addr} {v u n : Option Addr} {t : Bool} (hs : ad.spot = none) (hx : a.eval x = .pointer (some ad)) (hy : a.eval y = .pointer u) (hz : a.eval z = .pointer n) (hc : w.cell? ad = some (.pointer v)) (hfz : w.frozen? ad = false) (hnh : ¬ held F ad)
    (hq : ∀ d, PtrEq P (w.at d) v u t) (h : Own P main F Stop (G (b.at (a.put o.dst (.bool t)) (.inRegion ops rest :: kk)) cs) (if t then w.setCell ad (.pointer n) else w)) : Own P main F Stop (G (b.at a (.inRegion ops (i :: rest) :: kk)) cs) w := by
  have e1 : execOp a.eval o = callFunc f #[.pointer (some ad), .pointer u, .pointer n] := exec_extern hop (by simp [hx, hy, hz])
  refine own_val (w' := if t then w.setCell ad (.pointer n) else w) ho hw hk (fun d => ?_) (fun d => ?_) (fun d e hm => ?_) h
  · have hc' : (w.at d).cell? ad = some (.pointer v) := hc
    have hz' : (w.at d).frozen? ad = false := hfz
    have hq' := (hq d).run
    rw [e1, run_callFunc_extern hf hname hb hn he]
    change (Sem.run P (do
      let a' ← asAddr (.pointer (some ad))
      if ← Extern.Atomic.touchesFrozen a' then unsupported (.unsafePointer "a write to bytes that a string shares")
      let eq ← match Extern.Atomic.T.ptr, ← Extern.Atomic.read .ptr a', Value.pointer u with
        | _, .int _ x, .int _ y => pure (x == y)
        | .ptr, .pointer x, .pointer y => samePointer x y
        | .int _, .pointer (some _), .int _ 0 | .int _, .int _ 0, .pointer (some _) => pure false
        | .int _, .pointer (some _), _ | .int _, _, .pointer (some _) => unsupported .addressObserved
        | _, _, _ => stuck "atomic.CompareAndSwap: old is no T"
      if eq then store a' (.pointer n) .atomic
      pure (Value.bool eq)) (w.at d)).andThen _ = _
    cases t <;> simp [Extern.Atomic.touchesFrozen, Extern.Atomic.read, asAddr, viewAt, World.shape?_isSome_of_cell? hc', hc', hz', hq', run_store P (w.at d) ad (.pointer n) .atomic rfl, Result.andThen, setCell_at']
  · cases t
    · exact ⟨0, Grew.refl _ _⟩
    · exact ⟨0, by simpa [setCell_at'] using grew_setCell (w := w.at d) hs hnh (.pointer n)⟩
  · have hc' : (w.at d).cell? ad = some (.pointer v) := hc
    have hz' : (w.at d).frozen? ad = false := hfz
    have hq' := (hq d).run
    have hq2 := (hq d).ev
    rw [e1, events_callFunc_extern hf hname hb hn he] at hm
    change e ∈ Sem.events P (do
      let a' ← asAddr (.pointer (some ad))
      if ← Extern.Atomic.touchesFrozen a' then unsupported (.unsafePointer "a write to bytes that a string shares")
      let eq ← match Extern.Atomic.T.ptr, ← Extern.Atomic.read .ptr a', Value.pointer u with
        | _, .int _ x, .int _ y => pure (x == y)
        | .ptr, .pointer x, .pointer y => samePointer x y
        | .int _, .pointer (some _), .int _ 0 | .int _, .int _ 0, .pointer (some _) => pure false
        | .int _, .pointer (some _), _ | .int _, _, .pointer (some _) => unsupported .addressObserved
        | _, _, _ => stuck "atomic.CompareAndSwap: old is no T"
      if eq then store a' (.pointer n) .atomic
      pure (Value.bool eq)) (w.at d) _ at hm
    cases t <;> simp [Extern.Atomic.touchesFrozen, Extern.Atomic.read, asAddr, viewAt, World.shape?_isSome_of_cell? hc', hc', hz', hq', hq2, events_load, run_store P (w.at d) ad (.pointer n) .atomic rfl, events_store P (w.at d) _ ad (.pointer n) .atomic rfl] at hm
    · rcases hm with rfl | rfl
      · exact evT_ext f
      · exact evT_read _ _
    · rcases hm with rfl | rfl | rfl
      · exact evT_ext f
      · exact evT_read _ _
      · exact evT_write _ _ hnh
end
end Go.Proofs.Ytlcgkpapnpdfpaa
namespace Go.Proofs.Ytlcgkpapnpdfpaa
open Go Go.Conc Go.RowKit Go.Proofs
section
variable {P : Program} {F : Fz} {w w' : World} {main : Bool} {b : Frame} {a : Act} {kk : List Item} {cs : List Frame} {ops : Array Oper} {i : Nat} {rest : List Nat} {o : Oper} {Stop : Goroutine → World → Prop} {f : FuncId} {fn : Func} {ats : Array TypeId} {k : IntKind}
theorem own_load_int {x : Operand} (ho : ops[i]? = some o) (hw : Region.wanted o (yielded ops a.tmps) = true) (hk : b.kind ≠ .early) (hop : o.op = .call { callee := .value (.func f), args := #[x], argTypes := ats })
    (hf : P.funcs[f]? = some fn) (hname : (fn.name == "runtime.NumGoroutine") = false) (hb : fn.body.isNone = true) (hn : Extern.findNext fn = none)
    (he : Extern.find fn = some (Extern.Atomic.loadT (.int k))) {ad : Addr} {v : Int} (hx : a.eval x = .pointer (some ad)) (hc : w.cell? ad = some (.int k v))
    (h : Own P main F Stop (G (b.at (a.put o.dst (.int k v)) (.inRegion ops rest :: kk)) cs) w) : Own P main F Stop (G (b.at a (.inRegion ops (i :: rest) :: kk)) cs) w := by
  have e1 : execOp a.eval o = callFunc f #[.pointer (some ad)] := exec_extern hop (by simp [hx])
  refine own_val (w' := w) ho hw hk (fun d => ?_) (fun d => ⟨0, Grew.refl _ _⟩) (fun d e hm => ?_) h
  · have hc' : (w.at d).cell? ad = some (.int k v) := hc
    rw [e1, run_callFunc_extern hf hname hb hn he]
    change (Sem.run P (do Extern.Atomic.read (.int k) (← asAddr (.pointer (some ad)))) (w.at d)).andThen _ = _
    simp [Extern.Atomic.read, asAddr, hc', Result.andThen]
  · have hc' : (w.at d).cell? ad = some (.int k v) := hc
    rw [e1, events_callFunc_extern hf hname hb hn he] at hm
    change e ∈ Sem.events P (do Extern.Atomic.read (.int k) (← asAddr (.pointer (some ad)))) (w.at d) _ at hm
    simp [Extern.Atomic.read, asAddr, hc', events_load] at hm
    rcases hm with rfl | rfl
    · exact evT_ext f
    · exact evT_read _ _
theorem own_store_int {x y : Operand} (ho : ops[i]? = some o) (hw : Region.wanted o (yielded ops a.tmps) = true) (hk : b.kind ≠ .early) (hop : o.op = .call { callee := .value (.func f), args := #[x, y], argTypes := ats })
    (hf : P.funcs[f]? = some fn) (hname : (fn.name == "runtime.NumGoroutine") = false) (hb : fn.body.isNone = true) (hn : Extern.findNext fn = none)
    (he : Extern.find fn = some Extern.Atomic.storeT) {ad : Addr} {v : Value} {n : Int} (hs : ad.spot = none) (hx : a.eval x = .pointer (some ad)) (hy : a.eval y = .int k n) (hc : w.cell? ad = some v) (hfz : w.frozen? ad = false) (hnh : ¬ held F ad)
    (h : Own P main F Stop (G (b.at (a.put o.dst (.tuple #[])) (.inRegion ops rest :: kk)) cs) (w.setCell ad (.int k n))) : Own P main F Stop (G (b.at a (.inRegion ops (i :: rest) :: kk)) cs) w := by
  have e1 : execOp a.eval o = callFunc f #[.pointer (some ad), .int k n] := exec_extern hop (by simp [hx, hy])
  refine own_val (w' := w.setCell ad (.int k n)) ho hw hk (fun d => ?_) (fun d => ⟨0, by simpa [setCell_at'] using grew_setCell (w := w.at d) hs hnh (.int k n)⟩) (fun d e hm => ?_) h
  · have hc' : (w.at d).cell? ad = some v := hc
    have hz' : (w.at d).frozen? ad = false := hfz
    rw [e1, run_callFunc_extern hf hname hb hn he]
    change (Sem.run P (do
      store (← asAddr (.pointer (some ad))) (.int k n) .atomic
      pure (Value.tuple #[])) (w.at d)).andThen _ = _
    simp [asAddr, hc', hz', run_store P (w.at d) ad (.int k n) .atomic rfl, Result.andThen, setCell_at']
  · have hc' : (w.at d).cell? ad = some v := hc
    have hz' : (w.at d).frozen? ad = false := hfz
    rw [e1, events_callFunc_extern hf hname hb hn he] at hm
    change e ∈ Sem.events P (do
      store (← asAddr (.pointer (some ad))) (.int k n) .atomic
      pure (Value.tuple #[])) (w.at d) _ at hm
    simp [asAddr, hc', hz', run_store P (w.at d) ad (.int k n) .atomic rfl, events_store P (w.at d) _ ad (.int k n) .atomic rfl] at hm
    rcases hm with rfl | rfl
    · exact evT_ext f
    · exact evT_write _ _ hnh
theorem own_cas_int {x y z : Operand} (ho : ops[i]? = some o) (hw : Region.wanted o (yielded ops a.tmps) = true) (hk : b.kind ≠ .early) (hop : o.op = .call { callee := .value (.func f), args := #[x, y, z], argTypes := ats })
    (hf : P.funcs[f]? = some fn) (hname : (fn.name == "runtime.NumGoroutine") = false) (hb : fn.body.isNone = true) (hn : Extern.findNext fn = none)
    (he : Extern.find fn = some (Extern.Atomic.casT (.int k))) {ad : Addr} {v u n : Int} {t : Bool} (ht : (v == u) = t) (hs : ad.spot = none) (hx : a.eval x = .pointer (some ad)) (hy : a.eval y = .int k u) (hz : a.eval z = .int k n) (hc : w.cell? ad = some (.int k v)) (hfz : w.frozen? ad = false) (hnh : ¬ held F ad)
    (h : Own P main F Stop (G (b.at (a.put o.dst (.bool t)) (.inRegion ops rest :: kk)) cs) (if t then w.setCell ad (.int k n) else w)) : Own P main F Stop (G (b.at a (.inRegion ops (i :: rest) :: kk)) cs) w := by
  have e1 : execOp a.eval o = callFunc f #[.pointer (some ad), .int k u, .int k n] := exec_extern hop (by simp [hx, hy, hz])
  refine own_val (w' := if t then w.setCell ad (.int k n) else w) ho hw hk (fun d => ?_) (fun d => ?_) (fun d e hm => ?_) h
  · have hc' : (w.at d).cell? ad = some (.int k v) := hc
    have hz' : (w.at d).frozen? ad = false := hfz
    rw [e1, run_callFunc_extern hf hname hb hn he]
    change (Sem.run P (do
      let a' ← asAddr (.pointer (some ad))
      if ← Extern.Atomic.touchesFrozen a' then unsupported (.unsafePointer "a write to bytes that a string shares")
      let eq ← match Extern.Atomic.T.int k, ← Extern.Atomic.read (.int k) a', Value.int k u with
        | _, .int _ x, .int _ y => pure (x == y)
        | .ptr, .pointer x, .pointer y => samePointer x y
        | .int _, .pointer (some _), .int _ 0 | .int _, .int _ 0, .pointer (some _) => pure false
        | .int _, .pointer (some _), _ | .int _, _, .pointer (some _) => unsupported .addressObserved
        | _, _, _ => stuck "atomic.CompareAndSwap: old is no T"
      if eq then store a' (.int k n) .atomic
      pure (Value.bool eq)) (w.at d)).andThen _ = _
    have hv : if t = true then v = u else ¬ v = u := by cases t <;> simpa using ht
    cases t <;> simp only [if_true, Bool.false_eq_true, if_false] at hv <;> simp [Extern.Atomic.touchesFrozen, Extern.Atomic.read, asAddr, viewAt, World.shape?_isSome_of_cell? hc', hc', hz', hv, run_store P (w.at d) ad (.int k n) .atomic rfl, Result.andThen, setCell_at']
  · cases t
    · exact ⟨0, Grew.refl _ _⟩
    · exact ⟨0, by simpa [setCell_at'] using grew_setCell (w := w.at d) hs hnh (.int k n)⟩
  · have hc' : (w.at d).cell? ad = some (.int k v) := hc
    have hz' : (w.at d).frozen? ad = false := hfz
    rw [e1, events_callFunc_extern hf hname hb hn he] at hm
    change e ∈ Sem.events P (do
      let a' ← asAddr (.pointer (some ad))
      if ← Extern.Atomic.touchesFrozen a' then unsupported (.unsafePointer "a write to bytes that a string shares")
      let eq ← match Extern.Atomic.T.int k, ← Extern.Atomic.read (.int k) a', Value.int k u with
        | _, .int _ x, .int _ y => pure (x == y)
        | .ptr, .pointer x, .pointer y => samePointer x y
        | .int _, .pointer (some _), .int _ 0 | .int _, .int _ 0, .pointer (some _) => pure false
        | .int _, .pointer (some _), _ | .int _, _, .pointer (some _) => unsupported .addressObserved
        | _, _, _ => stuck "atomic.CompareAndSwap: old is no T"
      if eq then store a' (.int k n) .atomic
      pure (Value.bool eq)) (w.at d) _ at hm
    have hv : if t = true then v = u else ¬ v = u := by cases t <;> simpa using ht
    cases t <;> simp only [if_true, Bool.false_eq_true, if_false] at hv <;> simp [Extern.Atomic.touchesFrozen, Extern.Atomic.read, asAddr, viewAt, World.shape?_isSome_of_cell? hc', hc', hz', hv, events_load, run_store P (w.at d) ad (.int k n) .atomic rfl, events_store P (w.at d) _ ad (.int k n) .atomic rfl] at hm
    · rcases hm with rfl | rfl
      · exact evT_ext f
      · exact evT_read _ _
    · rcases hm with rfl | rfl | rfl
      · exact evT_ext f
      · exact evT_read _ _
      · exact evT_write _ _ hnh
end
variable {F : Fz} {w : World}
noncomputable def qstBody : Code := Try.f79.body.getD .skip
noncomputable def qsts0 : Code := Code.piece [] qstBody
noncomputable def qstr0 : Code := Code.piece [true] qstBody
noncomputable def qsto0 : Array Oper := Code.opsOf qstr0
noncomputable def qstc3 : Code := Code.piece [false] qstBody
noncomputable def qstr1 : Code := Code.piece [false, true] qstBody
noncomputable def qsto1 : Array Oper := Code.opsOf qstr1
theorem qsts0_eq : qsts0 = .seq qstr0 qstc3 := by kernel_rfl
theorem qstr0_eq : qstr0 = .region 0 qsto0 false := by kernel_rfl
theorem qstc3_eq : qstc3 = .cond (.tmp 3) qstr1 .skip := by kernel_rfl
theorem qstr1_eq : qstr1 = .region 1 qsto1 false := by kernel_rfl
theorem enter_qst (args : Array Value) : Frame.enter Try.prog 79 args .normal = (Go.Conc.base 79).at { tmps := args ++ Array.replicate (6 - args.size) undef, defers := [] } [.code qsts0] := enter_at args Try.func79 rfl
theorem callable79 : Callable 79 := callable Try.func79 rfl rfl
noncomputable def aulBody : Code := Try.f76.body.getD .skip
noncomputable def auls0 : Code := Code.piece [] aulBody
noncomputable def aulr0 : Code := Code.piece [true] aulBody
noncomputable def aulo0 : Array Oper := Code.opsOf aulr0
noncomputable def auls1 : Code := Code.piece [false] aulBody
noncomputable def aulr1 : Code := Code.piece [false, true] aulBody
noncomputable def aulo1 : Array Oper := Code.opsOf aulr1
theorem auls0_eq : auls0 = .seq aulr0 auls1 := by kernel_rfl
theorem aulr0_eq : aulr0 = .region 0 aulo0 false := by kernel_rfl
theorem auls1_eq : auls1 = .seq aulr1 .ret := by kernel_rfl
theorem aulr1_eq : aulr1 = .region 1 aulo1 false := by kernel_rfl
theorem enter_aul (args : Array Value) : Frame.enter Try.prog 76 args .normal = (Go.Conc.base 76).at { tmps := args ++ Array.replicate (7 - args.size) undef, defers := [] } [.code auls0] := enter_at args Try.func76 rfl
theorem callable76 : Callable 76 := callable Try.func76 rfl rfl
noncomputable def aucBody : Code := Try.f110.body.getD .skip
noncomputable def aucs0 : Code := Code.piece [] aucBody
noncomputable def aucr0 : Code := Code.piece [true] aucBody
noncomputable def auco0 : Array Oper := Code.opsOf aucr0
noncomputable def aucs1 : Code := Code.piece [false] aucBody
noncomputable def aucr1 : Code := Code.piece [false, true] aucBody
noncomputable def auco1 : Array Oper := Code.opsOf aucr1
theorem aucs0_eq : aucs0 = .seq aucr0 aucs1 := by kernel_rfl
theorem aucr0_eq : aucr0 = .region 0 auco0 false := by kernel_rfl
theorem aucs1_eq : aucs1 = .seq aucr1 .ret := by kernel_rfl
theorem aucr1_eq : aucr1 = .region 1 auco1 false := by kernel_rfl
theorem enter_auc (args : Array Value) : Frame.enter Try.prog 110 args .normal = (Go.Conc.base 110).at { tmps := args ++ Array.replicate (13 - args.size) undef, defers := [] } [.code aucs0] := enter_at args Try.func110 rfl
theorem callable110 : Callable 110 := callable Try.func110 rfl rfl
noncomputable def ailBody : Code := Try.f54.body.getD .skip
noncomputable def ails0 : Code := Code.piece [] ailBody
noncomputable def ailr0 : Code := Code.piece [true] ailBody
noncomputable def ailo0 : Array Oper := Code.opsOf ailr0
noncomputable def ails1 : Code := Code.piece [false] ailBody
noncomputable def ailr1 : Code := Code.piece [false, true] ailBody
noncomputable def ailo1 : Array Oper := Code.opsOf ailr1
theorem ails0_eq : ails0 = .seq ailr0 ails1 := by kernel_rfl
theorem ailr0_eq : ailr0 = .region 0 ailo0 false := by kernel_rfl
theorem ails1_eq : ails1 = .seq ailr1 .ret := by kernel_rfl
theorem ailr1_eq : ailr1 = .region 1 ailo1 false := by kernel_rfl
theorem enter_ail (args : Array Value) : Frame.enter Try.prog 54 args .normal = (Go.Conc.base 54).at { tmps := args ++ Array.replicate (7 - args.size) undef, defers := [] } [.code ails0] := enter_at args Try.func54 rfl
theorem callable54 : Callable 54 := callable Try.func54 rfl rfl
noncomputable def aisBody : Code := Try.f52.body.getD .skip
noncomputable def aisr0 : Code := Code.piece [] aisBody
noncomputable def aiso0 : Array Oper := Code.opsOf aisr0
theorem aisr0_eq : aisr0 = .region 0 aiso0 false := by kernel_rfl
theorem enter_ais (args : Array Value) : Frame.enter Try.prog 52 args .normal = (Go.Conc.base 52).at { tmps := args ++ Array.replicate (9 - args.size) undef, defers := [] } [.code aisr0] := enter_at args Try.func52 rfl
theorem callable52 : Callable 52 := callable Try.func52 rfl rfl
noncomputable def ausBody : Code := Try.f74.body.getD .skip
noncomputable def ausr0 : Code := Code.piece [] ausBody
noncomputable def auso0 : Array Oper := Code.opsOf ausr0
theorem ausr0_eq : ausr0 = .region 0 auso0 false := by kernel_rfl
theorem enter_aus (args : Array Value) : Frame.enter Try.prog 74 args .normal = (Go.Conc.base 74).at { tmps := args ++ Array.replicate (9 - args.size) undef, defers := [] } [.code ausr0] := enter_at args Try.func74 rfl
theorem callable74 : Callable 74 := callable Try.func74 rfl rfl
theorem callable133 : Callable 133 := callable Try.func133 rfl rfl
theorem call_step (a : Addr) (w : World) : (callMethod (.iface 173 (.pointer (some a))) "Step" #[]).run Try.prog w = .ok (.enter 133 #[.pointer (some a)]) w := by kernel_rfl
theorem call_stepE (a : Addr) (w : World) (es : Array Event) : (callMethod (.iface 173 (.pointer (some a))) "Step" #[]).events Try.prog w es = es := by kernel_rfl
@[go_sem] theorem neq_nilE (t : TypeId) (v : Value) (w : World) (es : Array Event) : (binOp .neq 105 (.iface t v) .nilIface).events Try.prog w es = es := by kernel_rfl
structure StK where
  t : TypeId
  f : FuncId
  cb : Callable f
  run : ∀ a w, (callMethod (.iface t (.pointer (some a))) "Step" #[]).run Try.prog w = .ok (.enter f #[.pointer (some a)]) w
  ev : ∀ a w es, (callMethod (.iface t (.pointer (some a))) "Step" #[]).events Try.prog w es = es
def stK : StK := ⟨173, 133, callable133, call_step, call_stepE⟩
noncomputable def stepFr (K : StK) (sa : Addr) : Frame := (Go.Conc.base 79).at ⟨#[.iface K.t (.pointer (some sa)), undef, .iface K.t (.pointer (some sa)), .bool true, .iface K.t (.pointer (some sa)), undef], []⟩ [.inRegion qsto1 [1]]
set_option maxRecDepth 100000 in
theorem own_step_call {K : StK} {sa : Addr} {cs : List Frame} {main : Bool} {Stop : Goroutine → World → Prop} (h : Own Try.prog main F Stop (G (Frame.enter Try.prog K.f #[.pointer (some sa)] .normal) (stepFr K sa :: cs)) w) :
    Own Try.prog main F Stop (G (Frame.enter Try.prog 79 #[.iface K.t (.pointer (some sa))] .normal) cs) w := by
  rw [enter_qst]
  walk_nrm
  rw [qsts0_eq]
  refine ogS ?_
  rw [qstr0_eq]
  refine ogR ?_
  simp only [qsto0, Code.opsOf, qstr0, Code.piece, qstBody, Try.f79, Option.getD_some, List.size_toArray, List.length_cons, List.length_nil, Nat.reduceAdd, Nat.zero_add, List.range, List.range.loop]
  (refine oW fun dd K hK => ?_; go_simp; refine qT hK ?_; clear hK K)
  (refine oW fun dd K hK => ?_; go_simp; refine qT hK ?_; clear hK K)
  refine ogE ?_
  rw [qstc3_eq]
  refine ogT ?_
  simp only [if_true]
  rw [qstr1_eq]
  refine ogR ?_
  simp only [qsto1, Code.opsOf, qstr1, Code.piece, qstBody, Try.f79, Option.getD_some, List.size_toArray, List.length_cons, List.length_nil, Nat.reduceAdd, Nat.zero_add, List.range, List.range.loop]
  (refine oW fun dd K hK => ?_; go_simp; refine qT hK ?_; clear hK K)
  refine own_call (f := K.f) (args := #[.pointer (some sa)]) rfl rfl (by decide) (fun w => by simp [execOp, Act.eval, resolve, invoke, Deferred.ofValue, K.cb.run, K.run]) (fun w => by simp [execOp, Act.eval, resolve, invoke, Deferred.ofValue, K.cb.run, K.cb.quiet, K.run, K.ev]) ?_
  exact h
set_option maxRecDepth 100000 in
theorem own_step_back {K : StK} {sa : Addr} {c : Frame} {cs : List Frame} {main : Bool} {Stop : Goroutine → World → Prop} (h : Own Try.prog main F Stop (G (c.finish (.tuple #[])) cs) w) :
    Own Try.prog main F Stop (G ((stepFr K sa).finish (.tuple #[])) (c :: cs)) w := by
  unfold stepFr
  rw [Frame.finish_at]
  simp only [qsto1, Code.opsOf, qstr1, Code.piece, qstBody, Try.f79, Option.getD_some, List.size_toArray, List.length_cons, List.length_nil, Nat.reduceAdd, Nat.zero_add, List.range, List.range.loop]
  walk_nrm
  refine ogE ?_
  refine own_go rfl (fun d => stepG_end) ?_
  refine own_go rfl (fun d => stepG_leave (fn := Try.f79) (v := .tuple #[]) rfl rfl Try.func79 (by simp [results, Try.f79]) (by simp [results, Try.f79, go_sem])) ?_
  exact h
set_option maxRecDepth 100000 in
theorem own_ldU {ad : Addr} {v : Int} (hc : w.cell? ad = some (.int .u64 v)) (hs : ad.spot = none) {c : Frame} {cs : List Frame} {main : Bool} {Stop : Goroutine → World → Prop} (h : Own Try.prog main F Stop (G (c.finish (.int .u64 v)) cs) (w)) :
    Own Try.prog main F Stop (G (Frame.enter Try.prog 76 #[.pointer (some ad)] .normal) (c :: cs)) w := by
  obtain ⟨ab, ao, asp⟩ := ad
  simp only at hs
  subst hs
  rw [enter_aul]
  walk_nrm
  rw [auls0_eq]
  refine ogS ?_
  rw [aulr0_eq]
  refine ogR ?_
  simp only [aulo0, Code.opsOf, aulr0, Code.piece, aulBody, Try.f76, Option.getD_some, List.size_toArray, List.length_cons, List.length_nil, Nat.reduceAdd, Nat.zero_add, List.range, List.range.loop]
  (refine oW fun dd K hK => ?_; go_simp; refine qT hK ?_; clear hK K)
  refine ogE ?_
  rw [auls1_eq]
  refine ogS ?_
  rw [aulr1_eq]
  refine ogR ?_
  simp only [aulo1, Code.opsOf, aulr1, Code.piece, aulBody, Try.f76, Option.getD_some, List.size_toArray, List.length_cons, List.length_nil, Nat.reduceAdd, Nat.zero_add, List.range, List.range.loop]
  (refine oW fun dd K hK => ?_; go_simp; refine qT hK ?_; clear hK K)
  (refine oW fun dd K hK => ?_; go_simp; refine qT hK ?_; clear hK K)
  (refine oW fun dd K hK => ?_; go_simp; refine qT hK ?_; clear hK K)
  refine own_load_int (k := .u64) (f := 97) (fn := Try.f97) rfl rfl (by decide) rfl Try.func97 rfl rfl rfl rfl rfl hc ?_
  walk_nrm
  (refine oW fun dd K hK => ?_; go_simp; refine qT hK ?_; clear hK K)
  refine ogE ?_
  refine ogX ?_
  refine own_go rfl (fun d => stepG_leave (fn := Try.f76) (v := .int .u64 v) rfl rfl Try.func76 (by simp [results, Try.f76]) (by simp [results, Try.f76, go_sem])) ?_
  exact h
set_option maxRecDepth 100000 in
theorem own_ldI {ad : Addr} {v : Int} (hc : w.cell? ad = some (.int .i64 v)) (hs : ad.spot = none) {c : Frame} {cs : List Frame} {main : Bool} {Stop : Goroutine → World → Prop} (h : Own Try.prog main F Stop (G (c.finish (.int .i64 v)) cs) (w)) :
    Own Try.prog main F Stop (G (Frame.enter Try.prog 54 #[.pointer (some ad)] .normal) (c :: cs)) w := by
  obtain ⟨ab, ao, asp⟩ := ad
  simp only at hs
  subst hs
  rw [enter_ail]
  walk_nrm
  rw [ails0_eq]
  refine ogS ?_
  rw [ailr0_eq]
  refine ogR ?_
  simp only [ailo0, Code.opsOf, ailr0, Code.piece, ailBody, Try.f54, Option.getD_some, List.size_toArray, List.length_cons, List.length_nil, Nat.reduceAdd, Nat.zero_add, List.range, List.range.loop]
  (refine oW fun dd K hK => ?_; go_simp; refine qT hK ?_; clear hK K)
  refine ogE ?_
  rw [ails1_eq]
  refine ogS ?_
  rw [ailr1_eq]
  refine ogR ?_
  simp only [ailo1, Code.opsOf, ailr1, Code.piece, ailBody, Try.f54, Option.getD_some, List.size_toArray, List.length_cons, List.length_nil, Nat.reduceAdd, Nat.zero_add, List.range, List.range.loop]
  (refine oW fun dd K hK => ?_; go_simp; refine qT hK ?_; clear hK K)
  (refine oW fun dd K hK => ?_; go_simp; refine qT hK ?_; clear hK K)
  (refine oW fun dd K hK => ?_; go_simp; refine qT hK ?_; clear hK K)
  refine own_load_int (k := .i64) (f := 88) (fn := Try.f88) rfl rfl (by decide) rfl Try.func88 rfl rfl rfl rfl rfl hc ?_
  walk_nrm
  (refine oW fun dd K hK => ?_; go_simp; refine qT hK ?_; clear hK K)
  refine ogE ?_
  refine ogX ?_
  refine own_go rfl (fun d => stepG_leave (fn := Try.f54) (v := .int .i64 v) rfl rfl Try.func54 (by simp [results, Try.f54]) (by simp [results, Try.f54, go_sem])) ?_
  exact h
set_option maxRecDepth 100000 in
theorem own_stI {ad : Addr} {u : Value} {v : Int} (hc : w.cell? ad = some u) (hs : ad.spot = none) (hz : w.frozen? ad = false) (hnh : ¬ held F ad) {c : Frame} {cs : List Frame} {main : Bool} {Stop : Goroutine → World → Prop} (h : Own Try.prog main F Stop (G (c.finish (.tuple #[])) cs) (w.setCell ad (.int .i64 v))) :
    Own Try.prog main F Stop (G (Frame.enter Try.prog 52 #[.pointer (some ad), .int .i64 v] .normal) (c :: cs)) w := by
  obtain ⟨ab, ao, asp⟩ := ad
  simp only at hs
  subst hs
  rw [enter_ais]
  walk_nrm
  rw [aisr0_eq]
  refine ogR ?_
  simp only [aiso0, Code.opsOf, aisr0, Code.piece, aisBody, Try.f52, Option.getD_some, List.size_toArray, List.length_cons, List.length_nil, Nat.reduceAdd, Nat.zero_add, List.range, List.range.loop]
  (refine oW fun dd K hK => ?_; go_simp; refine qT hK ?_; clear hK K)
  (refine oW fun dd K hK => ?_; go_simp; refine qT hK ?_; clear hK K)
  (refine oW fun dd K hK => ?_; go_simp; refine qT hK ?_; clear hK K)
  (refine oW fun dd K hK => ?_; go_simp; refine qT hK ?_; clear hK K)
  refine own_store_int (k := .i64) (f := 87) (fn := Try.f87) rfl rfl (by decide) rfl Try.func87 rfl rfl rfl rfl rfl rfl rfl hc hz hnh ?_
  walk_nrm
  refine ogE ?_
  refine own_go rfl (fun d => stepG_end) ?_
  refine own_go rfl (fun d => stepG_leave (fn := Try.f52) (v := .tuple #[]) rfl rfl Try.func52 (by simp [results, Try.f52]) (by simp [results, Try.f52, go_sem])) ?_
  exact h
set_option maxRecDepth 100000 in
theorem own_stU {ad : Addr} {u : Value} {v : Int} (hc : w.cell? ad = some u) (hs : ad.spot = none) (hz : w.frozen? ad = false) (hnh : ¬ held F ad) {c : Frame} {cs : List Frame} {main : Bool} {Stop : Goroutine → World → Prop} (h : Own Try.prog main F Stop (G (c.finish (.tuple #[])) cs) (w.setCell ad (.int .u64 v))) :
    Own Try.prog main F Stop (G (Frame.enter Try.prog 74 #[.pointer (some ad), .int .u64 v] .normal) (c :: cs)) w := by
  obtain ⟨ab, ao, asp⟩ := ad
  simp only at hs
  subst hs
  rw [enter_aus]
  walk_nrm
  rw [ausr0_eq]
  refine ogR ?_
  simp only [auso0, Code.opsOf, ausr0, Code.piece, ausBody, Try.f74, Option.getD_some, List.size_toArray, List.length_cons, List.length_nil, Nat.reduceAdd, Nat.zero_add, List.range, List.range.loop]
  (refine oW fun dd K hK => ?_; go_simp; refine qT hK ?_; clear hK K)
  (refine oW fun dd K hK => ?_; go_simp; refine qT hK ?_; clear hK K)
  (refine oW fun dd K hK => ?_; go_simp; refine qT hK ?_; clear hK K)
  (refine oW fun dd K hK => ?_; go_simp; refine qT hK ?_; clear hK K)
  refine own_store_int (k := .u64) (f := 96) (fn := Try.f96) rfl rfl (by decide) rfl Try.func96 rfl rfl rfl rfl rfl rfl rfl hc hz hnh ?_
  walk_nrm
  refine ogE ?_
  refine own_go rfl (fun d => stepG_end) ?_
  refine own_go rfl (fun d => stepG_leave (fn := Try.f74) (v := .tuple #[]) rfl rfl Try.func74 (by simp [results, Try.f74]) (by simp [results, Try.f74, go_sem])) ?_
  exact h
set_option maxRecDepth 100000 in
theorem own_casU {ad : Addr} {v u n : Int} {t : Bool} (ht : (v == u) = t) (hc : w.cell? ad = some (.int .u64 v)) (hs : ad.spot = none) (hz : w.frozen? ad = false) (hnh : ¬ held F ad) {c : Frame} {cs : List Frame} {main : Bool} {Stop : Goroutine → World → Prop} (h : Own Try.prog main F Stop (G (c.finish (.bool t)) cs) (if t then w.setCell ad (.int .u64 n) else w)) :
    Own Try.prog main F Stop (G (Frame.enter Try.prog 110 #[.pointer (some ad), .int .u64 u, .int .u64 n] .normal) (c :: cs)) w := by
  obtain ⟨ab, ao, asp⟩ := ad
  simp only at hs
  subst hs
  rw [enter_auc]
  walk_nrm
  rw [aucs0_eq]
  refine ogS ?_
  rw [aucr0_eq]
  refine ogR ?_
  simp only [auco0, Code.opsOf, aucr0, Code.piece, aucBody, Try.f110, Option.getD_some, List.size_toArray, List.length_cons, List.length_nil, Nat.reduceAdd, Nat.zero_add, List.range, List.range.loop]
  (refine oW fun dd K hK => ?_; go_simp; refine qT hK ?_; clear hK K)
  refine ogE ?_
  rw [aucs1_eq]
  refine ogS ?_
  rw [aucr1_eq]
  refine ogR ?_
  simp only [auco1, Code.opsOf, aucr1, Code.piece, aucBody, Try.f110, Option.getD_some, List.size_toArray, List.length_cons, List.length_nil, Nat.reduceAdd, Nat.zero_add, List.range, List.range.loop]
  (refine oW fun dd K hK => ?_; go_simp; refine qT hK ?_; clear hK K)
  (refine oW fun dd K hK => ?_; go_simp; refine qT hK ?_; clear hK K)
  (refine oW fun dd K hK => ?_; go_simp; refine qT hK ?_; clear hK K)
  (refine oW fun dd K hK => ?_; go_simp; refine qT hK ?_; clear hK K)
  (refine oW fun dd K hK => ?_; go_simp; refine qT hK ?_; clear hK K)
  refine own_cas_int (k := .u64) (f := 114) (fn := Try.f114) rfl rfl (by decide) rfl Try.func114 rfl rfl rfl rfl ht rfl rfl rfl rfl hc hz hnh ?_
  walk_nrm
  (refine oW fun dd K hK => ?_; go_simp; refine qT hK ?_; clear hK K)
  refine ogE ?_
  refine ogX ?_
  refine own_go rfl (fun d => stepG_leave (fn := Try.f110) (v := .bool t) rfl rfl Try.func110 (by simp [results, Try.f110]) (by simp [results, Try.f110, go_sem])) ?_
  exact h
end Go.Proofs.Ytlcgkpapnpdfpaa
namespace Go.Proofs.Ytlcgkpapnpdfpaa
open Go Go.Conc Go.RowKit Go.Proofs
variable {F : Fz} {w : World}
def ansW (w : World) (ab : Nat) (b : Bool) (n : Int) : World := ((w.setCell ⟨ab, 0, none⟩ (.bool b)).setCell ⟨ab, 1, none⟩ (.int .i64 n)).setCell ⟨ab, 2, none⟩ (.slice none 0 0)
theorem grew3 {ab : Nat} (h : ∀ k, ¬ held F ⟨ab, k, none⟩) (x y z : Value) : Grew F w (((w.setCell ⟨ab, 0, none⟩ x).setCell ⟨ab, 1, none⟩ y).setCell ⟨ab, 2, none⟩ z) 0 :=
  ((grew_setCell rfl (h 0) x).trans (grew_setCell rfl (h 1) y)).trans (grew_setCell rfl (h 2) z)
theorem ansW_new (X : World) (x y z : Value) (b : Bool) (n : Int) : (((X.alloc (.cells #[x, y, z] 44)).setCell ⟨X.heap.size, 0, none⟩ (.bool b)).setCell ⟨X.heap.size, 1, none⟩ (.int .i64 n)).setCell ⟨X.heap.size, 2, none⟩ (.slice none 0 0) = X.alloc (.cells #[.bool b, .int .i64 n, .slice none 0 0] 44) := by go_simp
structure Ans (w : World) (ab : Nat) : Prop where
  o : ∃ x y z, w.heap[ab]? = some (.cells #[x, y, z] 44 (0, 0))
theorem Ans.c {ab : Nat} (h : Ans w ab) : ∃ x y z, w.cell? ⟨ab, 0, none⟩ = some x ∧ w.cell? ⟨ab, 1, none⟩ = some y ∧ w.cell? ⟨ab, 2, none⟩ = some z := by
  obtain ⟨x, y, z, h⟩ := h.o
  exact ⟨x, y, z, by simp [World.cell?, h], by simp [World.cell?, h], by simp [World.cell?, h]⟩
theorem Ans.z {ab : Nat} (h : Ans w ab) (k : Nat) : w.frozen? ⟨ab, k, none⟩ = false := by
  obtain ⟨x, y, z, h⟩ := h.o
  simp [World.frozen?, h]
theorem built46 (b : Bool) : Try.prog.built 44 [(0, .bool b)] = some #[.bool b, .int .i64 0, .slice none 0 0] := by kernel_rfl
@[go_sem] theorem run_build46 (b : Bool) (w : World) : (Instr.build 44 #[(0, .bool b)]).run Try.prog w = .ok (.agg #[.bool b, .int .i64 0, .slice none 0 0]) w := run_build w _ _ _ (built46 b)
@[go_sem] theorem ev_build46 (b : Bool) (w : World) (es : Array Event) : (Instr.build 44 #[(0, .bool b)]).events Try.prog w es = es := ev_build w es _ _ _ _ Try.underlying44 (built46 b)
theorem built46n (b : Bool) (n : Int) : Try.prog.built 44 [(0, .bool b), (1, .int .i64 n)] = some #[.bool b, .int .i64 n, .slice none 0 0] := by kernel_rfl
@[go_sem] theorem run_build46n (b : Bool) (n : Int) (w : World) : (Instr.build 44 #[(0, .bool b), (1, .int .i64 n)]).run Try.prog w = .ok (.agg #[.bool b, .int .i64 n, .slice none 0 0]) w := run_build w _ _ _ (built46n b n)
@[go_sem] theorem ev_build46n (b : Bool) (n : Int) (w : World) (es : Array Event) : (Instr.build 44 #[(0, .bool b), (1, .int .i64 n)]).events Try.prog w es = es := ev_build w es _ _ _ _ Try.underlying44 (built46n b n)
theorem built46z : Try.prog.built 44 [] = some #[.bool false, .int .i64 0, .slice none 0 0] := by kernel_rfl
@[go_sem] theorem run_build46z (w : World) : (Instr.build 44 #[]).run Try.prog w = .ok (.agg #[.bool false, .int .i64 0, .slice none 0 0]) w := run_build w _ _ _ built46z
@[go_sem] theorem ev_build46z (w : World) (es : Array Event) : (Instr.build 44 #[]).events Try.prog w es = es := ev_build w es _ _ _ _ Try.underlying44 built46z
end Go.Proofs.Ytlcgkpapnpdfpaa
namespace Go.Proofs.Ytlcgkpapnpdfpaa
open Go Go.Conc Go.RowKit Go.Proofs
variable {F : Fz} {w : World}
theorem grew4 {ab : Nat} (h : ∀ k, ¬ held F ⟨ab, k, none⟩) (x y z u : Value) : Grew F w ((((w.setCell ⟨ab, 0, none⟩ x).setCell ⟨ab, 1, none⟩ y).setCell ⟨ab, 2, none⟩ z).setCell ⟨ab, 3, none⟩ u) 0 :=
  (grew3 h x y z).trans (grew_setCell rfl (h 3) u)
theorem opW_new (X : World) (x y z u x' y' z' u' : Value) : ((((X.alloc (.cells #[x, y, z, u] 47)).setCell ⟨X.heap.size, 0, none⟩ x').setCell ⟨X.heap.size, 1, none⟩ y').setCell ⟨X.heap.size, 2, none⟩ z').setCell ⟨X.heap.size, 3, none⟩ u' = X.alloc (.cells #[x', y', z', u'] 47) := by go_simp
@[go_sem] theorem neq_nilfE (f : Fn) (x c : Array Value) (w : World) (es : Array Event) : (binOp .neq 98 (.func f x c) .nilFunc).events Try.prog w es = es := by kernel_rfl
noncomputable def dgBody : Code := Try.f99.body.getD .skip
noncomputable def dgs0 : Code := Code.piece [] dgBody
noncomputable def dgr0 : Code := Code.piece [true] dgBody
noncomputable def dgo0 : Array Oper := Code.opsOf dgr0
noncomputable def dgb0 : Code := Code.piece [false] dgBody
noncomputable def dgl1 : Code := Code.piece [false, true] dgBody
noncomputable def dgs2 : Code := Code.piece [false, true, true] dgBody
noncomputable def dgr1 : Code := Code.piece [false, true, true, true] dgBody
noncomputable def dgo1 : Array Oper := Code.opsOf dgr1
noncomputable def dgs3 : Code := Code.piece [false, true, true, false] dgBody
noncomputable def dgc12 : Code := Code.piece [false, true, true, false, true] dgBody
noncomputable def dgs4 : Code := Code.piece [false, true, true, false, false] dgBody
noncomputable def dgb1 : Code := Code.piece [false, true, true, false, false, true] dgBody
noncomputable def dgs5 : Code := Code.piece [false, true, true, false, false, true, true] dgBody
noncomputable def dgr2 : Code := Code.piece [false, true, true, false, false, true, true, true] dgBody
noncomputable def dgo2 : Array Oper := Code.opsOf dgr2
noncomputable def dgs6 : Code := Code.piece [false, true, true, false, false, true, true, false] dgBody
noncomputable def dgr3 : Code := Code.piece [false, true, true, false, false, true, true, false, true] dgBody
noncomputable def dgo3 : Array Oper := Code.opsOf dgr3
noncomputable def dgs7 : Code := Code.piece [false, true, true, false, false, true, true, false, false] dgBody
noncomputable def dgs8 : Code := Code.piece [false, true, true, false, false, true, true, false, false, true] dgBody
noncomputable def dgr4 : Code := Code.piece [false, true, true, false, false, true, true, false, false, true, true] dgBody
noncomputable def dgo4 : Array Oper := Code.opsOf dgr4
noncomputable def dgc16 : Code := Code.piece [false, true, true, false, false, true, true, false, false, true, false] dgBody
noncomputable def dgr5 : Code := Code.piece [false, true, true, false, false, true, true, false, false, true, false, true] dgBody
noncomputable def dgo5 : Array Oper := Code.opsOf dgr5
noncomputable def dgr6 : Code := Code.piece [false, true, true, false, false, true, true, false, false, false] dgBody
noncomputable def dgo6 : Array Oper := Code.opsOf dgr6
noncomputable def dgr7 : Code := Code.piece [false, true, true, false, false, false] dgBody
noncomputable def dgo7 : Array Oper := Code.opsOf dgr7
theorem dgs0_eq : dgs0 = .seq dgr0 dgb0 := by kernel_rfl
theorem dgr0_eq : dgr0 = .region 0 dgo0 false := by kernel_rfl
theorem dgb0_eq : dgb0 = .block 0 dgl1 := by kernel_rfl
theorem dgl1_eq : dgl1 = .loop dgs2 := by kernel_rfl
theorem dgs2_eq : dgs2 = .seq dgr1 dgs3 := by kernel_rfl
theorem dgr1_eq : dgr1 = .region 1 dgo1 false := by kernel_rfl
theorem dgs3_eq : dgs3 = .seq dgc12 dgs4 := by kernel_rfl
theorem dgc12_eq : dgc12 = .cond (.tmp 12) .skip (.exit 0) := by kernel_rfl
theorem dgs4_eq : dgs4 = .seq dgb1 dgr7 := by kernel_rfl
theorem dgb1_eq : dgb1 = .block 1 dgs5 := by kernel_rfl
theorem dgs5_eq : dgs5 = .seq dgr2 dgs6 := by kernel_rfl
theorem dgr2_eq : dgr2 = .region 2 dgo2 false := by kernel_rfl
theorem dgs6_eq : dgs6 = .seq dgr3 dgs7 := by kernel_rfl
theorem dgr3_eq : dgr3 = .region 3 dgo3 false := by kernel_rfl
theorem dgs7_eq : dgs7 = .seq dgs8 dgr6 := by kernel_rfl
theorem dgs8_eq : dgs8 = .seq dgr4 dgc16 := by kernel_rfl
theorem dgr4_eq : dgr4 = .region 4 dgo4 false := by kernel_rfl
theorem dgc16_eq : dgc16 = .cond (.tmp 16) dgr5 .skip := by kernel_rfl
theorem dgr5_eq : dgr5 = .region 5 dgo5 false := by kernel_rfl
theorem dgr6_eq : dgr6 = .region 6 dgo6 true := by kernel_rfl
theorem dgr7_eq : dgr7 = .region 7 dgo7 false := by kernel_rfl
theorem enter_dg (args : Array Value) : Frame.enter Try.prog 99 args .normal = (Go.Conc.base 99).at { tmps := args ++ Array.replicate (33 - args.size) undef, defers := [] } [.code dgs0] := enter_at args Try.func99 rfl
theorem callable99 : Callable 99 := callable Try.func99 rfl rfl
def dgT (s : Nat → Value) : Array Value := #[s 0, s 1, s 2, s 3, s 4, s 5, s 6, s 7, s 8, s 9, s 10, s 11, s 12, s 13, s 14, s 15, s 16, s 17, s 18, s 19, s 20, s 21, s 22, s 23, s 24, s 25, s 26, s 27, s 28, s 29, s 30, s 31, s 32]
theorem dgT_of {A : Array Value} (h : A.size = 33) : ∃ s, A = dgT s := by
  obtain ⟨s, hs, _⟩ := arr_lit A h
  exact ⟨s, hs⟩
set_option maxRecDepth 100000 in
set_option maxHeartbeats 2000000 in
theorem dg_0 {sv : Value} {ob db ib av : Nat} {oa : Option Addr} {ol oc : Nat} (c1 : w.cell? ⟨ob, 0, none⟩ = some (.slice oa ol oc)) (z1 : w.frozen? ⟨ob, 0, none⟩ = false) {cs : List Frame} {main : Bool} {Stop : Goroutine → World → Prop}
    (h : ∀ A, Slots 33 A [(0, sv), (1, .pointer (some ⟨ob, 0, none⟩)), (2, .pointer (some ⟨db, 0, none⟩)), (3, .pointer (some ⟨ib, 0, none⟩)), (4, .pointer (some ⟨av, 0, none⟩)), (9, .slice oa ol oc), (10, .int .i64 ol), (11, .int .i64 (0 : Nat))] → Own Try.prog main F Stop (G ((Go.Conc.base 99).at ⟨A, []⟩ [.code dgs2, .inLoop dgs2, .inBlock 0]) cs) w) :
    Own Try.prog main F Stop (G (Frame.enter Try.prog 99 #[sv, .pointer (some ⟨ob, 0, none⟩), .pointer (some ⟨db, 0, none⟩), .pointer (some ⟨ib, 0, none⟩), .pointer (some ⟨av, 0, none⟩)] .normal) cs) w := by
  rw [enter_dg]
  walk_nrm
  rw [dgs0_eq]
  refine ogS ?_
  rw [dgr0_eq]
  refine ogR ?_
  simp only [dgo0, Code.opsOf, dgr0, Code.piece, dgBody, Try.f99, Option.getD_some, List.size_toArray, List.length_cons, List.length_nil, Nat.reduceAdd, Nat.zero_add, List.range, List.range.loop]
  (refine oW fun dd K hK => ?_; go_simp; refine qL hK ?_; clear hK K)
  (refine oW fun dd K hK => ?_; go_simp; refine qT hK ?_; clear hK K)
  (refine oW fun dd K hK => ?_; go_simp; refine qT hK ?_; clear hK K)
  refine ogE ?_
  rw [dgb0_eq]
  refine ogB ?_
  rw [dgl1_eq]
  refine ogP ?_
  refine h _ ?_
  exact ⟨rfl, rfl, rfl, rfl, rfl, rfl, rfl, rfl, rfl, trivial⟩
set_option maxRecDepth 100000 in
set_option maxHeartbeats 2000000 in
theorem dg_3 {sv : Value} {ob db ib av : Nat} {oa : Option Addr} {ol oc : Nat} {A : Array Value} (hA : Slots 33 A [(0, sv), (1, .pointer (some ⟨ob, 0, none⟩)), (2, .pointer (some ⟨db, 0, none⟩)), (3, .pointer (some ⟨ib, 0, none⟩)), (4, .pointer (some ⟨av, 0, none⟩)), (9, .slice oa ol oc), (10, .int .i64 ol), (11, .int .i64 ol)]) {c : Frame} {cs : List Frame} {main : Bool} {Stop : Goroutine → World → Prop}
    (h : Own Try.prog main F Stop (G (c.finish (.tuple #[])) cs) w) :
    Own Try.prog main F Stop (G ((Go.Conc.base 99).at ⟨A, []⟩ [.code dgs2, .inLoop dgs2, .inBlock 0]) (c :: cs)) w := by
  obtain ⟨hsz, h0, h1, h2, h3, h4, h9, h10, h11, _⟩ := hA
  obtain ⟨s, rfl⟩ := dgT_of hsz
  change s 0 = _ at h0
  change s 1 = _ at h1
  change s 2 = _ at h2
  change s 3 = _ at h3
  change s 4 = _ at h4
  change s 9 = _ at h9
  change s 10 = _ at h10
  change s 11 = _ at h11
  clear hsz
  simp only [dgT, h0, h1, h2, h3, h4, h9, h10, h11]
  clear h0 h1 h2 h3 h4 h9 h10 h11
  have hlt : decide ((ol : Int) < (ol : Int)) = false := by simp
  rw [dgs2_eq]
  refine ogS ?_
  rw [dgr1_eq]
  refine ogR ?_
  simp only [dgo1, Code.opsOf, dgr1, Code.piece, dgBody, Try.f99, Option.getD_some, List.size_toArray, List.length_cons, List.length_nil, Nat.reduceAdd, Nat.zero_add, List.range, List.range.loop]
  (refine oW fun dd K hK => ?_; go_simp; refine qT hK ?_; clear hK K)
  refine ogE ?_
  rw [dgs3_eq]
  refine ogS ?_
  rw [dgc12_eq]
  refine ogF ?_
  simp only [Bool.false_eq_true, if_false]
  refine own_go rfl (fun d => stepG_exit rfl) ?_
  refine own_go rfl (fun d => stepG_end) ?_
  refine own_go rfl (fun d => stepG_leave (fn := Try.f99) (v := .tuple #[]) rfl rfl Try.func99 (by simp [results, Try.f99]) (by simp [results, Try.f99, go_sem])) ?_
  exact h
set_option maxRecDepth 100000 in
set_option maxHeartbeats 2000000 in
theorem dg_1 {n : Nat} (hU : Under F n) (hn : n ≤ w.heap.size) {sv : Value} {ob db ib av : Nat} {opb oo ol oc k df : Nat} {i : Nat} {kd a b c0 : Int} {first capt : Array Value} (hdf : Callable df) (hkl : k < ol) (hol : ol ≤ 65536) (cd : w.cell? ⟨db, 0, none⟩ = some (.func (.func df) first capt)) (zd : w.frozen? ⟨db, 0, none⟩ = false) (ci : w.cell? ⟨ib, 0, none⟩ = some (.int .i64 i)) (zi : w.frozen? ⟨ib, 0, none⟩ = false) (ld : db < w.heap.size) (li : ib < w.heap.size) (f0 : w.cell? ⟨opb, oo + k * 4, none⟩ = some (.int .i64 kd)) (f1 : w.cell? ⟨opb, oo + k * 4 + 1, none⟩ = some (.int .i64 a)) (f2 : w.cell? ⟨opb, oo + k * 4 + 2, none⟩ = some (.int .i64 b)) (f3 : w.cell? ⟨opb, oo + k * 4 + 3, none⟩ = some (.int .i64 c0)) (g0 : w.frozen? ⟨opb, oo + k * 4, none⟩ = false) (g1 : w.frozen? ⟨opb, oo + k * 4 + 1, none⟩ = false) (g2 : w.frozen? ⟨opb, oo + k * 4 + 2, none⟩ = false) (g3 : w.frozen? ⟨opb, oo + k * 4 + 3, none⟩ = false) {A : Array Value} (hA : Slots 33 A [(0, sv), (1, .pointer (some ⟨ob, 0, none⟩)), (2, .pointer (some ⟨db, 0, none⟩)), (3, .pointer (some ⟨ib, 0, none⟩)), (4, .pointer (some ⟨av, 0, none⟩)), (9, .slice (some ⟨opb, oo, none⟩) ol oc), (10, .int .i64 ol), (11, .int .i64 k)]) {cs : List Frame} {main : Bool} {Stop : Goroutine → World → Prop}
    (h : ∀ A, Slots 33 A [(0, sv), (1, .pointer (some ⟨ob, 0, none⟩)), (2, .pointer (some ⟨db, 0, none⟩)), (3, .pointer (some ⟨ib, 0, none⟩)), (4, .pointer (some ⟨av, 0, none⟩)), (7, .pointer (some ⟨w.heap.size, 0, none⟩)), (8, .pointer (some ⟨w.heap.size + 1, 0, none⟩)), (9, .slice (some ⟨opb, oo, none⟩) ol oc), (10, .int .i64 ol), (11, .int .i64 k)] → Own Try.prog main F Stop (G (Frame.enter Try.prog df (first ++ #[sv, .int .i64 i, .agg #[.int .i64 kd, .int .i64 a, .int .i64 b, .int .i64 c0]] ++ capt) .normal) (((Go.Conc.base 99).at ⟨A, []⟩ [.inRegion dgo5 [4, 5], .code dgr6, .inBlock 1, .code dgr7, .inLoop dgs2, .inBlock 0]) :: cs)) ((w.alloc (.cells #[.int .i64 kd, .int .i64 a, .int .i64 b, .int .i64 c0] 47)).alloc (.cells #[.bool false, .int .i64 0, .slice none 0 0] 44))) :
    Own Try.prog main F Stop (G ((Go.Conc.base 99).at ⟨A, []⟩ [.code dgs2, .inLoop dgs2, .inBlock 0]) cs) w := by
  obtain ⟨hsz, h0, h1, h2, h3, h4, h9, h10, h11, _⟩ := hA
  obtain ⟨s, rfl⟩ := dgT_of hsz
  change s 0 = _ at h0
  change s 1 = _ at h1
  change s 2 = _ at h2
  change s 3 = _ at h3
  change s 4 = _ at h4
  change s 9 = _ at h9
  change s 10 = _ at h10
  change s 11 = _ at h11
  clear hsz
  simp only [dgT, h0, h1, h2, h3, h4, h9, h10, h11]
  clear h0 h1 h2 h3 h4 h9 h10 h11
  have hlt : decide ((k : Int) < (ol : Int)) = true := by simp; omega
  have hlt2 : decide (k < ol) = true := by simp; omega
  rw [dgs2_eq]
  refine ogS ?_
  rw [dgr1_eq]
  refine ogR ?_
  simp only [dgo1, Code.opsOf, dgr1, Code.piece, dgBody, Try.f99, Option.getD_some, List.size_toArray, List.length_cons, List.length_nil, Nat.reduceAdd, Nat.zero_add, List.range, List.range.loop]
  (refine oW fun dd K hK => ?_; go_simp; refine qT hK ?_; clear hK K)
  refine ogE ?_
  rw [dgs3_eq]
  refine ogS ?_
  rw [dgc12_eq]
  refine ogT ?_
  simp only [if_true]
  refine ogK ?_
  rw [dgs4_eq]
  refine ogS ?_
  rw [dgb1_eq]
  refine ogB ?_
  rw [dgs5_eq]
  refine ogS ?_
  rw [dgr2_eq]
  refine ogR ?_
  simp only [dgo2, Code.opsOf, dgr2, Code.piece, dgBody, Try.f99, Option.getD_some, List.size_toArray, List.length_cons, List.length_nil, Nat.reduceAdd, Nat.zero_add, List.range, List.range.loop]
  (refine oW fun dd K hK => ?_; go_simp; refine qX hK ?_; clear hK K)
  (refine oW fun dd K hK => ?_; go_simp; refine hK _ _ ⟨⟨⟨0, Grew.refl _ _⟩, fun e he => by (have hm := mem_listed he; clear he hK; simp [go_sem, f0, f1, f2, f3, g0, g1, g2, g3] at hm; rcases hm with rfl | rfl | rfl | rfl <;> exact evT_read _ _)⟩, Own.at ?_ dd⟩; clear hK K)
  (refine oW fun dd K hK => ?_; go_simp; refine qA hK hU ?_; clear hK K)
  (refine oW fun dd K hK => ?_; go_simp; refine hK _ _ ⟨⟨⟨0, grew4 (fun k => not_held hU (show n ≤ w.heap.size by omega)) _ _ _ _⟩, fun e he => by (have hm := mem_listed he; clear he hK; simp [go_sem, storedEv] at hm; rcases hm with rfl | rfl | rfl | rfl <;> exact evT_write _ _ ((fun k => not_held hU (show n ≤ w.heap.size by omega)) _))⟩, ?_⟩; clear hK K; simp only [setCell_at']; refine Own.at ?_ dd)
  have e1 := opW_new w (.int .i64 0) (.int .i64 0) (.int .i64 0) (.int .i64 0) (.int .i64 kd) (.int .i64 a) (.int .i64 b) (.int .i64 c0)
  rw [e1]
  clear e1
  refine ogE ?_
  rw [dgs6_eq]
  refine ogS ?_
  rw [dgr3_eq]
  refine ogR ?_
  simp only [dgo3, Code.opsOf, dgr3, Code.piece, dgBody, Try.f99, Option.getD_some, List.size_toArray, List.length_cons, List.length_nil, Nat.reduceAdd, Nat.zero_add, List.range, List.range.loop]
  (refine oW fun dd K hK => ?_; go_simp; refine qA hK hU ?_; clear hK K)
  refine ogE ?_
  rw [dgs7_eq]
  refine ogS ?_
  rw [dgs8_eq]
  refine ogS ?_
  rw [dgr4_eq]
  refine ogR ?_
  simp only [dgo4, Code.opsOf, dgr4, Code.piece, dgBody, Try.f99, Option.getD_some, List.size_toArray, List.length_cons, List.length_nil, Nat.reduceAdd, Nat.zero_add, List.range, List.range.loop]
  (refine oW fun dd K hK => ?_; go_simp; refine qL hK ?_; clear hK K)
  (refine oW fun dd K hK => ?_; go_simp; refine qT hK ?_; clear hK K)
  refine ogE ?_
  rw [dgc16_eq]
  refine ogT ?_
  simp only [if_true]
  rw [dgr5_eq]
  refine ogR ?_
  simp only [dgo5, Code.opsOf, dgr5, Code.piece, dgBody, Try.f99, Option.getD_some, List.size_toArray, List.length_cons, List.length_nil, Nat.reduceAdd, Nat.zero_add, List.range, List.range.loop]
  (refine oW fun dd K hK => ?_; go_simp; refine qL hK ?_; clear hK K)
  (refine oW fun dd K hK => ?_; go_simp; refine qT hK ?_; clear hK K)
  (refine oW fun dd K hK => ?_; go_simp; refine qL hK ?_; clear hK K)
  (refine oW fun dd K hK => ?_; go_simp; refine hK _ _ ⟨⟨⟨0, Grew.refl _ _⟩, fun e he => by (have hm := mem_listed he; clear he hK; simp [go_sem] at hm; rcases hm with rfl | rfl | rfl | rfl <;> exact evT_read _ _)⟩, Own.at ?_ dd⟩; clear hK K)
  refine own_call (f := df) (args := first ++ #[sv, .int .i64 i, .agg #[.int .i64 kd, .int .i64 a, .int .i64 b, .int .i64 c0]] ++ capt) rfl rfl (by decide) (fun w => by simp [execOp, Act.eval, resolve, invoke, Deferred.ofValue, hdf.run]) (fun w => by simp [execOp, Act.eval, resolve, invoke, Deferred.ofValue, hdf.run, hdf.quiet]) ?_
  refine h _ ?_
  exact ⟨rfl, rfl, rfl, rfl, rfl, rfl, rfl, rfl, rfl, rfl, rfl, trivial⟩
end Go.Proofs.Ytlcgkpapnpdfpaa
namespace Go.Proofs.Ytlcgkpapnpdfpaa
open Go Go.Conc Go.RowKit Go.Proofs
variable {F : Fz} {w w' : World}
theorem info44 : ∃ i, Try.prog.info? 44 = some i ∧ i.zero = some (.agg #[.bool false, .int .i64 0, .slice none 0 0]) ∧ i.size = 3 ∧ i.bytes = 40 := by
  have h : (Try.prog.info? 44).map (fun i => (i.size, i.bytes)) = some (3, 40) := by kernel_rfl
  have h0 : (Try.prog.info? 44).bind (·.zero) = some (.agg #[.bool false, .int .i64 0, .slice none 0 0]) := by kernel_rfl
  obtain ⟨i, hi, h1⟩ := Option.map_eq_some_iff.1 h
  rw [hi] at h0
  simp only [Prod.mk.injEq] at h1
  exact ⟨i, hi, h0, h1.1, h1.2⟩
theorem cell_three_new (w : World) (x y z : Value) (t : TypeId) : ∀ j u, [x, y, z][j]? = some u → (w.alloc (.cells #[x, y, z] t)).cell? ((⟨w.heap.size, 0, none⟩ : Addr).add j) = some u := by
  intro j u h
  have hb := heap_alloc_new w (.cells #[x, y, z] t)
  have e : (⟨w.heap.size, 0, none⟩ : Addr).add j = ⟨w.heap.size, j, none⟩ := by cases j <;> simp [Addr.add]
  rw [e]
  unfold World.cell?
  simp only
  rw [hb]
  simpa using h
theorem mask_same {j r : Nat} (hg : Grew F w w' j) (h : (mask F w').heap[r]? = (mask F w).heap[r]?) (hr : r < w.heap.size) : w'.heap[r]? = w.heap[r]? := by
  rw [mask_get, mask_get] at h
  obtain ⟨o, ho⟩ : ∃ o, w.heap[r]? = some o := ⟨_, Array.getElem?_eq_getElem hr⟩
  rcases hg.objs r o ho with ⟨c, e, z, c', rfl, h2, _⟩ | h2
  · rw [ho, h2] at h
    simp only [Option.map_some, maskObj, Option.some.injEq, Obj.cells.injEq, and_true] at h
    rw [ho, h2, h]
  · rw [ho, h2]
theorem own_weaken {P : Program} {main : Bool} {F2 : Fz} {Stop : Goroutine → World → Prop} {g : Goroutine} (hF : ∀ a, held F a → held F2 a) (h : Own P main F2 Stop g w) : Own P main F Stop g w := by
  induction h with
  | stop h => exact .stop h
  | step' hr g' w' es hs hg _ ih =>
    exact .step' hr g' w' es hs (fun d => by
      obtain ⟨⟨j, h1⟩, h2⟩ := hg d
      exact ⟨⟨j, h1.tape, h1.drawn, h1.os, h1.output, h1.size, h1.objs, fun a ha => h1.keep a (hF a ha)⟩, fun e he => ⟨fun hw => by obtain ⟨a, e1, e2⟩ := (h2 e he).1 hw; exact ⟨a, e1, fun x => e2 (hF a x)⟩, (h2 e he).2⟩⟩) ih
structure SG (F : Fz) (av ib aa ab n i : Nat) (v x y z : Value) (u : World) : Prop where
  wf : Wf F u
  la0 : Lies u ⟨av, 0, none⟩ (.slice (some ⟨aa, 0, none⟩) n n)
  li0 : Lies u ⟨ib, 0, none⟩ (.int .i64 i)
  arr : ∃ c, u.heap[aa]? = some (.cells c 42 (0, 0)) ∧ c[i]? = some v
  an : u.heap[ab]? = some (.cells #[x, y, z] 44 (0, 0))
section
variable {av ib aa ab n i : Nat} {v x y z : Value} {u : World}
theorem SG.at (h : SG F av ib aa ab n i v x y z u) (d : Nat) : SG F av ib aa ab n i v x y z (u.at d) := ⟨⟨h.wf.own⟩, h.la0.at d, h.li0.at d, h.arr, h.an⟩
theorem SG.la (h : SG F av ib aa ab n i v x y z u) : Lies u ⟨aa, i, none⟩ v := by obtain ⟨c, h1, h2⟩ := h.arr; exact ⟨⟨c, _, h1, h2⟩, rfl⟩
theorem SG.alloc {nn : Nat} (hU : Under F nn) (ht : nn ≤ u.heap.size) (h : SG F av ib aa ab n i v x y z u) (o : Obj) : SG F av ib aa ab n i v x y z (u.alloc o) :=
  ⟨h.wf.of_grew (grew_alloc hU ht o), h.la0.alloc o, h.li0.alloc o, by obtain ⟨c, h1, h2⟩ := h.arr; exact ⟨c, (heap_alloc_lt _ _ (Array.getElem?_eq_some_iff.1 h1).1).trans h1, h2⟩, (heap_alloc_lt _ _ (Array.getElem?_eq_some_iff.1 h.an).1).trans h.an⟩
theorem SG.ca (h : SG F av ib aa ab n i v x y z u) : u.cell? ⟨av, 0, none⟩ = some (.slice (some ⟨aa, 0, none⟩) n n) := h.la0.c
theorem SG.za (h : SG F av ib aa ab n i v x y z u) : u.frozen? ⟨av, 0, none⟩ = false := h.la0.z
theorem SG.ci (h : SG F av ib aa ab n i v x y z u) : u.cell? ⟨ib, 0, none⟩ = some (.int .i64 i) := h.li0.c
theorem SG.zi (h : SG F av ib aa ab n i v x y z u) : u.frozen? ⟨ib, 0, none⟩ = false := h.li0.z
theorem SG.cl (h : SG F av ib aa ab n i v x y z u) : u.cell? ⟨aa, i, none⟩ = some v := h.la.c
theorem SG.zl (h : SG F av ib aa ab n i v x y z u) : u.frozen? ⟨aa, i, none⟩ = false := h.la.z
theorem SG.c0 (h : SG F av ib aa ab n i v x y z u) : u.cell? ⟨ab, 0, none⟩ = some x := by simp [World.cell?, h.an]
theorem SG.c1 (h : SG F av ib aa ab n i v x y z u) : u.cell? ⟨ab, 1, none⟩ = some y := by simp [World.cell?, h.an]
theorem SG.c2 (h : SG F av ib aa ab n i v x y z u) : u.cell? ⟨ab, 2, none⟩ = some z := by simp [World.cell?, h.an]
theorem SG.zz (h : SG F av ib aa ab n i v x y z u) (k : Nat) : u.frozen? ⟨ab, k, none⟩ = false := by simp [World.frozen?, h.an]
end
structure NotedA (F : Fz) (aa ab i m : Nat) (v x y z : Value) (xs : List Value) (w w' : World) (v' : Value) : Prop where
  wf : Wf F w'
  row : w'.ownsRow 0 44 3 v' (m + 1) (xs ++ [x, y, z])
  arr : ∀ c, w.heap[aa]? = some (.cells c 42 (0, 0)) → w'.heap[aa]? = some (.cells (c.setIfInBounds i v') 42 (0, 0))
  size : w.heap.size ≤ w'.heap.size
  own : ∀ b, Value.ownBlock v' = some b → some b = Value.ownBlock v ∨ w.heap.size ≤ b
  old : ∀ r, r < w.heap.size → r ≠ aa → some r ≠ Value.ownBlock v → w'.heap[r]? = w.heap[r]?
set_option maxRecDepth 100000 in
set_option maxHeartbeats 2000000 in
theorem dg_2a {sv : Value} {ansb : Bool} {ansn : Int} {la : Option Addr} {ll lc : Nat} {ob db ib av ab k : Nat} {oa : Option Addr} {ol oc : Nat} (ha : Ans w ab) (hnh : ∀ k, ¬ held F ⟨ab, k, none⟩) {A : Array Value} (hA : Slots 33 A [(0, sv), (1, .pointer (some ⟨ob, 0, none⟩)), (2, .pointer (some ⟨db, 0, none⟩)), (3, .pointer (some ⟨ib, 0, none⟩)), (4, .pointer (some ⟨av, 0, none⟩)), (8, .pointer (some ⟨ab, 0, none⟩)), (9, .slice oa ol oc), (10, .int .i64 ol), (11, .int .i64 k)]) {cs : List Frame} {main : Bool} {Stop : Goroutine → World → Prop}
    (h : ∀ A, Slots 33 A [(0, sv), (1, .pointer (some ⟨ob, 0, none⟩)), (2, .pointer (some ⟨db, 0, none⟩)), (3, .pointer (some ⟨ib, 0, none⟩)), (4, .pointer (some ⟨av, 0, none⟩)), (8, .pointer (some ⟨ab, 0, none⟩)), (9, .slice oa ol oc), (10, .int .i64 ol), (11, .int .i64 k)] → Own Try.prog main F Stop (G ((Go.Conc.base 99).at ⟨A, []⟩ [.code dgr6, .inBlock 1, .code dgr7, .inLoop dgs2, .inBlock 0]) cs) (((w.setCell ⟨ab, 0, none⟩ (.bool ansb)).setCell ⟨ab, 1, none⟩ (.int .i64 ansn)).setCell ⟨ab, 2, none⟩ (.slice la ll lc))) :
    Own Try.prog main F Stop (G (((Go.Conc.base 99).at ⟨A, []⟩ [.inRegion dgo5 [4, 5], .code dgr6, .inBlock 1, .code dgr7, .inLoop dgs2, .inBlock 0]).finish (.agg #[.bool ansb, .int .i64 ansn, .slice la ll lc])) cs) w := by
  obtain ⟨hsz, h0, h1, h2, h3, h4, h8, h9, h10, h11, _⟩ := hA
  obtain ⟨s, rfl⟩ := dgT_of hsz
  change s 0 = _ at h0
  change s 1 = _ at h1
  change s 2 = _ at h2
  change s 3 = _ at h3
  change s 4 = _ at h4
  change s 8 = _ at h8
  change s 9 = _ at h9
  change s 10 = _ at h10
  change s 11 = _ at h11
  clear hsz
  simp only [dgT, h0, h1, h2, h3, h4, h8, h9, h10, h11]
  clear h0 h1 h2 h3 h4 h8 h9 h10 h11
  obtain ⟨x0, x1, x2, c0, c1, c2⟩ := ha.c
  have z0 := ha.z 0
  have z1 := ha.z 1
  have z2 := ha.z 2
  rw [Frame.finish_at]
  simp only [dgo5, Code.opsOf, dgr5, Code.piece, dgBody, Try.f99, Option.getD_some, List.size_toArray, List.length_cons, List.length_nil, Nat.reduceAdd, Nat.zero_add, List.range, List.range.loop]
  walk_nrm
  (refine oW fun dd K hK => ?_; go_simp; refine hK _ _ ⟨⟨⟨0, grew3 hnh _ _ _⟩, fun e he => by (have hm := mem_listed he; clear he hK; simp [go_sem, storedEv, c0, c1, c2, z0, z1, z2] at hm; rcases hm with rfl | rfl | rfl <;> exact evT_write _ _ (hnh _))⟩, ?_⟩; clear hK K; simp only [setCell_at']; refine Own.at ?_ dd)
  refine ogE ?_
  refine h _ ?_
  exact ⟨rfl, rfl, rfl, rfl, rfl, rfl, rfl, rfl, rfl, rfl, trivial⟩
set_option maxRecDepth 100000 in
set_option maxHeartbeats 8000000 in
theorem dg_2b {nn : Nat} (hU : Under F nn) (htop : nn ≤ w.heap.size) {sv x y z v : Value} {xs : List Value} (hx : x.oneCell' = true ∧ y.oneCell' = true ∧ z.oneCell' = true) {ob db ib av aa ab n i k m : Nat} {oa : Option Addr} {ol oc : Nat} (hin : i < n) (hm : m < 65536)
    (hs : SG F av ib aa ab n i v x y z w) (hrow : w.ownsRow 0 44 3 v m xs) (hFa : F aa = none) (hFv : ∀ b, Value.ownBlock v = some b → F b = none) (hne : some aa ≠ Value.ownBlock v ∧ some ab ≠ Value.ownBlock v ∧ some av ≠ Value.ownBlock v ∧ some ib ≠ Value.ownBlock v) (hall : ∀ r c e z0, w.heap[r]? = some (.cells c e z0) → r ≠ aa → some r ≠ Value.ownBlock v → 0 < c.size → ∃ z, F r = some z ∧ z ≠ (0, 0)) {A : Array Value} (hA : Slots 33 A [(0, sv), (1, .pointer (some ⟨ob, 0, none⟩)), (2, .pointer (some ⟨db, 0, none⟩)), (3, .pointer (some ⟨ib, 0, none⟩)), (4, .pointer (some ⟨av, 0, none⟩)), (8, .pointer (some ⟨ab, 0, none⟩)), (9, .slice oa ol oc), (10, .int .i64 ol), (11, .int .i64 k)]) {cs : List Frame} {main : Bool} {Stop : Goroutine → World → Prop} {kk : List Item}
    (h : ∀ (w' : World) (v' : Value) (A : Array Value), NotedA F aa ab i m v x y z xs w w' v' → Slots 33 A [(0, sv), (1, .pointer (some ⟨ob, 0, none⟩)), (2, .pointer (some ⟨db, 0, none⟩)), (3, .pointer (some ⟨ib, 0, none⟩)), (4, .pointer (some ⟨av, 0, none⟩)), (8, .pointer (some ⟨ab, 0, none⟩)), (9, .slice oa ol oc), (10, .int .i64 ol), (11, .int .i64 k)] → Own Try.prog main F Stop (G ((Go.Conc.base 99).at ⟨A, []⟩ kk) cs) w') :
    Own Try.prog main F Stop (G ((Go.Conc.base 99).at ⟨A, []⟩ (.code dgr6 :: kk)) cs) w := by
  obtain ⟨hsz, h0, h1, h2, h3, h4, h8, h9, h10, h11, _⟩ := hA
  obtain ⟨s, rfl⟩ := dgT_of hsz
  change s 0 = _ at h0
  change s 1 = _ at h1
  change s 2 = _ at h2
  change s 3 = _ at h3
  change s 4 = _ at h4
  change s 8 = _ at h8
  change s 9 = _ at h9
  change s 10 = _ at h10
  change s 11 = _ at h11
  clear hsz
  simp only [dgT, h0, h1, h2, h3, h4, h8, h9, h10, h11]
  clear h0 h1 h2 h3 h4 h8 h9 h10 h11
  have hS : ∀ u d, SG F av ib aa ab n i v x y z u → SG F av ib aa ab n i v x y z (World.at u d) := fun u d h => h.at d
  rw [dgr6_eq]
  refine own_drawnM (SG F av ib aa ab n i v x y z) (last := 10) run_mixed (ll_of (by kernel_rfl)) (by decide) ?_
  simp only [dgo6, Code.opsOf, dgr6, Code.piece, dgBody, Try.f99, Option.getD_some, List.size_toArray, List.length_cons, List.length_nil, Nat.reduceAdd, Nat.zero_add, List.range, List.range.loop]
  have hZ : ∀ a u d, Own Try.prog main F Stop (G ((Go.Conc.base 99).at a (.inRegion dgo6 [10] :: kk)) cs) u → Own Try.prog main F Stop (G ((Go.Conc.base 99).at a (.inRegion dgo6 [10] :: kk)) cs) (World.at u d) := fun a u d h => h.at d
  simp only [dgo6, Code.opsOf, dgr6, Code.piece, dgBody, Try.f99, Option.getD_some, List.size_toArray, List.length_cons, List.length_nil, Nat.reduceAdd, Nat.zero_add, List.range, List.range.loop] at hZ
  refine anyM_take hS hZ (i := 0) (v := .slice (some ⟨aa, 0, none⟩) n n) hs rfl rfl (by kernel_rfl) (by kernel_rfl) (by kernel_rfl) (fun u hu => .inl ⟨rfl, fun d => ⟨by simp [go_sem, execOp, Act.eval, hu.ca, hu.za], fun e he => by have hm := mem_listed he; simp [go_sem, execOp, Act.eval, hu.ca, hu.za] at hm; subst hm; exact evT_read _ _⟩⟩) ?_
  walk_nrm
  refine anyM_take hS hZ (i := 1) (v := .int .i64 i) hs rfl rfl (by kernel_rfl) (by kernel_rfl) (by kernel_rfl) (fun u hu => .inl ⟨rfl, fun d => ⟨by simp [go_sem, execOp, Act.eval, hu.ci, hu.zi], fun e he => by have hm := mem_listed he; simp [go_sem, execOp, Act.eval, hu.ci, hu.zi] at hm; subst hm; exact evT_read _ _⟩⟩) ?_
  walk_nrm
  refine anyM_take hS hZ (i := 2) (v := .slice (some ⟨aa, 0, none⟩) n n) hs rfl rfl (by kernel_rfl) (by kernel_rfl) (by kernel_rfl) (fun u hu => .inl ⟨rfl, fun d => ⟨by simp [go_sem, execOp, Act.eval, hu.ca, hu.za], fun e he => by have hm := mem_listed he; simp [go_sem, execOp, Act.eval, hu.ca, hu.za] at hm; subst hm; exact evT_read _ _⟩⟩) ?_
  walk_nrm
  refine anyM_take hS hZ (i := 3) (v := .int .i64 i) hs rfl rfl (by kernel_rfl) (by kernel_rfl) (by kernel_rfl) (fun u hu => .inl ⟨rfl, fun d => ⟨by simp [go_sem, execOp, Act.eval, hu.ci, hu.zi], fun e he => by have hm := mem_listed he; simp [go_sem, execOp, Act.eval, hu.ci, hu.zi] at hm; subst hm; exact evT_read _ _⟩⟩) ?_
  walk_nrm
  refine anyM_take hS hZ (i := 4) (v := .pointer (some ⟨aa, i, none⟩)) hs rfl rfl (by kernel_rfl) (by kernel_rfl) (by kernel_rfl) (fun u hu => .inl ⟨rfl, fun d => ⟨by simp [go_sem, execOp, Act.eval, hin], fun e he => by have hm := mem_listed he; simp [go_sem, execOp, Act.eval, hin] at hm⟩⟩) ?_
  walk_nrm
  refine anyM_take hS hZ (i := 5) (v := v) hs rfl rfl (by kernel_rfl) (by kernel_rfl) (by kernel_rfl) (fun u hu => .inl ⟨rfl, fun d => ⟨by simp [go_sem, execOp, Act.eval, hu.cl, hu.zl], fun e he => by have hm := mem_listed he; simp [go_sem, execOp, Act.eval, hu.cl, hu.zl] at hm; subst hm; exact evT_read _ _⟩⟩) ?_
  walk_nrm
  refine anyM_take hS hZ (i := 6) (v := .agg #[x, y, z]) hs rfl rfl (by kernel_rfl) (by kernel_rfl) (by kernel_rfl) (fun u hu => .inl ⟨rfl, fun d => ⟨by simp [go_sem, execOp, Act.eval, hu.c0, hu.c1, hu.c2, hu.zz], fun e he => by have hm := mem_listed he; simp [go_sem, execOp, Act.eval, hu.c0, hu.c1, hu.c2, hu.zz] at hm; rcases hm with rfl | rfl | rfl <;> exact evT_read _ _⟩⟩) ?_
  walk_nrm
  refine anyM_all (r := [7]) (by kernel_rfl) (by kernel_rfl) (fun i hi hil => ?_)
  simp only [List.mem_cons, List.not_mem_nil, or_false] at hi
  subst hi
  refine opm_k rfl rfl (fun d K' hK' => ?_)
  go_simp
  refine hK' _ _ ⟨⟨⟨0, grew_alloc hU (show nn ≤ (w.at d).heap.size from htop) _⟩, fun e he => by (have hm := mem_listed he; simp [go_sem] at hm)⟩, (hs.at d).alloc hU (show nn ≤ (w.at d).heap.size from htop) _, ?_⟩
  clear hK' K'
  rw [alloc_at']
  refine anyM_at hS hZ _ _ _ _ ?_ d
  have hn4 := cell_three_new w x y z 44
  have hb4 := heap_alloc_new w (.cells #[x, y, z] 44)
  have hW4 : ∀ r, r < w.heap.size → (w.alloc (.cells #[x, y, z] 44)).heap[r]? = w.heap[r]? := fun r hr => heap_alloc_lt _ _ hr
  have hsz4 : (w.alloc (.cells #[x, y, z] 44)).heap.size = w.heap.size + 1 := by simp
  replace hs := hs.alloc hU htop (.cells #[x, y, z] 44)
  generalize w.alloc (.cells #[x, y, z] 44) = W4 at *
  refine anyM_all (r := [8]) (by kernel_rfl) (by kernel_rfl) (fun i hi hil => ?_)
  simp only [List.mem_cons, List.not_mem_nil, or_false] at hi
  subst hi
  obtain ⟨i0, hi0, hz0, hz1, hz2⟩ := info44
  have hFn : ∀ b, nn ≤ b → F b = none := fun b hb => by
    cases e : F b with
    | none => rfl
    | some z => exact absurd (hU b z e) (by omega)
  have hvlt : ∀ b, Value.ownBlock v = some b → b < w.heap.size := fun b hb => (hrow.lt b hb).2
  refine opm_lift (S' := fun _ => false) (px := false) (ready0.shut false) (by simp) rfl rfl rfl hs.wf (fun d => ?_)
  have hrowm : (mask F (W4.at d)).ownsRow 0 44 3 v m xs := ownsRow_same2 hrow fun b hb hbn => by
    rw [mask_at_none (hFv b hb)]
    exact hW4 b (hvlt b hb)
  obtain ⟨v', u, hr, hown, hgrow, _⟩ := run_append_own (P := Try.prog) (mask F (W4.at d)) 0 42 42 44 i0 _ 3 40 Try.underlying42 hi0 hz0 hz1 hz2 rfl (by decide) v m xs hrowm ⟨w.heap.size, 0, none⟩ 1 1 [x, y, z] rfl
    (fun j u hu => (mask_at_cell _).trans (hn4 j u hu)) (fun q hq => by simp at hq; rcases hq with rfl | rfl | rfl; exact hx.1; exact hx.2.1; exact hx.2.2) (by unfold maxLen; omega) (by omega) (Nat.zero_le _)
  refine ⟨v', u, run_append_op (.tmp 27) (.tmp 29) 42 rfl rfl rfl hr, fun w' hu hg hwf' => ?_⟩
  subst hu
  obtain ⟨jj, hgr⟩ := hg
  have hkeep : ∀ r, r < w.heap.size + 1 → some r ≠ Value.ownBlock v → w'.heap[r]? = W4.heap[r]? := fun r h2 h3 => by
    have := hgrow.block r (by rw [mask_size]; show r < W4.heap.size; omega) h3
    have hlt : r < (W4.at d).heap.size := show r < W4.heap.size by omega
    exact mask_same (w := W4.at d) hgr this hlt
  have hsize : w.heap.size + 1 ≤ w'.heap.size := by
    have := hgrow.size
    rw [mask_size, mask_size] at this
    have h2 : (W4.at d).heap.size = w.heap.size + 1 := hsz4
    omega
  have hlav := hs.la0.lt
  have hlib := hs.li0.lt
  simp only at hlav hlib
  obtain ⟨ca, har1, har2⟩ := hs.arr
  have hlaa := (Array.getElem?_eq_some_iff.1 har1).1
  have hlab := (Array.getElem?_eq_some_iff.1 hs.an).1
  have hs' : SG F av ib aa ab n i v x y z w' := ⟨hwf', hs.la0.same (hkeep av (by omega) hne.2.2.1), hs.li0.same (hkeep ib (by omega) hne.2.2.2), ⟨ca, (hkeep aa (by omega) hne.1).trans har1, har2⟩, (hkeep ab (by omega) hne.2.1).trans hs.an⟩
  obtain ⟨b1, cap1, cur1, rfl, hb1, hb2⟩ := slice_form2 hown
  have hcur : 0 < cur1.size := by
    rcases hown.2 with ⟨_, h0⟩ | ⟨g3, cap3, cur3, h0, _, h3, h4, _, h5, _⟩
    · omega
    · cases h0
      rw [hb2] at h3
      cases h3
      omega
  have hb3 : F b1 = none ∧ w'.heap[b1]? = some (.cells cur1 44 (0, 0)) ∧ (some b1 = Value.ownBlock v ∨ w.heap.size ≤ b1) := by
    by_cases hlt : b1 < w.heap.size
    · by_cases hv : some b1 = Value.ownBlock v
      · have hf := hFv b1 hv.symm
        exact ⟨hf, by rw [mask_at_none hf] at hb2; exact hb2, .inl hv⟩
      · exfalso
        have hk := (hkeep b1 (by omega) hv).trans (hW4 b1 hlt)
        rw [mask_get] at hb2
        obtain ⟨o, ho⟩ : ∃ o, w.heap[b1]? = some o := ⟨_, Array.getElem?_eq_getElem hlt⟩
        rw [hk, ho] at hb2
        cases o with
        | cells c e z0 =>
          simp only [Option.map_some, maskObj, Option.some.injEq, Obj.cells.injEq] at hb2
          obtain ⟨rfl, rfl, hz⟩ := hb2
          by_cases ha : b1 = aa
          · subst ha
            have h1 := (hW4 b1 hlt).symm.trans har1
            rw [ho] at h1
            simp only [Option.some.injEq, Obj.cells.injEq] at h1
            exact absurd h1.2.1 (by decide)
          · obtain ⟨z, hz1, hz2⟩ := hall b1 _ _ _ ho ha hv hcur
            rw [hz1] at hz
            exact hz2 hz
        | _ => simp [maskObj] at hb2
    · have hf := hFn b1 (by omega)
      exact ⟨hf, by rw [mask_at_none hf] at hb2; exact hb2, .inr (by omega)⟩
  obtain ⟨hfb, hb3, hb4⟩ := hb3
  have hrow' : w'.ownsRow 0 44 3 (.slice (some ⟨b1, 0, none⟩) (m + 1) cap1) (m + 1) (xs ++ [x, y, z]) := ownsRow_same2 hown fun b hb hbn => by
    simp only [Value.ownBlock, Option.some.injEq] at hb
    subst hb
    exact (mask_at_none hfb).symm
  have nb1 : b1 ≠ aa := by
    rintro rfl
    have h1 := (hkeep b1 (by omega) hne.1).trans har1
    rw [hb3] at h1
    simp only [Option.some.injEq, Obj.cells.injEq] at h1
    exact absurd h1.2.1 (by decide)
  refine ⟨hs', ?_⟩
  clear hs
  have hs := hs'
  walk_nrm
  refine anyM_take hS hZ (i := 9) (v := .pointer (some ⟨aa, i, none⟩)) hs rfl rfl (by kernel_rfl) (by kernel_rfl) (by kernel_rfl) (fun u hu => .inl ⟨rfl, fun d => ⟨by simp [go_sem, execOp, Act.eval, hin], fun e he => by have hm := mem_listed he; simp [go_sem, execOp, Act.eval, hin] at hm⟩⟩) ?_
  walk_nrm
  refine anyM_end (by kernel_rfl) ?_ _
  have cl := hs'.cl
  have zl := hs'.zl
  have hnh : ¬ held F ⟨aa, i, none⟩ := not_held' hFa
  clear hZ hS hr hown hgrow hrowm hall
  (refine oW fun dd K hK => ?_; go_simp; refine hK _ _ ⟨⟨⟨0, grew_setCell rfl hnh _⟩, fun e he => by (have hm := mem_listed he; clear he hK; simp [go_sem, storedEv, cl, zl] at hm; subst hm; exact evT_write _ _ hnh)⟩, ?_⟩; clear hK K; rw [setCell_at']; refine Own.at ?_ dd)
  refine ogE ?_
  refine h _ (.slice (some ⟨b1, 0, none⟩) (m + 1) cap1) _ ?_ ⟨rfl, rfl, rfl, rfl, rfl, rfl, rfl, rfl, rfl, rfl, trivial⟩
  refine ⟨hwf'.of_grew (grew_setCell rfl hnh _), ownsRow_same2 hrow' fun b hb _ => heap_setCell_ne _ _ _ (by simp only [Value.ownBlock, Option.some.injEq] at hb; subst hb; exact nb1), fun c hc => ?_, by simp; omega, fun b hb => by simp only [Value.ownBlock, Option.some.injEq] at hb; subst hb; exact hb4, fun r h1 h2 h3 => ?_⟩
  · have h1 := (hkeep aa (by omega) hne.1).trans (hW4 aa (Array.getElem?_eq_some_iff.1 hc).1)
    rw [hc] at h1
    simp [World.setCell, Array.getElem?_modify, h1]
  · rw [heap_setCell_ne _ _ _ h2, hkeep r (by omega) h3, hW4 r h1]
set_option maxRecDepth 100000 in
set_option maxHeartbeats 2000000 in
theorem dg_2c {sv : Value} {ob db ib av ab k : Nat} {oa : Option Addr} {ol oc : Nat} (hk : k < 10000000) {A : Array Value} (hA : Slots 33 A [(0, sv), (1, .pointer (some ⟨ob, 0, none⟩)), (2, .pointer (some ⟨db, 0, none⟩)), (3, .pointer (some ⟨ib, 0, none⟩)), (4, .pointer (some ⟨av, 0, none⟩)), (8, .pointer (some ⟨ab, 0, none⟩)), (9, .slice oa ol oc), (10, .int .i64 ol), (11, .int .i64 k)]) {cs : List Frame} {main : Bool} {Stop : Goroutine → World → Prop}
    (h : ∀ A, Slots 33 A [(0, sv), (1, .pointer (some ⟨ob, 0, none⟩)), (2, .pointer (some ⟨db, 0, none⟩)), (3, .pointer (some ⟨ib, 0, none⟩)), (4, .pointer (some ⟨av, 0, none⟩)), (9, .slice oa ol oc), (10, .int .i64 ol), (11, .int .i64 (k + 1 : Nat))] → Own Try.prog main F Stop (G ((Go.Conc.base 99).at ⟨A, []⟩ [.code dgs2, .inLoop dgs2, .inBlock 0]) cs) w) :
    Own Try.prog main F Stop (G ((Go.Conc.base 99).at ⟨A, []⟩ [.inBlock 1, .code dgr7, .inLoop dgs2, .inBlock 0]) cs) w := by
  obtain ⟨hsz, h0, h1, h2, h3, h4, h8, h9, h10, h11, _⟩ := hA
  obtain ⟨s, rfl⟩ := dgT_of hsz
  change s 0 = _ at h0
  change s 1 = _ at h1
  change s 2 = _ at h2
  change s 3 = _ at h3
  change s 4 = _ at h4
  change s 8 = _ at h8
  change s 9 = _ at h9
  change s 10 = _ at h10
  change s 11 = _ at h11
  clear hsz
  simp only [dgT, h0, h1, h2, h3, h4, h8, h9, h10, h11]
  clear h0 h1 h2 h3 h4 h8 h9 h10 h11
  have hk64 : IntKind.i64.wrap ((k : Int) + 1) = (k : Int) + 1 := IntWalk.i64_in _ (by omega)
  refine ogI ?_
  rw [dgr7_eq]
  refine ogR ?_
  simp only [dgo7, Code.opsOf, dgr7, Code.piece, dgBody, Try.f99, Option.getD_some, List.size_toArray, List.length_cons, List.length_nil, Nat.reduceAdd, Nat.zero_add, List.range, List.range.loop]
  (refine oW fun dd K hK => ?_; go_simp; refine qT hK ?_; clear hK K)
  (refine oW fun dd K hK => ?_; go_simp; refine qT hK ?_; clear hK K)
  refine ogE ?_
  refine ogL ?_
  refine h _ ?_
  exact ⟨rfl, rfl, rfl, rfl, rfl, rfl, rfl, rfl, rfl, trivial⟩
end Go.Proofs.Ytlcgkpapnpdfpaa
namespace Go.Proofs.Ytlcgkpapnpdfpaa
open Go Go.Conc Go.RowKit Go.Proofs
variable {F : Fz} {w w' : World}
open Classical in
noncomputable def FU (F : Fz) (mine : Nat → Prop) (w : World) : Fz := fun r => if mine r then none else match w.heap[r]? with
  | some (.cells c _ z) => some (0, max (max c.size z.2) ((F r).getD (0, 0)).2)
  | _ => none
section
variable {mine : Nat → Prop}
theorem fu_mine {r : Nat} (h : mine r) : FU F mine w r = none := if_pos h
theorem fu_cells {r : Nat} {c : Array Value} {e : TypeId} {z : Nat × Nat} (h : ¬ mine r) (ho : w.heap[r]? = some (.cells c e z)) : FU F mine w r = some (0, max (max c.size z.2) ((F r).getD (0, 0)).2) := by
  unfold FU
  rw [if_neg h, ho]
theorem fu_some {r : Nat} {z : Nat × Nat} (h : FU F mine w r = some z) : ¬ mine r ∧ ∃ c e z0, w.heap[r]? = some (.cells c e z0) ∧ z = (0, max (max c.size z0.2) ((F r).getD (0, 0)).2) := by
  unfold FU at h
  split at h
  · cases h
  · rename_i hm
    split at h
    · rename_i c e z0 ho
      cases h
      exact ⟨hm, c, e, z0, ho, rfl⟩
    · cases h
theorem fu_wf : Wf (FU F mine w) w := by
  constructor
  intro r z h
  obtain ⟨_, c, e, z0, ho, rfl⟩ := fu_some h
  exact ⟨c, e, z0, ho, fun k h1 h2 => by simp only; omega⟩
theorem fu_under : Under (FU F mine w) w.heap.size := by
  intro r z h
  obtain ⟨_, c, e, z0, ho, _⟩ := fu_some h
  exact (Array.getElem?_eq_some_iff.1 ho).1
theorem fu_held (hw : Wf F w) (hm : ∀ r, mine r → F r = none) {a : Addr} (h : held F a) : held (FU F mine w) a := by
  obtain ⟨z, hz, h1, h2⟩ := h
  obtain ⟨c, e, z0, ho, _⟩ := hw.own _ _ hz
  have hn : ¬ mine a.block := fun h => by rw [hm _ h] at hz; cases hz
  refine ⟨_, fu_cells hn ho, Nat.zero_le _, ?_⟩
  rw [hz]
  simp only [Option.getD_some]
  omega
theorem fu_same (hg : Gd (FU F mine w) w w') {r : Nat} (hm : ¬ mine r) (hr : r < w.heap.size) : w'.heap[r]? = w.heap[r]? := by
  obtain ⟨o, ho⟩ : ∃ o, w.heap[r]? = some o := ⟨_, Array.getElem?_eq_getElem hr⟩
  rcases hg.objs r _ ho with ⟨c1, e2, z1, c', h1, h2, h3⟩ | h2
  · subst h1
    have : c' = c1 := by
      apply Array.ext h3
      intro j hj1 hj2
      have hh : held (FU F mine w) ⟨r, j, none⟩ := ⟨_, fu_cells hm ho, Nat.zero_le _, by simp only; omega⟩
      have := hg.keep _ hh
      simp only [World.cell?, h2] at this
      have e3 : (w.at w'.drawn).heap[r]? = some (.cells c1 e2 z1) := ho
      rw [e3] at this
      simpa [hj1, hj2] using this
    subst this
    rw [h2, ho]
  · rw [h2, ho]
end
theorem Wf.of_gd (h : Wf F w) (hg : Gd F w w') : Wf F w' := by
  constructor
  intro r z hz
  obtain ⟨c, e, z0, h1, h2⟩ := h.own r z hz
  rcases hg.objs r _ h1 with ⟨c1, e1, z1, c', h3, h4, _⟩ | h3
  · cases h3; exact ⟨c', e, z0, h4, h2⟩
  · exact ⟨c, e, z0, h3, h2⟩
structure AnsV where
  ok : Bool
  n : Int
  la : Option Addr
  ll : Nat
  lc : Nat
def AnsV.v (a : AnsV) : Value := .agg #[.bool a.ok, .int .i64 a.n, .slice a.la a.ll a.lc]
def AnsV.cells (a : AnsV) : List Value := [.bool a.ok, .int .i64 a.n, .slice a.la a.ll a.lc]
structure Lay where
  S : Type
  C : Type
  A : Type
  SU : S → World → Prop
  SR : S → Nat → Prop
  CU : C → World → Prop
  CR : C → Nat → Prop
  AV : A → AnsV
  AU : A → World → Prop
  AR : A → Nat → Prop
  cf : Nat → C → List Frame
  df : FuncId
  first : Array Value
  capt : Array Value
  beg : S → Nat → Op4 → S × (C ⊕ A) → Prop
  stp : S → C → S × (C ⊕ A) → Prop
  J : Nat → S → C → Prop
def stepperV (st : Nat) : Value := .iface 173 (.pointer (some ⟨st, 0, none⟩))
def Lay.Out (L : Lay) (st : Nat) (s : L.S) (R0 : Nat → Prop) (Rel : L.S × (L.C ⊕ L.A) → Prop) (w : World) (cs : List Frame) (a : Goroutine) (w' : World) : Prop :=
  ∃ s' r, Rel (s', r) ∧ L.SU s' w' ∧ (∀ q, L.SR s' q → L.SR s q ∨ R0 q ∨ w.heap.size ≤ q) ∧
    match r with
    | .inl c => L.J st s' c ∧ L.CU c w' ∧ (∀ q, L.CR c q → R0 q ∨ w.heap.size ≤ q) ∧ (∀ q, L.CR c q → ¬ L.SR s' q) ∧ a = G (Frame.enter Try.prog 133 #[.pointer (some ⟨st, 0, none⟩)] .normal) (L.cf st c ++ cs)
    | .inr an => L.AU an w' ∧ (∀ q, L.AR an q → R0 q ∨ w.heap.size ≤ q) ∧ (∀ q, L.AR an q → ¬ L.SR s' q) ∧ a = back (L.AV an).v cs
structure Lay.Ok (L : Lay) : Prop where
  call : Callable L.df
  jb : ∀ st s s' c i o r, L.J st s c → L.beg s i o (s', r) → L.J st s' c
  js : ∀ st s s' c c1 r, L.J st s c → L.stp s c1 (s', r) → L.J st s' c
  plain : ∀ st c, L.cf st c ≠ [] ∧ ∀ u ∈ L.cf st c, Plain u
  sS : ∀ s w w', L.SU s w → w.heap.size ≤ w'.heap.size → (∀ r, L.SR s r → w'.heap[r]? = w.heap[r]?) → L.SU s w'
  sC : ∀ c w w', L.CU c w → w.heap.size ≤ w'.heap.size → (∀ r, L.CR c r → w'.heap[r]? = w.heap[r]?) → L.CU c w'
  sA : ∀ a w w', L.AU a w → w.heap.size ≤ w'.heap.size → (∀ r, L.AR a r → w'.heap[r]? = w.heap[r]?) → L.AU a w'
  lS : ∀ s w r, L.SU s w → L.SR s r → r < w.heap.size
  lC : ∀ c w r, L.CU c w → L.CR c r → r < w.heap.size
  lA : ∀ a w r, L.AU a w → L.AR a r → r < w.heap.size
  beg : ∀ s i o st (F : Fz) (w : World) (c : Frame) (cs : List Frame), L.SU s w → Wf F w → (∀ r, L.SR s r → F r = none) →
    Own Try.prog false F (L.Out st s (fun _ => False) (L.beg s i o) w (c :: cs)) (G (Frame.enter Try.prog L.df (L.first ++ #[stepperV st, .int .i64 i, o.v] ++ L.capt) .normal) (c :: cs)) w
  stp : ∀ s c st (F : Fz) (w : World) (b : Frame) (cs : List Frame), L.J st s c → L.SU s w → L.CU c w → (∀ q, L.CR c q → ¬ L.SR s q) → Wf F w → (∀ r, L.SR s r ∨ L.CR c r → F r = none) →
    Own Try.prog false F (L.Out st s (L.CR c) (L.stp s c) w (b :: cs)) (back (.tuple #[]) (L.cf st c ++ b :: cs)) w
structure Thr (L : Lay) where
  k : Nat
  call : Option (L.C × Array Value × Nat)
  ans : List L.A
  row : Value
structure OX (L : Lay) where
  s : L.S
  th : Nat → Thr L
structure Par where
  n : Nat
  aa : Nat
  av : Nat
  db : Nat
  ib : Nat → Nat
  ob : Nat → Nat
  ops : Nat → List Op4
  oa : Nat → Option Addr
  oc : Nat → Nat
  I : Nat → Option Obj
def Fixed (I : Nat → Option Obj) (w : World) : Prop := ∀ r o, I r = some o → w.heap[r]? = some o
structure Par.Ok (p : Par) (L : Lay) : Prop where
  cells : ∀ r o, p.I r = some o → ∃ c e z, o = .cells c e z
  len : ∀ i, i < p.n → (p.ops i).length ≤ 65536
  inI : p.I p.av ≠ none ∧ ∀ i, i < p.n → p.I (p.ib i) ≠ none
  av : ∀ w, Fixed p.I w → Lies w ⟨p.av, 0, none⟩ (.slice (some ⟨p.aa, 0, none⟩) p.n p.n)
  db : ∀ w, Fixed p.I w → Lies w ⟨p.db, 0, none⟩ (.func (.func L.df) L.first L.capt)
  ib : ∀ w, Fixed p.I w → ∀ i, i < p.n → Lies w ⟨p.ib i, 0, none⟩ (.int .i64 i)
  ob : ∀ w, Fixed p.I w → ∀ i, i < p.n → Lies w ⟨p.ob i, 0, none⟩ (.slice (p.oa i) (p.ops i).length (p.oc i))
  op : ∀ w, Fixed p.I w → ∀ i, i < p.n → ∀ k o, (p.ops i)[k]? = some o → ∃ opb oo, p.oa i = some ⟨opb, oo, none⟩ ∧
    w.cell? ⟨opb, oo + k * 4, none⟩ = some (.int .i64 o.kd) ∧ w.cell? ⟨opb, oo + k * 4 + 1, none⟩ = some (.int .i64 o.a) ∧ w.cell? ⟨opb, oo + k * 4 + 2, none⟩ = some (.int .i64 o.b) ∧ w.cell? ⟨opb, oo + k * 4 + 3, none⟩ = some (.int .i64 o.c) ∧
    w.frozen? ⟨opb, oo + k * 4, none⟩ = false ∧ w.frozen? ⟨opb, oo + k * 4 + 1, none⟩ = false ∧ w.frozen? ⟨opb, oo + k * 4 + 2, none⟩ = false ∧ w.frozen? ⟨opb, oo + k * 4 + 3, none⟩ = false
variable {L : Lay} {p : Par} {g : Gate}
def TR (t : Thr L) (r : Nat) : Prop := Value.ownBlock t.row = some r ∨ (∃ a ∈ t.ans, L.AR a r) ∨ ∃ c A ab, t.call = some (c, A, ab) ∧ (r = ab ∨ L.CR c r)
def dgS (p : Par) (st i k : Nat) : List (Nat × Value) := [(0, stepperV st), (1, .pointer (some ⟨p.ob i, 0, none⟩)), (2, .pointer (some ⟨p.db, 0, none⟩)), (3, .pointer (some ⟨p.ib i, 0, none⟩)), (4, .pointer (some ⟨p.av, 0, none⟩)), (9, .slice (p.oa i) (p.ops i).length (p.oc i)), (10, .int .i64 (p.ops i).length), (11, .int .i64 k)]
def dgS8 (p : Par) (st i k ab : Nat) : List (Nat × Value) := [(0, stepperV st), (1, .pointer (some ⟨p.ob i, 0, none⟩)), (2, .pointer (some ⟨p.db, 0, none⟩)), (3, .pointer (some ⟨p.ib i, 0, none⟩)), (4, .pointer (some ⟨p.av, 0, none⟩)), (8, .pointer (some ⟨ab, 0, none⟩)), (9, .slice (p.oa i) (p.ops i).length (p.oc i)), (10, .int .i64 (p.ops i).length), (11, .int .i64 k)]
structure ThrU (L : Lay) (p : Par) (st i : Nat) (t : Thr L) (w : World) : Prop where
  row : w.ownsRow 0 44 3 t.row t.ans.length ((t.ans.map fun a => (L.AV a).cells).flatten)
  au : ∀ a ∈ t.ans, L.AU a w
  al : t.ans.length = t.k
  kl : t.k ≤ (p.ops i).length
  ar : ∀ a ∈ t.ans, ∀ r, L.AR a r → some r ≠ Value.ownBlock t.row
  call : ∀ c A ab, t.call = some (c, A, ab) → Slots 33 A (dgS8 p st i t.k ab) ∧ Ans w ab ∧ L.CU c w ∧ ¬ L.CR c ab ∧ some ab ≠ Value.ownBlock t.row ∧ (∀ r, L.CR c r → some r ≠ Value.ownBlock t.row) ∧ (∀ a ∈ t.ans, ∀ r, L.AR a r → r ≠ ab ∧ ¬ L.CR c r) ∧ t.k < (p.ops i).length
structure OU (L : Lay) (p : Par) (g : Gate) (x : OX L) (w : World) : Prop where
  fix : Fixed p.I w
  su : L.SU x.s w
  arr : ∃ c, w.heap[p.aa]? = some (.cells c 42 (0, 0)) ∧ c.size = p.n ∧ ∀ i, i < p.n → c[i]? = some (x.th i).row
  thr : ∀ i, i < p.n → ThrU L p (g.st i) i (x.th i) w
  ts : ∀ i, i < p.n → ∀ r, TR (x.th i) r → ¬ L.SR x.s r ∧ r ≠ p.aa
  sa : ¬ L.SR x.s p.aa
  jj : ∀ i, i < p.n → ∀ c A ab, (x.th i).call = some (c, A, ab) → L.J (g.st i) x.s c
  tt : ∀ i j, i < p.n → j < p.n → i ≠ j → ∀ r, TR (x.th i) r → ¬ TR (x.th j) r
  inone : ∀ r, (L.SR x.s r ∨ r = p.aa ∨ ∃ i, i < p.n ∧ TR (x.th i) r) → p.I r = none
def OR (L : Lay) (p : Par) (x : OX L) (r : Nat) : Prop := L.SR x.s r ∨ r = p.aa ∨ ∃ i, i < p.n ∧ TR (x.th i) r
noncomputable def dgFr (A : Array Value) : Frame := (Go.Conc.base 99).at ⟨A, []⟩ [.inRegion dgo5 [4, 5], .code dgr6, .inBlock 1, .code dgr7, .inLoop dgs2, .inBlock 0]
inductive Adv (L : Lay) (p : Par) (i : Nat) : L.S × Thr L → L.S × Thr L → Prop
  | done {s : L.S} {t : Thr L} : t.call = none → t.k = (p.ops i).length → Adv L p i (s, t) (s, t)
  | live {s s' : L.S} {t : Thr L} {o : Op4} {c : L.C} {A : Array Value} {ab : Nat} : (p.ops i)[t.k]? = some o → L.beg s i o (s', .inl c) → Adv L p i (s, t) (s', { t with call := some (c, A, ab) })
  | imm {s s' : L.S} {t : Thr L} {o : Op4} {an : L.A} {row : Value} {y : L.S × Thr L} : (p.ops i)[t.k]? = some o → L.beg s i o (s', .inr an) → Adv L p i (s', ⟨t.k + 1, none, t.ans ++ [an], row⟩) y → Adv L p i (s, t) y
inductive Stp (L : Lay) (p : Par) (i : Nat) : L.S × Thr L → L.S × Thr L → Prop
  | live {s s' : L.S} {t : Thr L} {c c' : L.C} {A : Array Value} {ab : Nat} : t.call = some (c, A, ab) → L.stp s c (s', .inl c') → Stp L p i (s, t) (s', { t with call := some (c', A, ab) })
  | ans {s s' : L.S} {t : Thr L} {c : L.C} {A : Array Value} {ab : Nat} {an : L.A} {row : Value} {y : L.S × Thr L} : t.call = some (c, A, ab) → L.stp s c (s', .inr an) → Adv L p i (s', ⟨t.k + 1, none, t.ans ++ [an], row⟩) y → Stp L p i (s, t) y
noncomputable def opsUsers (L : Lay) (p : Par) (g : Gate) : Users where
  X := OX L
  U := OU L p g
  R := OR L p
  I := p.I
  fr := fun x i => match (x.th i).call with
    | some (c, A, _) => L.cf (g.st i) c ++ [dgFr A]
    | none => []
  liv := fun x i => (x.th i).call.isSome
  stp := fun x i y => Stp L p i (x.s, x.th i) (y.s, y.th i) ∧ ∀ j, j ≠ i → y.th j = x.th j
  bor := fun x i y => Adv L p i (x.s, x.th i) (y.s, y.th i) ∧ ∀ j, j ≠ i → y.th j = x.th j
  nw := fun x i => (x.th i).call = none ∧ (x.th i).k = 0
  fid := 99
  cap := fun i => #[.pointer (some ⟨p.ob i, 0, none⟩), .pointer (some ⟨p.db, 0, none⟩), .pointer (some ⟨p.ib i, 0, none⟩), .pointer (some ⟨p.av, 0, none⟩)]
end Go.Proofs.Ytlcgkpapnpdfpaa
namespace Go.Proofs.Ytlcgkpapnpdfpaa
open Go Go.Conc Go.RowKit Go.Proofs
variable {F : Fz} {w w' : World} {L : Lay} {p : Par} {g : Gate} {x y : OX L} {i : Nat}
def upd (x : OX L) (i : Nat) (s : L.S) (t : Thr L) : OX L := ⟨s, fun j => if j = i then t else x.th j⟩
theorem upd_self {s : L.S} {t : Thr L} : (upd x i s t).th i = t := if_pos rfl
theorem upd_ne {s : L.S} {t : Thr L} {j : Nat} (h : j ≠ i) : (upd x i s t).th j = x.th j := if_neg h
def NF (L : Lay) (p : Par) (x : OX L) (r : Nat) : Prop := ¬ OR L p x r ∧ p.I r = none
theorem fixed_lt (h : Fixed p.I w) {r : Nat} (hr : p.I r ≠ none) : r < w.heap.size := by
  cases e : p.I r with
  | none => exact absurd e hr
  | some o => exact (Array.getElem?_eq_some_iff.1 (h r o e)).1
theorem fixed_stable (h : Fixed p.I w) (hs : ∀ r, p.I r ≠ none → w'.heap[r]? = w.heap[r]?) : Fixed p.I w' := by
  intro r o e
  rw [hs r (by rw [e]; simp)]
  exact h r o e
theorem ans_same {ab : Nat} (h : Ans w ab) (hs : w'.heap[ab]? = w.heap[ab]?) : Ans w' ab := by
  obtain ⟨x, y, z, h⟩ := h.o
  exact ⟨⟨x, y, z, hs.trans h⟩⟩
theorem ThrU.low {st : Nat} {t : Thr L} (hL : L.Ok) (h : ThrU L p st i t w) {r : Nat} (hr : TR t r) : r < w.heap.size := by
  rcases hr with h1 | ⟨a, ha, h1⟩ | ⟨c, A, ab, h1, h2⟩
  · rcases h.row.2 with h2 | ⟨b, cap, cur, h2, h3, h4, _⟩
    · rw [h2.1] at h1; simp [Value.ownBlock] at h1
    · rw [h2] at h1
      simp only [Value.ownBlock, Option.some.injEq] at h1
      subst h1
      exact (Array.getElem?_eq_some_iff.1 h4).1
  · exact hL.lA a w r (h.au a ha) h1
  · obtain ⟨_, h3, h4, _⟩ := h.call c A ab h1
    rcases h2 with rfl | h2
    · obtain ⟨_, _, _, h5⟩ := h3.o
      exact (Array.getElem?_eq_some_iff.1 h5).1
    · exact hL.lC c w r h4 h2
theorem ThrU.stable {st : Nat} {t : Thr L} (hL : L.Ok) (h : ThrU L p st i t w) (hsz : w.heap.size ≤ w'.heap.size) (hs : ∀ r, TR t r → w'.heap[r]? = w.heap[r]?) : ThrU L p st i t w' := by
  refine ⟨ownsRow_same2 h.row fun b hb _ => hs b (.inl hb), fun a ha => hL.sA a w w' (h.au a ha) hsz fun r hr => hs r (.inr (.inl ⟨a, ha, hr⟩)), h.al, h.kl, h.ar, ?_⟩
  intro c A ab hc
  obtain ⟨h1, h2, h3, h4⟩ := h.call c A ab hc
  exact ⟨h1, ans_same h2 (hs _ (.inr (.inr ⟨c, A, ab, hc, .inl rfl⟩))), hL.sC c w w' h3 hsz fun r hr => hs r (.inr (.inr ⟨c, A, ab, hc, .inr hr⟩)), h4⟩
theorem OU.aalt (h : OU L p g x w) : p.aa < w.heap.size := by
  obtain ⟨c, h1, _⟩ := h.arr
  exact (Array.getElem?_eq_some_iff.1 h1).1
theorem OU.low (hL : L.Ok) (h : OU L p g x w) {r : Nat} (hr : OR L p x r) : r < w.heap.size := by
  rcases hr with h1 | rfl | ⟨i, hi, h1⟩
  · exact hL.lS _ _ _ h.su h1
  · exact h.aalt
  · exact (h.thr i hi).low hL h1
theorem OU.stable (hL : L.Ok) (h : OU L p g x w) (hsz : w.heap.size ≤ w'.heap.size) (hs : ∀ r, OR L p x r ∨ p.I r ≠ none → w'.heap[r]? = w.heap[r]?) : OU L p g x w' := by
  refine ⟨fixed_stable h.fix fun r hr => hs r (.inr hr), hL.sS _ w w' h.su hsz fun r hr => hs r (.inl (.inl hr)), ?_, fun i hi => (h.thr i hi).stable hL hsz fun r hr => hs r (.inl (.inr (.inr ⟨i, hi, hr⟩))), h.ts, h.sa, h.jj, h.tt, h.inone⟩
  obtain ⟨c, h1, h2⟩ := h.arr
  exact ⟨c, (hs _ (.inl (.inr (.inl rfl)))).trans h1, h2⟩
theorem OU.inone' (h : OU L p g x w) {r : Nat} (hr : OR L p x r ∨ w.heap.size ≤ r) : p.I r = none := by
  rcases hr with h1 | h1
  · exact h.inone r h1
  · cases e : p.I r with
    | none => rfl
    | some o => exact absurd (fixed_lt (r := r) h.fix (by rw [e]; simp)) (by omega)
def MineC (L : Lay) (x : OX L) (i : Nat) (r : Nat) : Prop := L.SR x.s r ∨ ∃ c A ab, (x.th i).call = some (c, A, ab) ∧ L.CR c r
theorem mine_or (hi : i < p.n) {r : Nat} (h : MineC L x i r) : OR L p x r := by
  rcases h with h | ⟨c, A, ab, h1, h2⟩
  · exact .inl h
  · exact .inr (.inr ⟨i, hi, .inr (.inr ⟨c, A, ab, h1, .inr h2⟩)⟩)
theorem OU.other (h : OU L p g x w) (hi : i < p.n) {j r : Nat} (hj : j < p.n) (hne : j ≠ i) (hr : TR (x.th j) r) : ¬ MineC L x i r := by
  rintro (h1 | ⟨c, A, ab, h1, h2⟩)
  · exact (h.ts j hj r hr).1 h1
  · exact h.tt j i hj hi hne r hr (.inr (.inr ⟨c, A, ab, h1, .inr h2⟩))
theorem OU.aaM (h : OU L p g x w) (hi : i < p.n) : ¬ MineC L x i p.aa := by
  rintro (h1 | ⟨c, A, ab, h1, h2⟩)
  · exact h.sa h1
  · exact (h.ts i hi _ (.inr (.inr ⟨c, A, ab, h1, .inr h2⟩))).2 rfl
theorem OU.rowM (h : OU L p g x w) (hi : i < p.n) {r : Nat} (hr : Value.ownBlock (x.th i).row = some r) : ¬ MineC L x i r := by
  rintro (h1 | ⟨c, A, ab, h1, h2⟩)
  · exact (h.ts i hi r (.inl hr)).1 h1
  · exact ((h.thr i hi).call c A ab h1).2.2.2.2.2.1 r h2 hr.symm
theorem OU.ansM (h : OU L p g x w) (hi : i < p.n) {a : L.A} {r : Nat} (ha : a ∈ (x.th i).ans) (hr : L.AR a r) : ¬ MineC L x i r := by
  rintro (h1 | ⟨c, A, ab, h1, h2⟩)
  · exact (h.ts i hi r (.inr (.inl ⟨a, ha, hr⟩))).1 h1
  · exact (((h.thr i hi).call c A ab h1).2.2.2.2.2.2.1 a ha r hr).2 h2
theorem OU.abM (h : OU L p g x w) (hi : i < p.n) {c : L.C} {A : Array Value} {ab : Nat} (hc : (x.th i).call = some (c, A, ab)) : ¬ MineC L x i ab := by
  rintro (h1 | ⟨c1, A1, ab1, h1, h2⟩)
  · exact (h.ts i hi ab (.inr (.inr ⟨c, A, ab, hc, .inl rfl⟩))).1 h1
  · rw [hc] at h1
    cases h1
    exact ((h.thr i hi).call c A ab hc).2.2.2.1 h2
theorem ou_next (hL : L.Ok) (h : OU L p g x w) (hi : i < p.n) (hsz : w.heap.size ≤ w'.heap.size) (hsame : ∀ r, r < w.heap.size → ¬ MineC L x i r → w'.heap[r]? = w.heap[r]?) {s' : L.S} (hs : L.SU s' w') (hsr : ∀ q, L.SR s' q → MineC L x i q ∨ w.heap.size ≤ q) {call' : Option (L.C × Array Value × Nat)}
    (hJ : ∀ st c, L.J st x.s c → L.J st s' c)
    (hcall : ∀ c A ab, call' = some (c, A, ab) → L.J (g.st i) s' c ∧ Slots 33 A (dgS8 p (g.st i) i (x.th i).k ab) ∧ L.CU c w' ∧ (∀ q, L.CR c q → MineC L x i q ∨ w.heap.size ≤ q) ∧ (∀ q, L.CR c q → ¬ L.SR s' q) ∧ (x.th i).k < (p.ops i).length ∧ ((∃ c0 A0, (x.th i).call = some (c0, A0, ab)) ∨ (Ans w ab ∧ NF L p x ab))) :
    OU L p g (upd x i s' { x.th i with call := call' }) w' ∧ ∀ r, OR L p (upd x i s' { x.th i with call := call' }) r → OR L p x r ∨ w.heap.size ≤ r ∨ ∃ c A, call' = some (c, A, r) := by
  have hab : ∀ c A ab, call' = some (c, A, ab) → ¬ MineC L x i ab ∧ Ans w ab ∧ ab < w.heap.size ∧ some ab ≠ Value.ownBlock (x.th i).row ∧ (∀ a ∈ (x.th i).ans, ∀ r, L.AR a r → r ≠ ab) ∧ ab ≠ p.aa ∧ (∀ j, j < p.n → j ≠ i → ¬ TR (x.th j) ab) ∧ p.I ab = none := by
    intro c A ab hc
    obtain ⟨_, _, _, _, _, _, h6⟩ := hcall c A ab hc
    rcases h6 with ⟨c0, A0, h6⟩ | ⟨h6, h7⟩
    · obtain ⟨_, k2, _, k4, k5, _, k7, _⟩ := (h.thr i hi).call c0 A0 ab h6
      have hT : TR (x.th i) ab := .inr (.inr ⟨c0, A0, ab, h6, .inl rfl⟩)
      exact ⟨h.abM hi h6, k2, (h.thr i hi).low hL hT, k5, fun a ha r hr => (k7 a ha r hr).1, (h.ts i hi ab hT).2, fun j hj hne hh => h.tt j i hj hi hne ab hh hT, h.inone ab (.inr (.inr ⟨i, hi, hT⟩))⟩
    · refine ⟨fun hm => h7.1 (mine_or hi hm), h6, ?_, ?_, ?_, ?_, ?_, h7.2⟩
      · obtain ⟨_, _, _, h8⟩ := h6.o
        exact (Array.getElem?_eq_some_iff.1 h8).1
      · intro e
        exact h7.1 (.inr (.inr ⟨i, hi, .inl e.symm⟩))
      · rintro a ha r hr rfl
        exact h7.1 (.inr (.inr ⟨i, hi, .inr (.inl ⟨a, ha, hr⟩)⟩))
      · rintro rfl
        exact h7.1 (.inr (.inl rfl))
      · intro j hj _ hh
        exact h7.1 (.inr (.inr ⟨j, hj, hh⟩))
  have hT : ∀ r, TR { x.th i with call := call' } r → (TR (x.th i) r ∧ ¬ MineC L x i r) ∨ (∃ c A, call' = some (c, A, r)) ∨ ∃ c A ab, call' = some (c, A, ab) ∧ L.CR c r := by
    rintro r (h1 | ⟨a, ha, h1⟩ | ⟨c, A, ab, h1, h2⟩)
    · exact .inl ⟨.inl h1, h.rowM hi h1⟩
    · exact .inl ⟨.inr (.inl ⟨a, ha, h1⟩), h.ansM hi ha h1⟩
    · rcases h2 with rfl | h2
      · exact .inr (.inl ⟨c, A, h1⟩)
      · exact .inr (.inr ⟨c, A, ab, h1, h2⟩)
  have hO : ∀ r, OR L p (upd x i s' { x.th i with call := call' }) r → OR L p x r ∨ w.heap.size ≤ r ∨ ∃ c A, call' = some (c, A, r) := by
    rintro r (h1 | rfl | ⟨j, hj, h1⟩)
    · rcases hsr r h1 with h2 | h2
      · exact .inl (mine_or hi h2)
      · exact .inr (.inl h2)
    · exact .inl (.inr (.inl rfl))
    · by_cases e : j = i
      · subst e
        rw [upd_self] at h1
        rcases hT r h1 with h2 | h2 | ⟨c, A, ab, h2, h3⟩
        · exact .inl (.inr (.inr ⟨j, hj, h2.1⟩))
        · exact .inr (.inr h2)
        · rcases (hcall c A ab h2).2.2.2.1 r h3 with h4 | h4
          · exact .inl (mine_or hj h4)
          · exact .inr (.inl h4)
      · rw [upd_ne e] at h1
        exact .inl (.inr (.inr ⟨j, hj, h1⟩))
  have hAA : ¬ L.SR s' p.aa := by
    intro h1
    rcases hsr _ h1 with h2 | h2
    · exact h.aaM hi h2
    · have := h.aalt; omega
  have hX : ∀ r, TR { x.th i with call := call' } r → ∀ j, j < p.n → j ≠ i → ¬ TR (x.th j) r := by
    intro r hr j hj hne hh
    rcases hT r hr with h2 | ⟨c, A, h2⟩ | ⟨c, A, ab, h2, h3⟩
    · exact h.tt j i hj hi hne r hh h2.1
    · exact (hab c A r h2).2.2.2.2.2.2.1 j hj hne hh
    · rcases (hcall c A ab h2).2.2.2.1 r h3 with h4 | h4
      · exact h.other hi hj hne hh h4
      · have := (h.thr j hj).low hL hh; omega
  have hJJ : ∀ j, j < p.n → ∀ c A ab, ((upd x i s' { x.th i with call := call' }).th j).call = some (c, A, ab) → L.J (g.st j) s' c := by
    intro j hj c A ab hc
    by_cases e : j = i
    · subst e
      rw [upd_self] at hc
      exact (hcall c A ab hc).1
    · rw [upd_ne e] at hc
      exact hJ _ c (h.jj j hj c A ab hc)
  refine ⟨⟨?_, hs, ?_, ?_, ?_, hAA, hJJ, ?_, ?_⟩, hO⟩
  · refine fixed_stable h.fix fun r hr => hsame r (fixed_lt h.fix hr) fun hm => hr (h.inone r (mine_or hi hm))
  · obtain ⟨c, h1, h2, h3⟩ := h.arr
    refine ⟨c, (hsame _ h.aalt (h.aaM hi)).trans h1, h2, fun j hj => ?_⟩
    by_cases e : j = i
    · subst e; rw [upd_self]; exact h3 j hj
    · rw [upd_ne e]; exact h3 j hj
  · intro j hj
    by_cases e : j = i
    · subst e
      rw [upd_self]
      have ht := h.thr j hj
      refine ⟨ownsRow_same2 ht.row fun b hb _ => hsame b (ht.low hL (.inl hb)) (h.rowM hj hb), fun a ha => hL.sA a w w' (ht.au a ha) hsz fun r hr => hsame r (ht.low hL (.inr (.inl ⟨a, ha, hr⟩))) (h.ansM hj ha hr), ht.al, ht.kl, ht.ar, ?_⟩
      intro c A ab hc
      obtain ⟨_, k1, k2, k3, k4, k5, k6⟩ := hcall c A ab hc
      obtain ⟨m1, m2, m3, m4, m5, m6, m7, m8⟩ := hab c A ab hc
      refine ⟨k1, ans_same m2 (hsame ab m3 m1), k2, ?_, m4, ?_, ?_, k5⟩
      · intro hh
        rcases k3 ab hh with h4 | h4
        · exact m1 h4
        · omega
      · intro r hr e
        rcases k3 r hr with h4 | h4
        · exact h.rowM hj e.symm h4
        · have := ht.low hL (.inl e.symm); omega
      · intro a ha r hr
        refine ⟨m5 a ha r hr, fun hh => ?_⟩
        rcases k3 r hh with h4 | h4
        · exact h.ansM hj ha hr h4
        · have := ht.low hL (.inr (.inl ⟨a, ha, hr⟩)); omega
    · rw [upd_ne e]
      exact (h.thr j hj).stable hL hsz fun r hr => hsame r ((h.thr j hj).low hL hr) (h.other hi hj e hr)
  · intro j hj r hr
    by_cases e : j = i
    · subst e
      rw [upd_self] at hr
      rcases hT r hr with ⟨h2, h3⟩ | ⟨c, A, h2⟩ | ⟨c, A, ab, h2, h3⟩
      · refine ⟨fun hh => ?_, (h.ts j hj r h2).2⟩
        rcases hsr r hh with h4 | h4
        · exact h3 h4
        · have := (h.thr j hj).low hL h2; omega
      · obtain ⟨m1, m2, m3, m4, m5, m6, m7, m8⟩ := hab c A r h2
        refine ⟨fun hh => ?_, m6⟩
        rcases hsr r hh with h4 | h4
        · exact m1 h4
        · omega
      · obtain ⟨_, k1, k2, k3, k4, k5, k6⟩ := hcall c A ab h2
        refine ⟨k4 r h3, ?_⟩
        rintro rfl
        rcases k3 _ h3 with h4 | h4
        · exact h.aaM hj h4
        · have := h.aalt; omega
    · rw [upd_ne e] at hr
      refine ⟨fun hh => ?_, (h.ts j hj r hr).2⟩
      rcases hsr r hh with h4 | h4
      · exact h.other hi hj e hr h4
      · have := (h.thr j hj).low hL hr; omega
  · intro j k hj hk hne r h1 h2
    by_cases e : j = i
    · subst e
      rw [upd_self] at h1
      rw [upd_ne (fun e => hne e.symm)] at h2
      exact hX r h1 k hk (fun e => hne e.symm) h2
    · rw [upd_ne e] at h1
      by_cases e2 : k = i
      · subst e2
        rw [upd_self] at h2
        exact hX r h2 j hj e h1
      · rw [upd_ne e2] at h2
        exact h.tt j k hj hk hne r h1 h2
  · intro r hr
    rcases hO r hr with h1 | h1 | ⟨c, A, h1⟩
    · exact h.inone r h1
    · exact h.inone' (.inr h1)
    · exact (hab c A r h1).2.2.2.2.2.2.2
end Go.Proofs.Ytlcgkpapnpdfpaa
namespace Go.Proofs.Ytlcgkpapnpdfpaa
open Go Go.Conc Go.RowKit Go.Proofs
variable {F : Fz} {w w' : World} {L : Lay} {p : Par} {g : Gate} {x y : OX L} {i : Nat}
theorem NotedA.at {aa ab i m : Nat} {v a b c : Value} {xs : List Value} {v' : Value} (h : NotedA F aa ab i m v a b c xs w w' v') (d : Nat) : NotedA F aa ab i m v a b c xs w (w'.at d) v' :=
  ⟨⟨h.wf.own⟩, h.row, h.arr, h.size, h.own, h.old⟩
theorem ou_noted (hL : L.Ok) (hP : p.Ok L) (hi : i < p.n) {an : L.A} {ab : Nat} (h : OU L p g x w) (hc : (x.th i).call = none) (hk : (x.th i).k < (p.ops i).length) (hau : L.AU an w) (hna : ∀ r, L.AR an r → NF L p x r ∧ r ≠ ab) {F2 : Fz} {a b c : Value} (hac : (L.AV an).cells = [a, b, c]) {v' : Value}
    (hn : NotedA F2 p.aa ab i (x.th i).k (x.th i).row a b c (((x.th i).ans.map fun a => (L.AV a).cells).flatten) w w' v') :
    OU L p g (upd x i x.s ⟨(x.th i).k + 1, none, (x.th i).ans ++ [an], v'⟩) w' ∧ (∀ r, OR L p (upd x i x.s ⟨(x.th i).k + 1, none, (x.th i).ans ++ [an], v'⟩) r → OR L p x r ∨ L.AR an r ∨ w.heap.size ≤ r) := by
  have ht := h.thr i hi
  have hsame : ∀ r, r < w.heap.size → r ≠ p.aa → some r ≠ Value.ownBlock (x.th i).row → w'.heap[r]? = w.heap[r]? := hn.old
  have hT : ∀ r, TR (⟨(x.th i).k + 1, none, (x.th i).ans ++ [an], v'⟩ : Thr L) r → TR (x.th i) r ∨ L.AR an r ∨ w.heap.size ≤ r := by
    rintro r (h1 | ⟨a, ha, h1⟩ | ⟨c, A, ab, h1, h2⟩)
    · rcases hn.own r h1 with h2 | h2
      · exact .inl (.inl h2.symm)
      · exact .inr (.inr h2)
    · rcases List.mem_append.1 ha with ha | ha
      · exact .inl (.inr (.inl ⟨a, ha, h1⟩))
      · rw [List.mem_singleton] at ha
        subst ha
        exact .inr (.inl h1)
    · cases h1
  have hO : ∀ r, OR L p (upd x i x.s ⟨(x.th i).k + 1, none, (x.th i).ans ++ [an], v'⟩) r → OR L p x r ∨ L.AR an r ∨ w.heap.size ≤ r := by
    rintro r (h1 | rfl | ⟨j, hj, h1⟩)
    · exact .inl (.inl h1)
    · exact .inl (.inr (.inl rfl))
    · by_cases e : j = i
      · subst e
        rw [upd_self] at h1
        rcases hT r h1 with h2 | h2 | h2
        · exact .inl (.inr (.inr ⟨j, hj, h2⟩))
        · exact .inr (.inl h2)
        · exact .inr (.inr h2)
      · rw [upd_ne e] at h1
        exact .inl (.inr (.inr ⟨j, hj, h1⟩))
  have hrow : ∀ r, some r = Value.ownBlock (x.th i).row → TR (x.th i) r := fun r hr => .inl hr.symm
  have hrowI : ∀ r, p.I r ≠ none → some r ≠ Value.ownBlock (x.th i).row := fun r hr e => hr (h.inone r (.inr (.inr ⟨i, hi, hrow r e⟩)))
  have haaI : ∀ r, p.I r ≠ none → r ≠ p.aa := fun r hr e => hr (h.inone r (.inr (.inl e)))
  have hX : ∀ r, TR (⟨(x.th i).k + 1, none, (x.th i).ans ++ [an], v'⟩ : Thr L) r → ∀ j, j < p.n → j ≠ i → ¬ TR (x.th j) r := by
    intro r hr j hj hne hh
    rcases hT r hr with h2 | h2 | h2
    · exact h.tt j i hj hi hne r hh h2
    · exact (hna r h2).1.1 (.inr (.inr ⟨j, hj, hh⟩))
    · have := (h.thr j hj).low hL hh; omega
  refine ⟨⟨fixed_stable h.fix fun r hr => hsame r (fixed_lt h.fix hr) (haaI r hr) (hrowI r hr), hL.sS _ w w' h.su hn.size fun r hr => hsame r (hL.lS _ _ _ h.su hr) (by rintro rfl; exact h.sa hr) fun e => (h.ts i hi r (hrow r e)).1 hr, ?_, ?_, ?_, h.sa, ?_, ?_, ?_⟩, hO⟩
  · obtain ⟨c, h1, h2, h3⟩ := h.arr
    refine ⟨_, hn.arr c h1, by simpa using h2, fun j hj => ?_⟩
    by_cases e : j = i
    · subst e
      rw [upd_self, Array.getElem?_setIfInBounds_self_of_lt (by omega)]
    · rw [upd_ne e, Array.getElem?_setIfInBounds_ne (fun e1 => e e1.symm)]
      exact h3 j hj
  · intro j hj
    by_cases e : j = i
    · subst e
      rw [upd_self]
      refine ⟨?_, ?_, ?_, ?_, ?_, fun c A ab h1 => by cases h1⟩
      · have := hn.row
        simp only [List.map_append, List.map_cons, List.map_nil, List.flatten_append, List.flatten_cons, List.flatten_nil, List.append_nil, List.length_append, List.length_cons, List.length_nil, hac, ht.al]
        exact this
      · intro a ha
        rcases List.mem_append.1 ha with ha | ha
        · exact hL.sA a w w' (ht.au a ha) hn.size fun r hr => hsame r (ht.low hL (.inr (.inl ⟨a, ha, hr⟩))) (h.ts j hj r (.inr (.inl ⟨a, ha, hr⟩))).2 (ht.ar a ha r hr)
        · rw [List.mem_singleton] at ha
          subst ha
          exact hL.sA a w w' hau hn.size fun r hr => hsame r (hL.lA a w r hau hr) (fun e => (hna r hr).1.1 (.inr (.inl e))) (fun e => (hna r hr).1.1 (.inr (.inr ⟨j, hj, hrow r e⟩)))
      · simp [ht.al]
      · exact hk
      · intro a ha r hr e
        rcases hn.own r e.symm with h2 | h2
        · rcases List.mem_append.1 ha with ha | ha
          · exact ht.ar a ha r hr h2
          · rw [List.mem_singleton] at ha
            subst ha
            exact (hna r hr).1.1 (.inr (.inr ⟨j, hj, hrow r h2⟩))
        · rcases List.mem_append.1 ha with ha | ha
          · have := ht.low hL (.inr (.inl ⟨a, ha, hr⟩)); omega
          · rw [List.mem_singleton] at ha
            subst ha
            have := hL.lA a w r hau hr; omega
    · rw [upd_ne e]
      exact (h.thr j hj).stable hL hn.size fun r hr => hsame r ((h.thr j hj).low hL hr) (h.ts j hj r hr).2 fun e1 => h.tt j i hj hi e r hr (hrow r e1)
  · intro j hj r hr
    by_cases e : j = i
    · subst e
      rw [upd_self] at hr
      rcases hT r hr with h2 | h2 | h2
      · exact h.ts j hj r h2
      · exact ⟨fun hh => (hna r h2).1.1 (.inl hh), fun e => (hna r h2).1.1 (.inr (.inl e))⟩
      · refine ⟨fun hh => ?_, ?_⟩
        · have := hL.lS _ _ _ h.su hh; omega
        · rintro rfl
          have := h.aalt; omega
    · rw [upd_ne e] at hr
      exact h.ts j hj r hr
  · intro j hj c A ab hc
    by_cases e : j = i
    · subst e
      rw [upd_self] at hc
      cases hc
    · rw [upd_ne e] at hc
      exact h.jj j hj c A ab hc
  · intro j k hj hk2 hne r h1 h2
    by_cases e : j = i
    · subst e
      rw [upd_self] at h1
      rw [upd_ne (fun e => hne e.symm)] at h2
      exact hX r h1 k hk2 (fun e => hne e.symm) h2
    · rw [upd_ne e] at h1
      by_cases e2 : k = i
      · subst e2
        rw [upd_self] at h2
        exact hX r h2 j hj e h1
      · rw [upd_ne e2] at h2
        exact h.tt j k hj hk2 hne r h1 h2
  · intro r hr
    rcases hO r hr with h1 | h1 | h1
    · exact h.inone r h1
    · exact (hna r h1).1.2
    · exact h.inone' (.inr h1)
theorem own_note (hL : L.Ok) (hP : p.Ok L) (hi : i < p.n) {an : L.A} {ab : Nat} {A0 : Array Value} (h : OU L p g x w) (hc : (x.th i).call = none) (hk : (x.th i).k < (p.ops i).length) (hau : L.AU an w) (hna : ∀ r, L.AR an r → NF L p x r ∧ r ≠ ab) (ha : Ans w ab) (hnb : NF L p x ab) (hwf : Wf F w) (hF : ∀ r, OR L p x r ∨ r = ab → F r = none) (hA : Slots 33 A0 (dgS8 p (g.st i) i (x.th i).k ab)) {cs : List Frame} {Stop : Goroutine → World → Prop}
    (K : ∀ w' A v', OU L p g (upd x i x.s ⟨(x.th i).k + 1, none, (x.th i).ans ++ [an], v'⟩) w' → (∀ r, OR L p (upd x i x.s ⟨(x.th i).k + 1, none, (x.th i).ans ++ [an], v'⟩) r → OR L p x r ∨ L.AR an r ∨ w.heap.size ≤ r) → w.heap.size ≤ w'.heap.size → Wf F w' → Slots 33 A (dgS p (g.st i) i ((x.th i).k + 1)) →
      Own Try.prog false F Stop (G ((Go.Conc.base 99).at ⟨A, []⟩ [.code dgs2, .inLoop dgs2, .inBlock 0]) cs) w') :
    Own Try.prog false F Stop (back (L.AV an).v (dgFr A0 :: cs)) w := by
  have hkl := hP.len i hi
  refine dg_2a (lc := (L.AV an).lc) ha (fun k hh => ?_) hA fun A1 hA1 => ?_
  · obtain ⟨z, hz, _⟩ := hh
    rw [hF ab (.inr rfl)] at hz
    cases hz
  have hsz : ((((w.setCell ⟨ab, 0, none⟩ (.bool (L.AV an).ok)).setCell ⟨ab, 1, none⟩ (.int .i64 (L.AV an).n)).setCell ⟨ab, 2, none⟩ (.slice (L.AV an).la (L.AV an).ll (L.AV an).lc))).heap.size = w.heap.size := by simp
  have hne : ∀ r, r ≠ ab → ((((w.setCell ⟨ab, 0, none⟩ (.bool (L.AV an).ok)).setCell ⟨ab, 1, none⟩ (.int .i64 (L.AV an).n)).setCell ⟨ab, 2, none⟩ (.slice (L.AV an).la (L.AV an).ll (L.AV an).lc))).heap[r]? = w.heap[r]? := by
    intro r hr
    rw [heap_setCell_ne _ _ _ hr, heap_setCell_ne _ _ _ hr, heap_setCell_ne _ _ _ hr]
  have hab : ((((w.setCell ⟨ab, 0, none⟩ (.bool (L.AV an).ok)).setCell ⟨ab, 1, none⟩ (.int .i64 (L.AV an).n)).setCell ⟨ab, 2, none⟩ (.slice (L.AV an).la (L.AV an).ll (L.AV an).lc))).heap[ab]? = some (.cells #[.bool (L.AV an).ok, .int .i64 (L.AV an).n, .slice (L.AV an).la (L.AV an).ll (L.AV an).lc] 44 (0, 0)) := by
    obtain ⟨a, b, c, h1⟩ := ha.o
    rw [heap_setCell_eq (heap_setCell_eq (heap_setCell_eq h1 _) _) _]
    rfl
  generalize (((w.setCell ⟨ab, 0, none⟩ (.bool (L.AV an).ok)).setCell ⟨ab, 1, none⟩ (.int .i64 (L.AV an).n)).setCell ⟨ab, 2, none⟩ (.slice (L.AV an).la (L.AV an).ll (L.AV an).lc)) = W at hsz hne hab ⊢
  have hU : OU L p g x W := h.stable hL (by omega) fun r hr => hne r (by
    rintro rfl
    rcases hr with hr | hr
    · exact hnb.1 hr
    · exact hr hnb.2)
  have hauW : L.AU an W := hL.sA an w W hau (by omega) fun r hr => hne r (hna r hr).2
  have hwfW : Wf F W := by
    constructor
    intro r z hz
    obtain ⟨c, e, z0, h1, h2⟩ := hwf.own r z hz
    refine ⟨c, e, z0, (hne r ?_).trans h1, h2⟩
    rintro rfl
    rw [hF r (.inr rfl)] at hz
    cases hz
  have ht := hU.thr i hi
  have hmF : ∀ r, (r = p.aa ∨ some r = Value.ownBlock (x.th i).row) → F r = none := by
    rintro r (rfl | hr)
    · exact hF _ (.inl (.inr (.inl rfl)))
    · exact hF _ (.inl (.inr (.inr ⟨i, hi, .inl hr.symm⟩)))
  obtain ⟨c0, harr, hcs, hci⟩ := hU.arr
  have hrI : ∀ r, p.I r ≠ none → some r ≠ Value.ownBlock (x.th i).row := fun r hr e => hr (h.inone r (.inr (.inr ⟨i, hi, .inl e.symm⟩)))
  have key := dg_2b (F := FU F (fun r => r = p.aa ∨ some r = Value.ownBlock (x.th i).row) W) (w := W) (nn := W.heap.size) (main := false) (cs := cs) (kk := [.inBlock 1, .code dgr7, .inLoop dgs2, .inBlock 0]) (Stop := fun a u => ∃ v' A, a = G ((Go.Conc.base 99).at ⟨A, []⟩ [.inBlock 1, .code dgr7, .inLoop dgs2, .inBlock 0]) cs ∧ NotedA (FU F (fun r => r = p.aa ∨ some r = Value.ownBlock (x.th i).row) W) p.aa ab i (x.th i).k (x.th i).row (.bool (L.AV an).ok) (.int .i64 (L.AV an).n) (.slice (L.AV an).la (L.AV an).ll (L.AV an).lc) (((x.th i).ans.map fun a => (L.AV a).cells).flatten) W u v' ∧ Slots 33 A (dgS8 p (g.st i) i (x.th i).k ab))
    fu_under (Nat.le_refl _) ⟨rfl, rfl, rfl⟩ hi (by omega) ⟨fu_wf, hP.av W hU.fix, hP.ib W hU.fix i hi, ⟨c0, harr, hci i hi⟩, hab⟩ (by rw [← ht.al]; exact ht.row) (fu_mine (.inl rfl)) (fun b hb => fu_mine (.inr hb.symm)) ⟨fun e => (h.ts i hi _ (.inl e.symm)).2 rfl, fun e => hnb.1 (.inr (.inr ⟨i, hi, .inl e.symm⟩)), hrI _ hP.inI.1, hrI _ (hP.inI.2 i hi)⟩
    (fun r c e z0 h1 h2 h3 h4 => ⟨_, fu_cells (fun hm => hm.elim h2 h3) h1, fun e => by simp only [Prod.mk.injEq] at e; omega⟩) hA1 fun w2 v' A2 hn hA2 => .stop fun d => ⟨v', A2, rfl, hn.at d, hA2⟩
  refine (own_weaken (fun a ha => fu_held hwfW hmF ha) key).bind fun a u hs => ?_
  obtain ⟨v', A2, rfl, hn, hA2⟩ := hs u.drawn
  have hn : NotedA _ p.aa ab i (x.th i).k (x.th i).row (.bool (L.AV an).ok) (.int .i64 (L.AV an).n) (.slice (L.AV an).la (L.AV an).ll (L.AV an).lc) (((x.th i).ans.map fun a => (L.AV a).cells).flatten) W u v' := hn
  refine dg_2c (by omega) hA2 fun A3 hA3 => ?_
  obtain ⟨q1, q2⟩ := ou_noted hL hP hi hU hc hk hauW hna rfl hn
  refine K u A3 v' q1 (fun r hr => ?_) (by have := hn.size; omega) ?_ hA3
  · rcases q2 r hr with h1 | h1 | h1
    · exact .inl h1
    · exact .inr (.inl h1)
    · exact .inr (.inr (by omega))
  · constructor
    intro r z hz
    obtain ⟨c, e, z0, h1, h2⟩ := hwfW.own r z hz
    refine ⟨c, e, z0, (hn.old r (Array.getElem?_eq_some_iff.1 h1).1 ?_ ?_).trans h1, h2⟩
    · rintro rfl
      rw [hmF _ (.inl rfl)] at hz
      cases hz
    · intro e
      rw [hmF _ (.inr e)] at hz
      cases hz
end Go.Proofs.Ytlcgkpapnpdfpaa
namespace Go.Proofs.Ytlcgkpapnpdfpaa
open Go Go.Conc Go.RowKit Go.Proofs
variable {F : Fz} {w w' w0 : World} {L : Lay} {p : Par} {g : Gate} {x y x0 : OX L} {i : Nat}
theorem OU.at (hL : L.Ok) (h : OU L p g x w) (d : Nat) : OU L p g x (w.at d) := h.stable hL (Nat.le_refl _) fun _ _ => rfl
theorem wf_none (hw0 : Wf F w0) {r : Nat} (h : w0.heap.size ≤ r) : F r = none := by
  cases e : F r with
  | none => rfl
  | some z =>
    obtain ⟨c, e1, z0, h1, _⟩ := hw0.own r z e
    have := (Array.getElem?_eq_some_iff.1 h1).1
    omega
theorem wf_under (hw0 : Wf F w0) : Under F w0.heap.size := by
  intro r z h
  obtain ⟨c, e1, z0, h1, _⟩ := hw0.own r z h
  exact (Array.getElem?_eq_some_iff.1 h1).1
theorem nf_after (hL : L.Ok) (h : OU L p g x w) (hi : i < p.n) {s' : L.S} {r : Nat} (hr : (∃ c A ab, (x.th i).call = some (c, A, ab) ∧ L.CR c r) ∨ w.heap.size ≤ r) (hs : ¬ L.SR s' r) : NF L p (upd x i s' { x.th i with call := none }) r := by
  have hM : ∀ q, (∃ c A ab, (x.th i).call = some (c, A, ab) ∧ L.CR c q) → MineC L x i q := fun q h => .inr h
  refine ⟨?_, ?_⟩
  · rintro (h1 | rfl | ⟨j, hj, h1⟩)
    · exact hs h1
    · rcases hr with hr | hr
      · exact h.aaM hi (hM _ hr)
      · have := h.aalt; omega
    · by_cases e : j = i
      · subst e
        rw [upd_self] at h1
        rcases h1 with h1 | ⟨a, ha, h1⟩ | ⟨c, A, ab, h1, _⟩
        · rcases hr with hr | hr
          · exact h.rowM hj h1 (hM _ hr)
          · have := (h.thr j hj).low hL (.inl h1); omega
        · rcases hr with hr | hr
          · exact h.ansM hj ha h1 (hM _ hr)
          · have := (h.thr j hj).low hL (.inr (.inl ⟨a, ha, h1⟩)); omega
        · cases h1
      · rw [upd_ne e] at h1
        rcases hr with hr | hr
        · exact h.other hi hj e h1 (hM _ hr)
        · have := (h.thr j hj).low hL h1; omega
  · rcases hr with hr | hr
    · exact h.inone r (mine_or hi (hM _ hr))
    · exact h.inone' (.inr hr)
theorem nf_ab (hL : L.Ok) (h : OU L p g x w) (hi : i < p.n) {s' : L.S} (hsr : ∀ q, L.SR s' q → MineC L x i q ∨ w.heap.size ≤ q) {c0 : L.C} {A0 : Array Value} {ab : Nat} (hc : (x.th i).call = some (c0, A0, ab)) : NF L p (upd x i s' { x.th i with call := none }) ab := by
  have hT : TR (x.th i) ab := .inr (.inr ⟨c0, A0, ab, hc, .inl rfl⟩)
  obtain ⟨_, k2, _, k4, k5, _, k7, _⟩ := (h.thr i hi).call c0 A0 ab hc
  refine ⟨?_, h.inone ab (.inr (.inr ⟨i, hi, hT⟩))⟩
  rintro (h1 | e1 | ⟨j, hj, h1⟩)
  · rcases hsr ab h1 with h2 | h2
    · exact h.abM hi hc h2
    · have := (h.thr i hi).low hL hT; omega
  · exact (h.ts i hi ab hT).2 e1
  · by_cases e : j = i
    · subst e
      rw [upd_self] at h1
      rcases h1 with h1 | ⟨a, ha, h1⟩ | ⟨c, A, ab, h1, _⟩
      · exact k5 h1.symm
      · exact (k7 a ha ab h1).1 rfl
      · cases h1
    · rw [upd_ne e] at h1
      exact h.tt j i hj hi e ab h1 hT
theorem nf_fresh (hL : L.Ok) (h : OU L p g x w) (hi : i < p.n) {s' : L.S} (hsr : ∀ q, L.SR s' q → MineC L x i q ∨ w.heap.size ≤ q) {ab : Nat} (hlt : ab < w.heap.size) (hn : NF L p x ab) (hc : (x.th i).call = none) : NF L p (upd x i s' { x.th i with call := none }) ab := by
  refine ⟨?_, hn.2⟩
  rintro (h1 | e1 | ⟨j, hj, h1⟩)
  · rcases hsr ab h1 with h2 | h2
    · exact hn.1 (mine_or hi h2)
    · omega
  · exact hn.1 (.inr (.inl e1))
  · by_cases e : j = i
    · subst e
      rw [upd_self] at h1
      have h2 : TR (x.th j) ab := by
        rcases h1 with h1 | h1 | ⟨c, A, ab, h1, _⟩
        · exact .inl h1
        · exact .inr (.inl h1)
        · cases h1
      exact hn.1 (.inr (.inr ⟨j, hj, h2⟩))
    · rw [upd_ne e] at h1
      exact hn.1 (.inr (.inr ⟨j, hj, h1⟩))
def TEnd (L : Lay) (p : Par) (g : Gate) (i : Nat) (y : OX L) (cs : List Frame) (a : Goroutine) : Prop :=
  ((opsUsers L p g).liv y i = true ∧ a = G (Frame.enter Try.prog 133 #[.pointer (some ⟨g.st i, 0, none⟩)] .normal) ((opsUsers L p g).fr y i ++ cs)) ∨ ((opsUsers L p g).liv y i = false ∧ ∃ v, a = back v cs)
def AdvTo (L : Lay) (p : Par) (g : Gate) (i : Nat) (x0 : OX L) (w0 : World) (S : OX L → Prop) (x : OX L) (cs : List Frame) (a : Goroutine) (u : World) : Prop :=
  ∃ y, S y ∧ (∀ j, j ≠ i → y.th j = x.th j) ∧ OU L p g y u ∧ (∀ r, OR L p y r → OR L p x0 r ∨ w0.heap.size ≤ r) ∧ TEnd L p g i y cs a
theorem own_adv (hL : L.Ok) (hP : p.Ok L) (hi : i < p.n) (hF0 : ∀ r, OR L p x0 r → F r = none) (hw0 : Wf F w0) (c : Frame) (cs : List Frame) : ∀ (m : Nat) (x : OX L) (w : World) (A : Array Value), (p.ops i).length - (x.th i).k = m → OU L p g x w → (x.th i).call = none → Wf F w → w0.heap.size ≤ w.heap.size → (∀ r, OR L p x r → OR L p x0 r ∨ w0.heap.size ≤ r) → Slots 33 A (dgS p (g.st i) i (x.th i).k) →
    Own Try.prog false F (AdvTo L p g i x0 w0 (fun y => Adv L p i (x.s, x.th i) (y.s, y.th i)) x (c :: cs)) (G ((Go.Conc.base 99).at ⟨A, []⟩ [.code dgs2, .inLoop dgs2, .inBlock 0]) (c :: cs)) w := by
  have hFn : ∀ r, OR L p x0 r ∨ w0.heap.size ≤ r → F r = none := fun r h => h.elim (hF0 r) (wf_none hw0)
  intro m
  induction m with
  | zero =>
    intro x w A hm h hc hwf hsz hO hA
    have hk : (x.th i).k = (p.ops i).length := by have := (h.thr i hi).kl; omega
    rw [hk] at hA
    refine dg_3 hA (.stop fun d => ⟨x, .done hc hk, fun j _ => rfl, h.at hL d, hO, .inr ⟨?_, _, rfl⟩⟩)
    show (x.th i).call.isSome = false
    rw [hc]
    rfl
  | succ m ih =>
    intro x w A hm h hc hwf hsz hO hA
    have hk : (x.th i).k < (p.ops i).length := by omega
    obtain ⟨o, ho⟩ : ∃ o, (p.ops i)[(x.th i).k]? = some o := ⟨_, List.getElem?_eq_getElem hk⟩
    obtain ⟨opb, oo, hoa, f0, f1, f2, f3, g0, g1, g2, g3⟩ := hP.op w h.fix i hi _ o ho
    have hdb := hP.db w h.fix
    have hib := hP.ib w h.fix i hi
    have hA' := hA
    unfold dgS at hA'
    rw [hoa] at hA'
    refine dg_1 (wf_under hwf) (Nat.le_refl _) hL.call hk (hP.len i hi) hdb.c hdb.z hib.c hib.z hdb.lt hib.lt f0 f1 f2 f3 g0 g1 g2 g3 hA' fun A1 hA1 => ?_
    have hA1' : Slots 33 A1 (dgS8 p (g.st i) i (x.th i).k (w.heap.size + 1)) := by
      unfold dgS8
      rw [hoa]
      obtain ⟨b0, b1, b2, b3, b4, b5, b6, b7, b8⟩ := hA1
      exact ⟨b0, b1, b2, b3, b4, b5, b7, b8⟩
    have e1 : ∀ r, r < w.heap.size → ((w.alloc (.cells #[.int .i64 o.kd, .int .i64 o.a, .int .i64 o.b, .int .i64 o.c] 47)).alloc (.cells #[.bool false, .int .i64 0, .slice none 0 0] 44)).heap[r]? = w.heap[r]? := fun r hr => by
      rw [heap_alloc_lt _ _ (by simp; omega), heap_alloc_lt _ _ hr]
    have e2 : ((w.alloc (.cells #[.int .i64 o.kd, .int .i64 o.a, .int .i64 o.b, .int .i64 o.c] 47)).alloc (.cells #[.bool false, .int .i64 0, .slice none 0 0] 44)).heap[w.heap.size + 1]? = some (.cells #[.bool false, .int .i64 0, .slice none 0 0] 44 (0, 0)) := by
      have := heap_alloc_new (w.alloc (.cells #[.int .i64 o.kd, .int .i64 o.a, .int .i64 o.b, .int .i64 o.c] 47)) (.cells #[.bool false, .int .i64 0, .slice none 0 0] 44)
      simpa using this
    have e3 : ((w.alloc (.cells #[.int .i64 o.kd, .int .i64 o.a, .int .i64 o.b, .int .i64 o.c] 47)).alloc (.cells #[.bool false, .int .i64 0, .slice none 0 0] 44)).heap.size = w.heap.size + 2 := by simp
    generalize (w.alloc (.cells #[.int .i64 o.kd, .int .i64 o.a, .int .i64 o.b, .int .i64 o.c] 47)).alloc (.cells #[.bool false, .int .i64 0, .slice none 0 0] 44) = W at e1 e2 e3 ⊢
    have hx : OU L p g x W := h.stable hL (by omega) fun r hr => e1 r (hr.elim (h.low hL) (fixed_lt h.fix))
    have hans : Ans W (w.heap.size + 1) := ⟨⟨_, _, _, e2⟩⟩
    have hnf : NF L p x (w.heap.size + 1) := ⟨fun hh => by have := h.low hL hh; omega, h.inone' (.inr (by omega))⟩
    have hwf1 : Wf F W := by
      constructor
      intro r z hz
      obtain ⟨c, e, z0, h1, h2⟩ := hwf.own r z hz
      exact ⟨c, e, z0, (e1 r (Array.getElem?_eq_some_iff.1 h1).1).trans h1, h2⟩
    have hSF : ∀ r, L.SR x.s r → F r = none := fun r hr => hFn r (hO r (.inl hr))
    have key := own_gd (hL.beg x.s i o (g.st i) (FU F (fun r => L.SR x.s r) W) W (dgFr A1) (c :: cs) hx.su fu_wf fun r hr => fu_mine hr)
    refine (own_weaken (fun a ha => fu_held hwf1 hSF ha) key).bind fun a u hs => ?_
    obtain ⟨hgd, s', res, hrel, hsu, hsr, hres⟩ := hs u.drawn
    have hgd : Gd (FU F (fun r => L.SR x.s r) W) W u := hgd
    have hsu : L.SU s' u := hsu
    have hus : W.heap.size ≤ u.heap.size := hgd.size
    have hsame : ∀ r, r < W.heap.size → ¬ MineC L x i r → u.heap[r]? = W.heap[r]? := fun r hr hm => fu_same hgd (fun hh => hm (.inl hh)) hr
    have hsr2 : ∀ q, L.SR s' q → MineC L x i q ∨ W.heap.size ≤ q := by
      intro q hq
      rcases hsr q hq with h1 | h1 | h1
      · exact .inl (.inl h1)
      · exact h1.elim
      · exact .inr h1
    have hwf2 : Wf F u := by
      constructor
      intro r z hz
      obtain ⟨c, e, z0, h1, h2⟩ := hwf1.own r z hz
      refine ⟨c, e, z0, (fu_same hgd (fun hh => ?_) (Array.getElem?_eq_some_iff.1 h1).1).trans h1, h2⟩
      rw [hSF r hh] at hz
      cases hz
    cases res with
    | inl c1 =>
      obtain ⟨hjj, hcu, hcr, hcs, rfl⟩ := hres
      have hcu : L.CU c1 u := hcu
      obtain ⟨q1, q2⟩ := ou_next hL hx hi hus hsame hsu hsr2 (call' := some (c1, A1, w.heap.size + 1)) (fun _ c2 h2 => hL.jb _ _ _ _ _ _ _ h2 hrel) (by
        intro c A ab e
        cases e
        exact ⟨hjj, hA1', hcu, fun q hq => (hcr q hq).elim False.elim .inr, hcs, hk, .inr ⟨hans, hnf⟩⟩)
      refine .stop fun d => ⟨_, ?_, fun j hj => upd_ne hj, q1.at hL d, fun r hr => ?_, .inl ⟨?_, ?_⟩⟩
      · show Adv L p i (x.s, x.th i) (s', (upd x i s' { x.th i with call := some (c1, A1, w.heap.size + 1) }).th i)
        rw [upd_self]
        exact .live ho hrel
      · rcases q2 r hr with h1 | h1 | ⟨c2, A2, h1⟩
        · exact hO r h1
        · exact .inr (by omega)
        · cases h1
          exact .inr (by omega)
      · show ((upd x i s' { x.th i with call := some (c1, A1, w.heap.size + 1) }).th i).call.isSome = true
        rw [upd_self]
        rfl
      · simp only [opsUsers, upd_self, List.append_assoc, List.cons_append, List.nil_append]
    | inr an =>
      obtain ⟨hau, har, has, rfl⟩ := hres
      have hau : L.AU an u := hau
      obtain ⟨q1, q2⟩ := ou_next hL hx hi hus hsame hsu hsr2 (call' := none) (fun _ c2 h2 => hL.jb _ _ _ _ _ _ _ h2 hrel) (by intro c A ab e; cases e)
      have hq2 : ∀ r, OR L p (upd x i s' { x.th i with call := none }) r → OR L p x0 r ∨ w0.heap.size ≤ r := by
        intro r hr
        rcases q2 r hr with h1 | h1 | ⟨c2, A2, h1⟩
        · exact hO r h1
        · exact .inr (by omega)
        · cases h1
      have hti : (upd x i s' { x.th i with call := none }).th i = { x.th i with call := none } := upd_self
      have hAn : ∀ q, L.AR an q → W.heap.size ≤ q := fun q hq => (har q hq).elim False.elim id
      refine own_note hL hP hi (ab := w.heap.size + 1) q1 (by rw [hti]) (by rw [hti]; exact hk) hau (fun r hr => ⟨nf_after hL hx hi (.inr (hAn r hr)) (has r hr), fun e => by have := hAn r hr; omega⟩) (ans_same hans (hsame _ (by omega) fun hm => hnf.1 (mine_or hi hm))) (nf_fresh hL hx hi hsr2 (by omega) hnf hc) hwf2 ?_ (by rw [hti]; exact hA1') ?_
      · rintro r (h1 | rfl)
        · exact hFn r (hq2 r h1)
        · exact hFn _ (.inr (by omega))
      · intro w' A2 v' r1 r2 r3 r4 r5
        rw [hti] at r1 r2 r5
        have hti2 : ∀ t : Thr L, (upd (upd x i s' { x.th i with call := none }) i (upd x i s' { x.th i with call := none }).s t).th i = t := fun t => upd_self
        refine (ih _ w' A2 (by rw [hti2]; simp only; omega) r1 (by rw [hti2]) r4 (by omega) ?_ (by rw [hti2]; exact r5)).bind fun a u hs => .stop fun d => ?_
        · intro r hr
          rcases r2 r hr with h1 | h1 | h1
          · exact hq2 r h1
          · exact .inr (by have := hAn r h1; omega)
          · exact .inr (by omega)
        · obtain ⟨y, k1, k2, k3, k4, k5⟩ := hs d
          refine ⟨y, ?_, fun j hj => ?_, k3, k4, k5⟩
          · rw [hti2] at k1
            exact .imm ho hrel k1
          · rw [k2 j hj, upd_ne hj, upd_ne hj]
end Go.Proofs.Ytlcgkpapnpdfpaa
namespace Go.Proofs.Ytlcgkpapnpdfpaa
open Go Go.Conc Go.RowKit Go.Proofs
variable {F : Fz} {w w' w0 : World} {L : Lay} {p : Par} {g : Gate} {x y x0 : OX L} {i : Nat}
theorem plain_dg (A : Array Value) : Plain (dgFr A) := ⟨rfl, rfl, ⟨_, Try.func99⟩⟩
theorem own_stp (hL : L.Ok) (hP : p.Ok L) (hi : i < p.n) (h : OU L p g x w) {c0 : L.C} {A : Array Value} {ab : Nat} (hc : (x.th i).call = some (c0, A, ab)) (hwf : Wf F w) (hF : ∀ r, OR L p x r → F r = none) (c : Frame) (cs : List Frame) :
    Own Try.prog false F (AdvTo L p g i x w (fun y => Stp L p i (x.s, x.th i) (y.s, y.th i)) x (c :: cs)) (back (.tuple #[]) (L.cf (g.st i) c0 ++ dgFr A :: c :: cs)) w := by
  obtain ⟨hA, hans, hcu0, k4, k5, k6, k7, hk⟩ := (h.thr i hi).call c0 A ab hc
  have hT : TR (x.th i) ab := .inr (.inr ⟨c0, A, ab, hc, .inl rfl⟩)
  have hablt : ab < w.heap.size := (h.thr i hi).low hL hT
  have hdis : ∀ q, L.CR c0 q → ¬ L.SR x.s q := fun q hq => (h.ts i hi q (.inr (.inr ⟨c0, A, ab, hc, .inr hq⟩))).1
  have hMF : ∀ r, (L.SR x.s r ∨ L.CR c0 r) → F r = none := fun r hr => hF r (hr.elim .inl fun hr => .inr (.inr ⟨i, hi, .inr (.inr ⟨c0, A, ab, hc, .inr hr⟩)⟩))
  have key := own_gd (hL.stp x.s c0 (g.st i) (FU F (fun r => L.SR x.s r ∨ L.CR c0 r) w) w (dgFr A) (c :: cs) (h.jj i hi c0 A ab hc) h.su hcu0 hdis fu_wf fun r hr => fu_mine hr)
  refine (own_weaken (fun a ha => fu_held hwf hMF ha) key).bind fun a u hs => ?_
  obtain ⟨hgd, s', res, hrel, hsu, hsr, hres⟩ := hs u.drawn
  have hgd : Gd (FU F (fun r => L.SR x.s r ∨ L.CR c0 r) w) w u := hgd
  have hsu : L.SU s' u := hsu
  have hus : w.heap.size ≤ u.heap.size := hgd.size
  have hCM : ∀ q, L.CR c0 q → MineC L x i q := fun q hq => .inr ⟨c0, A, ab, hc, hq⟩
  have hsame : ∀ r, r < w.heap.size → ¬ MineC L x i r → u.heap[r]? = w.heap[r]? := fun r hr hm => fu_same hgd (fun hh => hm (hh.elim .inl (hCM r))) hr
  have hsr2 : ∀ q, L.SR s' q → MineC L x i q ∨ w.heap.size ≤ q := by
    intro q hq
    rcases hsr q hq with h1 | h1 | h1
    · exact .inl (.inl h1)
    · exact .inl (hCM q h1)
    · exact .inr h1
  have hwf2 : Wf F u := by
    constructor
    intro r z hz
    obtain ⟨c, e, z0, h1, h2⟩ := hwf.own r z hz
    refine ⟨c, e, z0, (fu_same hgd (fun hh => ?_) (Array.getElem?_eq_some_iff.1 h1).1).trans h1, h2⟩
    rw [hMF r hh] at hz
    cases hz
  cases res with
  | inl c1 =>
    obtain ⟨hjj, hcu, hcr, hcs, rfl⟩ := hres
    have hcu : L.CU c1 u := hcu
    obtain ⟨q1, q2⟩ := ou_next hL h hi hus hsame hsu hsr2 (call' := some (c1, A, ab)) (fun _ c2 h2 => hL.js _ _ _ _ _ _ h2 hrel) (by
      intro c A1 ab1 e
      cases e
      exact ⟨hjj, hA, hcu, fun q hq => (hcr q hq).elim (fun h1 => .inl (hCM q h1)) .inr, hcs, hk, .inl ⟨c0, A, hc⟩⟩)
    refine .stop fun d => ⟨_, ?_, fun j hj => upd_ne hj, q1.at hL d, fun r hr => ?_, .inl ⟨?_, ?_⟩⟩
    · show Stp L p i (x.s, x.th i) (s', (upd x i s' { x.th i with call := some (c1, A, ab) }).th i)
      rw [upd_self]
      exact .live hc hrel
    · rcases q2 r hr with h1 | h1 | ⟨c2, A2, h1⟩
      · exact .inl h1
      · exact .inr h1
      · cases h1
        exact .inl (.inr (.inr ⟨i, hi, hT⟩))
    · show ((upd x i s' { x.th i with call := some (c1, A, ab) }).th i).call.isSome = true
      rw [upd_self]
      rfl
    · simp only [opsUsers, upd_self, List.append_assoc, List.cons_append, List.nil_append]
  | inr an =>
    obtain ⟨hau, har, has, rfl⟩ := hres
    have hau : L.AU an u := hau
    obtain ⟨q1, q2⟩ := ou_next hL h hi hus hsame hsu hsr2 (call' := none) (fun _ c2 h2 => hL.js _ _ _ _ _ _ h2 hrel) (by intro c A ab e; cases e)
    have hFn : ∀ r, OR L p x r ∨ w.heap.size ≤ r → F r = none := fun r h => h.elim (hF r) (wf_none hwf)
    have hq2 : ∀ r, OR L p (upd x i s' { x.th i with call := none }) r → OR L p x r ∨ w.heap.size ≤ r := by
      intro r hr
      rcases q2 r hr with h1 | h1 | ⟨c2, A2, h1⟩
      · exact .inl h1
      · exact .inr h1
      · cases h1
    have hti : (upd x i s' { x.th i with call := none }).th i = { x.th i with call := none } := upd_self
    have hOA : ∀ q, L.AR an q → OR L p x q ∨ w.heap.size ≤ q := fun q hq => (har q hq).elim (fun h1 => .inl (mine_or hi (hCM q h1))) .inr
    refine own_note hL hP hi (ab := ab) q1 (by rw [hti]) (by rw [hti]; exact hk) hau (fun r hr => ⟨nf_after hL h hi ((har r hr).elim (fun h1 => .inl ⟨c0, A, ab, hc, h1⟩) .inr) (has r hr), ?_⟩) (ans_same hans (hsame _ hablt (h.abM hi hc))) (nf_ab hL h hi hsr2 hc) hwf2 ?_ (by rw [hti]; exact hA) ?_
    · rintro rfl
      rcases har _ hr with h1 | h1
      · exact k4 h1
      · omega
    · rintro r (h1 | rfl)
      · exact hFn r (hq2 r h1)
      · exact hFn _ (.inl (.inr (.inr ⟨i, hi, hT⟩)))
    · intro w' A2 v' r1 r2 r3 r4 r5
      rw [hti] at r1 r2 r5
      have hti2 : ∀ t : Thr L, (upd (upd x i s' { x.th i with call := none }) i (upd x i s' { x.th i with call := none }).s t).th i = t := fun t => upd_self
      refine (own_adv hL hP hi hF hwf c cs _ _ w' A2 rfl r1 (by rw [hti2]) r4 (by omega) ?_ (by rw [hti2]; exact r5)).bind fun a u hs => .stop fun d => ?_
      · intro r hr
        rcases r2 r hr with h1 | h1 | h1
        · exact hq2 r h1
        · exact hOA r h1
        · exact .inr (by omega)
      · obtain ⟨y, k1, k2, k3, k4, k5⟩ := hs d
        refine ⟨y, ?_, fun j hj => ?_, k3, k4, k5⟩
        · rw [hti2] at k1
          exact .ans hc hrel k1
        · rw [k2 j hj, upd_ne hj, upd_ne hj]
theorem ops_ok (hL : L.Ok) (hP : p.Ok L) (hn : g.n = p.n) : (opsUsers L p g).Ok g where
  call := callable99
  plain := by
    intro x i hl
    have hl : (x.th i).call.isSome = true := hl
    obtain ⟨⟨c0, A, ab⟩, hc⟩ := Option.isSome_iff_exists.1 hl
    have e : (opsUsers L p g).fr x i = L.cf (g.st i) c0 ++ [dgFr A] := by simp only [opsUsers, hc]
    rw [e]
    refine ⟨by simp, fun u hu => ?_⟩
    rcases List.mem_append.1 hu with hu | hu
    · exact (hL.plain _ _).2 u hu
    · rw [List.mem_singleton] at hu
      subst hu
      exact plain_dg A
  stable := fun x w w' h hsz hs => OU.stable hL h hsz hs
  fix := fun x w r o h hr => ⟨OU.fix h r o hr, hP.cells r o hr⟩
  low := fun x w r h hr => OU.low hL h hr
  stpO := by
    intro x i y j h hj
    have e := h.2 j hj
    exact ⟨by simp only [opsUsers, e], by simp only [opsUsers, e]⟩
  borO := by
    intro x i y j h hj
    have e := h.2 j hj
    exact ⟨by simp only [opsUsers, e], by simp only [opsUsers, e]⟩
  nwO := by
    intro x i y j h hj hnw
    have e := h.2 j hj
    simp only [opsUsers, e] at hnw ⊢
    exact hnw
  go := by
    intro x i hi hl F w c cs h hwf hF
    have hl : (x.th i).call.isSome = true := hl
    obtain ⟨⟨c0, A, ab⟩, hc⟩ := Option.isSome_iff_exists.1 hl
    have e : (opsUsers L p g).fr x i ++ c :: cs = L.cf (g.st i) c0 ++ dgFr A :: c :: cs := by simp only [opsUsers, hc, List.append_assoc, List.cons_append, List.nil_append]
    rw [e]
    refine (own_stp hL hP (by omega) h hc hwf hF c cs).bind fun a u hs => .stop fun d => ?_
    obtain ⟨y, k1, k2, k3, k4, k5⟩ := hs d
    exact ⟨y, ⟨k1, k2⟩, k3, k4, k5⟩
  born := by
    intro x i hi hnw F w c cs h hwf hF
    have h : OU L p g x w := h
    have hob := hP.ob w h.fix i (by omega)
    have hF : ∀ r, OR L p x r → F r = none := hF
    refine dg_0 (sv := stepperV (g.st i)) (ob := p.ob i) (db := p.db) (ib := p.ib i) (av := p.av) hob.c hob.z fun A hA => ?_
    refine (own_adv hL hP (by omega) hF hwf c cs _ x w A rfl h hnw.1 hwf (Nat.le_refl _) (fun r hr => .inl hr) (by rw [hnw.2]; exact hA)).bind fun a u hs => .stop fun d => ?_
    obtain ⟨y, k1, k2, k3, k4, k5⟩ := hs d
    exact ⟨y, ⟨k1, k2⟩, k3, k4, k5⟩
end Go.Proofs.Ytlcgkpapnpdfpaa
namespace Go.Proofs.Ytlcgkpapnpdfpaa
open Go Go.Conc Go.RowKit Go.Proofs
structure Pl where
  S : Type
  C : Type
  A : Type
  beg : S → Op4 → S × (C ⊕ A)
  stp : S → C → S × (C ⊕ A)
variable {m : Pl}
structure GT (m : Pl) where
  k : Nat
  call : Option m.C
  ans : List m.A
def advG (m : Pl) : List Op4 → m.S → GT m → m.S × GT m
  | [], q, t => (q, t)
  | o :: l, q, t => match m.beg q o with
    | (q', .inl c) => (q', { t with call := some c })
    | (q', .inr a) => advG m l q' ⟨t.k + 1, none, t.ans ++ [a]⟩
def stpG (m : Pl) (ops : List Op4) (q : m.S) (t : GT m) : m.S × GT m := match t.call with
  | none => (q, t)
  | some c => match m.stp q c with
    | (q', .inl c') => (q', { t with call := some c' })
    | (q', .inr a) => advG m (ops.drop (t.k + 1)) q' ⟨t.k + 1, none, t.ans ++ [a]⟩
structure GS (m : Pl) where
  q : m.S
  th : Nat → GT m
def GS.put (s : GS m) (i : Nat) (r : m.S × GT m) : GS m := ⟨r.1, fun j => if j = i then r.2 else s.th j⟩
def GS.live (s : GS m) (j : Nat) : Bool := (s.th j).call.isSome
def gBorns (m : Pl) (ops : Nat → List Op4) : Nat → GS m → GS m
  | 0, s => s
  | i + 1, s => let y := gBorns m ops i s; y.put i (advG m (ops i) y.q (y.th i))
def gTurn (ops : Nat → List Op4) (n M : Nat) (s : GS m × List Nat) (i : Int) : GS m × List Nat :=
  if 0 ≤ i ∧ i < n ∧ s.1.live i.toNat = true ∧ s.2.length ≠ M then (s.1.put i.toNat (stpG m (ops i.toNat) s.1.q (s.1.th i.toNat)), s.2 ++ [i.toNat]) else s
def gTurns (ops : Nat → List Op4) (n M : Nat) : List Int → GS m × List Nat → GS m × List Nat
  | [], s => s
  | i :: l, s => gTurns ops n M l (gTurn ops n M s i)
def gDone (n M : Nat) (s : GS m × List Nat) : Prop := cnt s.1.live n = 0 ∨ M ≤ s.2.length
instance (n M : Nat) (s : GS m × List Nat) : Decidable (gDone n M s) := by unfold gDone; infer_instance
def gRounds (ops : Nat → List Op4) (n M : Nat) : Nat → GS m × List Nat → GS m × List Nat
  | 0, s => s
  | f + 1, s => if gDone n M s then s else gRounds ops n M f (gTurns ops n M ((List.range n).map fun j : Nat => (j : Int)) s)
theorem gRounds_done {ops : Nat → List Op4} {n M : Nat} {s : GS m × List Nat} (h : gDone n M s) (f : Nat) : gRounds ops n M f s = s := by
  cases f with
  | zero => rfl
  | succ f => exact if_pos h
def gOver (ops : Nat → List Op4) (n M : Nat) (S : List Int) (f : Nat) (s : GS m) : GS m × List Nat := gRounds ops n M f (gTurns ops n M S (gBorns m ops n s, []))
structure Abs (L : Lay) (m : Pl) where
  s : L.S → m.S
  c : L.C → m.C
  a : L.A → m.A
def Abs.r {L : Lay} (ab : Abs L m) : L.C ⊕ L.A → m.C ⊕ m.A
  | .inl c => .inl (ab.c c)
  | .inr a => .inr (ab.a a)
structure Abs.Ok {L : Lay} (ab : Abs L m) : Prop where
  beg : ∀ s i o y, L.beg s i o y → (ab.s y.1, ab.r y.2) = m.beg (ab.s s) o
  stp : ∀ s c y, L.stp s c y → (ab.s y.1, ab.r y.2) = m.stp (ab.s s) (ab.c c)
variable {L : Lay} {ab : Abs L m} {p : Par} {g : Gate}
def Abs.t (ab : Abs L m) (t : Thr L) : GT m := ⟨t.k, t.call.map fun c => ab.c c.1, t.ans.map ab.a⟩
def Abs.x (ab : Abs L m) (x : OX L) : GS m := ⟨ab.s x.s, fun j => ab.t (x.th j)⟩
theorem advG_abs (ok : ab.Ok) {i : Nat} {a b : L.S × Thr L} (h : Adv L p i a b) : a.2.call = none → (ab.s b.1, ab.t b.2) = advG m ((p.ops i).drop a.2.k) (ab.s a.1) (ab.t a.2) := by
  induction h with
  | done h1 h2 =>
    intro _
    rw [h2, List.drop_length]
    rfl
  | @live s s' t o c A a2 ho hb =>
    intro hc
    obtain ⟨hlt, e⟩ := List.getElem?_eq_some_iff.1 ho
    have hb2 := ok.beg _ _ _ _ hb
    show _ = advG m ((p.ops i).drop t.k) (ab.s s) (ab.t t)
    rw [List.drop_eq_getElem_cons hlt, e]
    simp only [advG]
    rw [← hb2]
    rfl
  | @imm s s' t o an row y ho hb _ ih =>
    intro hc
    obtain ⟨hlt, e⟩ := List.getElem?_eq_some_iff.1 ho
    have hb2 := ok.beg _ _ _ _ hb
    have ih := ih rfl
    show _ = advG m ((p.ops i).drop t.k) (ab.s s) (ab.t t)
    rw [List.drop_eq_getElem_cons hlt, e]
    simp only [advG]
    rw [← hb2]
    simp only [Abs.r]
    rw [ih]
    simp [Abs.t]
theorem stpG_abs (ok : ab.Ok) {i : Nat} {a b : L.S × Thr L} (h : Stp L p i a b) : (ab.s b.1, ab.t b.2) = stpG m (p.ops i) (ab.s a.1) (ab.t a.2) := by
  cases h with
  | @live s s' t c c' A a2 hc hb =>
    have hb2 := ok.stp _ _ _ hb
    have e : (ab.t t).call = some (ab.c c) := by simp [Abs.t, hc]
    show _ = stpG m (p.ops i) (ab.s s) (ab.t t)
    simp only [stpG, e]
    rw [← hb2]
    rfl
  | @ans s s' t c A a2 an row y hc hb ha =>
    have hb2 := ok.stp _ _ _ hb
    have e : (ab.t t).call = some (ab.c c) := by simp [Abs.t, hc]
    have ih := advG_abs ok ha rfl
    show _ = stpG m (p.ops i) (ab.s s) (ab.t t)
    simp only [stpG, e]
    rw [← hb2]
    simp only [Abs.r]
    rw [ih]
    simp [Abs.t]
noncomputable abbrev LUs (L : Lay) (p : Par) (g : Gate) : Users := opsUsers L p g
theorem putG_abs {x y : OX L} {i : Nat} {r : m.S × GT m} (hr : (ab.s y.s, ab.t (y.th i)) = r) (h : ∀ j, j ≠ i → y.th j = x.th j) : ab.x y = (ab.x x).put i r := by
  subst hr
  simp only [Abs.x, GS.put, GS.mk.injEq, true_and]
  funext j
  by_cases e : j = i
  · rw [if_pos e, e]
  · rw [if_neg e, h j e]
theorem livG_abs (x : OX L) (j : Nat) : (LUs L p g).liv x j = (ab.x x).live j := by
  show (x.th j).call.isSome = ((x.th j).call.map _).isSome
  rw [Option.isSome_map]
theorem bornG_abs (ok : ab.Ok) {x y : OX L} {i : Nat} (hn : (LUs L p g).nw x i) (h : (LUs L p g).bor x i y) : ab.x y = (ab.x x).put i (advG m (p.ops i) (ab.x x).q ((ab.x x).th i)) := by
  refine putG_abs ?_ h.2
  have h1 := advG_abs ok h.1 hn.1
  have h2 : (x.th i).k = 0 := hn.2
  rw [show (x.s, x.th i).2.k = 0 from h2, List.drop_zero] at h1
  exact h1
theorem bornsG_abs (ok : ab.Ok) (zok : (LUs L p g).Ok g) : ∀ (i : Nat) (x y : OX L), (∀ j, j < i → (LUs L p g).nw x j) → Borns (LUs L p g) i x y → ab.x y = gBorns m p.ops i (ab.x x)
  | 0, x, y, _, h => by
    have h : y = x := h
    rw [h]; rfl
  | i + 1, x, z, hn, ⟨y, h1, h2⟩ => by
    have e := bornsG_abs ok zok i x y (fun j hj => hn j (by omega)) h1
    have hny : (LUs L p g).nw y i := borns_nw zok i x y h1 i (Nat.le_refl i) (hn i (by omega))
    simp only [gBorns]
    rw [← e]
    exact bornG_abs ok hny h2
theorem turnG_abs (ok : ab.Ok) {n M : Nat} {s t : OX L × List Nat} {i : Int} (h : Turn (LUs L p g) n M s i t) : (ab.x t.1, t.2) = gTurn p.ops n M (ab.x s.1, s.2) i := by
  unfold Turn at h
  unfold gTurn
  simp only [← livG_abs (ab := ab) (p := p) (g := g)]
  split at h
  · rename_i hc
    rw [if_pos hc]
    obtain ⟨h1, h2⟩ := h
    refine Prod.ext ?_ h2
    exact putG_abs (stpG_abs ok h1.1) h1.2
  · rename_i hc
    rw [if_neg hc, h]
theorem turnsG_abs (ok : ab.Ok) {n M : Nat} : ∀ (l : List Int) (s t : OX L × List Nat), Turns (LUs L p g) n M l s t → (ab.x t.1, t.2) = gTurns p.ops n M l (ab.x s.1, s.2)
  | [], s, t, h => by
    have h : t = s := h
    rw [h]; rfl
  | i :: l, s, t, ⟨u, h1, h2⟩ => by
    simp only [gTurns]
    rw [← turnG_abs ok h1]
    exact turnsG_abs ok l u t h2
theorem roundsG_gen {Z : Users} {ops : Nat → List Op4} {n M : Nat} (ab : Z.X → GS m) (hl : ∀ x j, Z.liv x j = (ab x).live j) (ht : ∀ l s t, Turns Z n M l s t → (ab t.1, t.2) = gTurns ops n M l (ab s.1, s.2)) {s t : Z.X × List Nat} (h : Rounds Z n M s t) : gDone n M (ab t.1, t.2) ∧ ∃ k, ∀ f, k ≤ f → gRounds ops n M f (ab s.1, s.2) = (ab t.1, t.2) := by
  have hc : ∀ x, cnt (Z.liv x) n = cnt (ab x).live n := fun x => cnt_congr fun j _ => hl x j
  induction h with
  | done h =>
    rw [hc] at h
    have h : gDone n M (ab _, _) := h
    exact ⟨h, 0, fun f _ => gRounds_done h f⟩
  | more h1 h2 h3 _ ih =>
    obtain ⟨hd, k, hk⟩ := ih
    refine ⟨hd, k + 1, fun f hf => ?_⟩
    obtain ⟨f, rfl⟩ : ∃ e, f = e + 1 := ⟨f - 1, by omega⟩
    rw [hc] at h1
    simp only [gRounds]
    rw [if_neg (fun h => h.elim (fun h => by simp only at h; omega) fun h => by simp only at h; omega), ← ht _ _ _ h3]
    exact hk f (by omega)
theorem roundsG_abs (ok : ab.Ok) {n M : Nat} {s t : OX L × List Nat} (h : Rounds (LUs L p g) n M s t) : gDone n M (ab.x t.1, t.2) ∧ ∃ k, ∀ f, k ≤ f → gRounds p.ops n M f (ab.x s.1, s.2) = (ab.x t.1, t.2) :=
  roundsG_gen (Z := LUs L p g) ab.x livG_abs (turnsG_abs ok) h
theorem overG_abs (ok : ab.Ok) (zok : (LUs L p g).Ok g) {n M : Nat} {S : List Int} {x0 : OX L} (hnw : ∀ j, j < n → (LUs L p g).nw x0 j) {t : OX L × List Nat} (h : OverRel (LUs L p g) n M S x0 t) : gDone n M (ab.x t.1, t.2) ∧ ∃ k, ∀ f, k ≤ f → gOver p.ops n M S f (ab.x x0) = (ab.x t.1, t.2) := by
  obtain ⟨x1, h1, s, h2, h3⟩ := h
  obtain ⟨hd, k, hk⟩ := roundsG_abs ok h3
  refine ⟨hd, k, fun f hf => ?_⟩
  rw [← hk f hf, turnsG_abs ok _ _ _ h2, bornsG_abs ok zok n x0 x1 hnw h1]
  rfl
end Go.Proofs.Ytlcgkpapnpdfpaa
namespace Go.Proofs.Ytlcgkpapnpdfpaa
open Go Go.Conc Go.RowKit Go.Proofs
variable {F : Fz} {w : World}
theorem wraps63 (n : Int) (h₀ : 0 ≤ n) (h₁ : n < 2 ^ 63) : IntKind.u64.wrap n = n := by rw [IntKind.wrap_u64]; omega
theorem pk_mask {n t : Int} (h1 : 0 ≤ n) (h2 : n < 100000) (h3 : 0 ≤ t) (h4 : t < 2147483648) : bits .and .u64 (n * 4294967296 + t) 2147483647 = t := by
  have h := bits_mask .u64 63 (by decide) wraps63 31 (by decide) (n * 4294967296 + t) (by omega) (by omega)
  have e : ((2 : Int) ^ 31 - 1) = 2147483647 := by decide
  have e2 : ((2 : Int) ^ 31) = 2147483648 := by decide
  rw [e, e2] at h
  rw [h]
  omega
theorem pk_or {n t : Int} (h1 : 0 ≤ n) (h2 : n < 100000) (h3 : 0 ≤ t) (h4 : t < 2147483648) : bits .or .u64 (n * 4294967296) t = n * 4294967296 + t := by
  obtain ⟨a, rfl⟩ : ∃ a : Nat, n = (a : Int) := ⟨n.toNat, by omega⟩
  obtain ⟨b, rfl⟩ : ∃ b : Nat, t = (b : Int) := ⟨t.toNat, by omega⟩
  have h := (bits_nat .u64 63 (by decide) wraps63 (a * 4294967296) b (by omega) (by omega)).2
  have e : (a * 4294967296 ||| b : Nat) = a * 4294967296 + b := by
    have := Nat.two_pow_add_eq_or_of_lt (b := b) (i := 32) (by omega) a
    rw [show (2 : Nat) ^ 32 = 4294967296 by decide] at this
    rw [Nat.mul_comm, ← this]
  rw [e] at h
  simpa using h
def pk (h : Int × Int) : Int := (h.1 + 1) * 4294967296 + h.2
noncomputable def kofBody : Code := Try.f77.body.getD .skip
noncomputable def kofs0 : Code := Code.piece [] kofBody
noncomputable def kofr0 : Code := Code.piece [true] kofBody
noncomputable def kofo0 : Array Oper := Code.opsOf kofr0
noncomputable def kofs1 : Code := Code.piece [false] kofBody
noncomputable def kofr1 : Code := Code.piece [false, true] kofBody
noncomputable def kofo1 : Array Oper := Code.opsOf kofr1
theorem kofs0_eq : kofs0 = .seq kofr0 kofs1 := by kernel_rfl
theorem kofr0_eq : kofr0 = .region 0 kofo0 false := by kernel_rfl
theorem kofs1_eq : kofs1 = .seq kofr1 .ret := by kernel_rfl
theorem kofr1_eq : kofr1 = .region 1 kofo1 false := by kernel_rfl
theorem enter_kof (args : Array Value) : Frame.enter Try.prog 77 args .normal = (Go.Conc.base 77).at { tmps := args ++ Array.replicate (7 - args.size) undef, defers := [] } [.code kofs0] := enter_at args Try.func77 rfl
theorem callable77 : Callable 77 := callable Try.func77 rfl rfl
def kofT (s : Nat → Value) : Array Value := #[s 0, s 1, s 2, s 3, s 4, s 5, s 6]
theorem kofT_of {A : Array Value} (h : A.size = 7) : ∃ s, A = kofT s := by
  obtain ⟨s, hs, _⟩ := arr_lit A h
  exact ⟨s, hs⟩
noncomputable def kpkBody : Code := Try.f75.body.getD .skip
noncomputable def kpks0 : Code := Code.piece [] kpkBody
noncomputable def kpkr0 : Code := Code.piece [true] kpkBody
noncomputable def kpko0 : Array Oper := Code.opsOf kpkr0
noncomputable def kpks1 : Code := Code.piece [false] kpkBody
noncomputable def kpkr1 : Code := Code.piece [false, true] kpkBody
noncomputable def kpko1 : Array Oper := Code.opsOf kpkr1
theorem kpks0_eq : kpks0 = .seq kpkr0 kpks1 := by kernel_rfl
theorem kpkr0_eq : kpkr0 = .region 0 kpko0 false := by kernel_rfl
theorem kpks1_eq : kpks1 = .seq kpkr1 .ret := by kernel_rfl
theorem kpkr1_eq : kpkr1 = .region 1 kpko1 false := by kernel_rfl
theorem enter_kpk (args : Array Value) : Frame.enter Try.prog 75 args .normal = (Go.Conc.base 75).at { tmps := args ++ Array.replicate (11 - args.size) undef, defers := [] } [.code kpks0] := enter_at args Try.func75 rfl
theorem callable75 : Callable 75 := callable Try.func75 rfl rfl
def kpkT (s : Nat → Value) : Array Value := #[s 0, s 1, s 2, s 3, s 4, s 5, s 6, s 7, s 8, s 9, s 10]
theorem kpkT_of {A : Array Value} (h : A.size = 11) : ∃ s, A = kpkT s := by
  obtain ⟨s, hs, _⟩ := arr_lit A h
  exact ⟨s, hs⟩
noncomputable def kttBody : Code := Try.f98.body.getD .skip
noncomputable def ktts0 : Code := Code.piece [] kttBody
noncomputable def kttr0 : Code := Code.piece [true] kttBody
noncomputable def ktto0 : Array Oper := Code.opsOf kttr0
noncomputable def ktts1 : Code := Code.piece [false] kttBody
noncomputable def kttr1 : Code := Code.piece [false, true] kttBody
noncomputable def ktto1 : Array Oper := Code.opsOf kttr1
noncomputable def ktts2 : Code := Code.piece [false, false] kttBody
noncomputable def ktts3 : Code := Code.piece [false, false, true] kttBody
noncomputable def kttr2 : Code := Code.piece [false, false, true, true] kttBody
noncomputable def ktto2 : Array Oper := Code.opsOf kttr2
noncomputable def kttc13 : Code := Code.piece [false, false, true, false] kttBody
noncomputable def kttr3 : Code := Code.piece [false, false, true, false, true] kttBody
noncomputable def ktto3 : Array Oper := Code.opsOf kttr3
noncomputable def ktts4 : Code := Code.piece [false, false, false] kttBody
noncomputable def kttr4 : Code := Code.piece [false, false, false, true] kttBody
noncomputable def ktto4 : Array Oper := Code.opsOf kttr4
theorem ktts0_eq : ktts0 = .seq kttr0 ktts1 := by kernel_rfl
theorem kttr0_eq : kttr0 = .region 0 ktto0 false := by kernel_rfl
theorem ktts1_eq : ktts1 = .seq kttr1 ktts2 := by kernel_rfl
theorem kttr1_eq : kttr1 = .region 1 ktto1 false := by kernel_rfl
theorem ktts2_eq : ktts2 = .seq ktts3 ktts4 := by kernel_rfl
theorem ktts3_eq : ktts3 = .seq kttr2 kttc13 := by kernel_rfl
theorem kttr2_eq : kttr2 = .region 2 ktto2 false := by kernel_rfl
theorem kttc13_eq : kttc13 = .cond (.tmp 13) kttr3 .skip := by kernel_rfl
theorem kttr3_eq : kttr3 = .region 3 ktto3 false := by kernel_rfl
theorem ktts4_eq : ktts4 = .seq kttr4 .ret := by kernel_rfl
theorem kttr4_eq : kttr4 = .region 4 ktto4 false := by kernel_rfl
theorem enter_ktt (args : Array Value) : Frame.enter Try.prog 98 args .normal = (Go.Conc.base 98).at { tmps := args ++ Array.replicate (24 - args.size) undef, defers := [] } [.code ktts0] := enter_at args Try.func98 rfl
theorem callable98 : Callable 98 := callable Try.func98 rfl rfl
def kttT (s : Nat → Value) : Array Value := #[s 0, s 1, s 2, s 3, s 4, s 5, s 6, s 7, s 8, s 9, s 10, s 11, s 12, s 13, s 14, s 15, s 16, s 17, s 18, s 19, s 20, s 21, s 22, s 23]
theorem kttT_of {A : Array Value} (h : A.size = 24) : ∃ s, A = kttT s := by
  obtain ⟨s, hs, _⟩ := arr_lit A h
  exact ⟨s, hs⟩
set_option maxRecDepth 100000 in
theorem own_of {n t : Int} (hn : -1 ≤ n ∧ n < 65536) (ht : 0 ≤ t ∧ t < 2147483648) {c : Frame} {cs : List Frame} {main : Bool} {Stop : Goroutine → World → Prop} (h : Own Try.prog main F Stop (G (c.finish (.int .i64 n)) cs) w) :
    Own Try.prog main F Stop (G (Frame.enter Try.prog 77 #[.int .u64 (pk (n, t))] .normal) (c :: cs)) w := by
  have e1 : pk (n, t) / 4294967296 = n + 1 := by unfold pk; simp only; omega
  have e2 : IntKind.i64.wrap (n + 1) = n + 1 := IntWalk.i64_in _ (by omega)
  have e3 : IntKind.i64.wrap n = n := IntWalk.i64_in _ (by omega)
  rw [enter_kof]
  walk_nrm
  rw [kofs0_eq]
  refine ogS ?_
  rw [kofr0_eq]
  refine ogR ?_
  simp only [kofo0, Code.opsOf, kofr0, Code.piece, kofBody, Try.f77, Option.getD_some, List.size_toArray, List.length_cons, List.length_nil, Nat.reduceAdd, Nat.zero_add, List.range, List.range.loop]
  (refine oW fun dd K hK => ?_; go_simp; refine qT hK ?_; clear hK K)
  refine ogE ?_
  rw [kofs1_eq]
  refine ogS ?_
  rw [kofr1_eq]
  refine ogR ?_
  simp only [kofo1, Code.opsOf, kofr1, Code.piece, kofBody, Try.f77, Option.getD_some, List.size_toArray, List.length_cons, List.length_nil, Nat.reduceAdd, Nat.zero_add, List.range, List.range.loop]
  (refine oW fun dd K hK => ?_; go_simp; refine qT hK ?_; clear hK K)
  (refine oW fun dd K hK => ?_; go_simp; refine qT hK ?_; clear hK K)
  (refine oW fun dd K hK => ?_; go_simp; refine qT hK ?_; clear hK K)
  (refine oW fun dd K hK => ?_; go_simp; refine qT hK ?_; clear hK K)
  (refine oW fun dd K hK => ?_; go_simp; refine qT hK ?_; clear hK K)
  refine ogE ?_
  refine ogX ?_
  refine own_go rfl (fun d => stepG_leave (fn := Try.f77) (v := .int .i64 n) rfl rfl Try.func77 (by simp [results, Try.f77]) (by simp [results, Try.f77, go_sem])) ?_
  exact h
set_option maxRecDepth 100000 in
theorem own_packed {n t : Int} (hn : -1 ≤ n ∧ n < 65536) (ht : 0 ≤ t ∧ t < 2147483648) {c : Frame} {cs : List Frame} {main : Bool} {Stop : Goroutine → World → Prop} (h : Own Try.prog main F Stop (G (c.finish (.int .u64 (pk (n, t)))) cs) w) :
    Own Try.prog main F Stop (G (Frame.enter Try.prog 75 #[.int .i64 n, .int .u64 t] .normal) (c :: cs)) w := by
  have e1 : IntKind.i64.wrap (n + 1) = n + 1 := IntWalk.i64_in _ (by omega)
  have e2 : IntKind.u64.wrap (n + 1) = n + 1 := wraps63 _ (by omega) (by omega)
  have e3 : IntKind.u64.wrap ((n + 1) * 4294967296) = (n + 1) * 4294967296 := wraps63 _ (by omega) (by omega)
  have e4 : bits .or .u64 ((n + 1) * 4294967296) t = (n + 1) * 4294967296 + t := pk_or (by omega) (by omega) ht.1 ht.2
  rw [enter_kpk]
  walk_nrm
  rw [kpks0_eq]
  refine ogS ?_
  rw [kpkr0_eq]
  refine ogR ?_
  simp only [kpko0, Code.opsOf, kpkr0, Code.piece, kpkBody, Try.f75, Option.getD_some, List.size_toArray, List.length_cons, List.length_nil, Nat.reduceAdd, Nat.zero_add, List.range, List.range.loop]
  (refine oW fun dd K hK => ?_; go_simp; refine qT hK ?_; clear hK K)
  refine ogE ?_
  rw [kpks1_eq]
  refine ogS ?_
  rw [kpkr1_eq]
  refine ogR ?_
  simp only [kpko1, Code.opsOf, kpkr1, Code.piece, kpkBody, Try.f75, Option.getD_some, List.size_toArray, List.length_cons, List.length_nil, Nat.reduceAdd, Nat.zero_add, List.range, List.range.loop]
  (refine oW fun dd K hK => ?_; go_simp; refine qT hK ?_; clear hK K)
  (refine oW fun dd K hK => ?_; go_simp; refine qT hK ?_; clear hK K)
  (refine oW fun dd K hK => ?_; go_simp; refine qT hK ?_; clear hK K)
  (refine oW fun dd K hK => ?_; go_simp; refine qT hK ?_; clear hK K)
  (refine oW fun dd K hK => ?_; go_simp; refine qT hK ?_; clear hK K)
  (refine oW fun dd K hK => ?_; go_simp; refine qT hK ?_; clear hK K)
  (refine oW fun dd K hK => ?_; go_simp; refine qT hK ?_; clear hK K)
  refine ogE ?_
  refine ogX ?_
  refine own_go rfl (fun d => stepG_leave (fn := Try.f75) (v := .int .u64 ((n + 1) * 4294967296 + t)) rfl rfl Try.func75 (by simp [results, Try.f75]) (by simp [results, Try.f75, go_sem])) ?_
  exact h
set_option maxRecDepth 100000 in
theorem own_turn1 {kb : Nat} {ad : Addr} {n t to v : Int} {eq : Bool} (hv : (v == pk (n, t)) = eq) (hk : w.cell? ⟨kb, 3, none⟩ = some (.bool true)) (hn : -1 ≤ n ∧ n < 65536) (ht : 0 ≤ t ∧ t < 2147483648) (hto : -1 ≤ to ∧ to < 65536) (hc : w.cell? ad = some (.int .u64 v)) (hs : ad.spot = none) (hz : w.frozen? ad = false) (hnh : ¬ held F ad) {c : Frame} {cs : List Frame} {main : Bool} {Stop : Goroutine → World → Prop}
    (h : Own Try.prog main F Stop (G (c.finish (.bool eq)) cs) (if eq then w.setCell ad (.int .u64 (pk (to, (t + 1) % 2147483648))) else w)) :
    Own Try.prog main F Stop (G (Frame.enter Try.prog 98 #[.pointer (some ⟨kb, 0, none⟩), .pointer (some ad), .int .u64 (pk (n, t)), .int .i64 to] .normal) (c :: cs)) w := by
  have ht2 : (0 : Int) ≤ (t + 1) % 2147483648 ∧ (t + 1) % 2147483648 < (2147483648 : Int) := by omega
  have e1 : bits .and .u64 (pk (n, t)) 2147483647 = t := pk_mask (by omega) (by omega) ht.1 ht.2
  have e2 : IntKind.u64.wrap (t + 1) = t + 1 := wraps63 _ (by omega) (by omega)
  have e3 : IntKind.u64.wrap ((t + 1) % 2147483648) = (t + 1) % 2147483648 := wraps63 _ (by omega) (by omega)
  have e4 : Int.tmod (t + 1) 2147483648 = (t + 1) % 2147483648 := Int.tmod_eq_emod_of_nonneg (by omega)
  rw [enter_ktt]
  walk_nrm
  rw [ktts0_eq]
  refine ogS ?_
  rw [kttr0_eq]
  refine ogR ?_
  simp only [ktto0, Code.opsOf, kttr0, Code.piece, kttBody, Try.f98, Option.getD_some, List.size_toArray, List.length_cons, List.length_nil, Nat.reduceAdd, Nat.zero_add, List.range, List.range.loop]
  (refine oW fun dd K hK => ?_; go_simp; refine qT hK ?_; clear hK K)
  refine ogE ?_
  rw [ktts1_eq]
  refine ogS ?_
  rw [kttr1_eq]
  refine ogR ?_
  simp only [ktto1, Code.opsOf, kttr1, Code.piece, kttBody, Try.f98, Option.getD_some, List.size_toArray, List.length_cons, List.length_nil, Nat.reduceAdd, Nat.zero_add, List.range, List.range.loop]
  (refine oW fun dd K hK => ?_; go_simp; refine qT hK ?_; clear hK K)
  refine ogE ?_
  rw [ktts2_eq]
  refine ogS ?_
  rw [ktts3_eq]
  refine ogS ?_
  rw [kttr2_eq]
  refine ogR ?_
  simp only [ktto2, Code.opsOf, kttr2, Code.piece, kttBody, Try.f98, Option.getD_some, List.size_toArray, List.length_cons, List.length_nil, Nat.reduceAdd, Nat.zero_add, List.range, List.range.loop]
  (refine oW fun dd K hK => ?_; go_simp; refine qT hK ?_; clear hK K)
  (refine oW fun dd K hK => ?_; go_simp; refine qT hK ?_; clear hK K)
  (refine oW fun dd K hK => ?_; go_simp; refine qT hK ?_; clear hK K)
  (refine oW fun dd K hK => ?_; go_simp; refine qL hK ?_; clear hK K)
  refine ogE ?_
  rw [kttc13_eq]
  refine ogT ?_
  simp only [if_true]
  rw [kttr3_eq]
  refine ogR ?_
  simp only [ktto3, Code.opsOf, kttr3, Code.piece, kttBody, Try.f98, Option.getD_some, List.size_toArray, List.length_cons, List.length_nil, Nat.reduceAdd, Nat.zero_add, List.range, List.range.loop]
  (refine oW fun dd K hK => ?_; go_simp; refine qT hK ?_; clear hK K)
  (refine oW fun dd K hK => ?_; go_simp; refine qT hK ?_; clear hK K)
  (refine oW fun dd K hK => ?_; go_simp; refine qT hK ?_; clear hK K)
  (refine oW fun dd K hK => ?_; go_simp; refine qT hK ?_; clear hK K)
  (refine oW fun dd K hK => ?_; go_simp; refine qT hK ?_; clear hK K)
  refine ogE ?_
  rw [ktts4_eq]
  refine ogS ?_
  rw [kttr4_eq]
  refine ogR ?_
  simp only [ktto4, Code.opsOf, kttr4, Code.piece, kttBody, Try.f98, Option.getD_some, List.size_toArray, List.length_cons, List.length_nil, Nat.reduceAdd, Nat.zero_add, List.range, List.range.loop]
  (refine oW fun dd K hK => ?_; go_simp; refine qT hK ?_; clear hK K)
  (refine oW fun dd K hK => ?_; go_simp; refine qT hK ?_; clear hK K)
  (refine oW fun dd K hK => ?_; go_simp; refine qT hK ?_; clear hK K)
  (refine oW fun dd K hK => ?_; go_simp; refine qT hK ?_; clear hK K)
  refine oc callable75 #[.int .i64 to, .int .u64 ((t + 1) % 2147483648)] ?_
  refine own_packed hto ht2 ?_
  rw [Frame.finish_at]
  walk_nrm
  refine oc callable110 #[.pointer (some ad), .int .u64 (pk (n, t)), .int .u64 (pk (to, (t + 1) % 2147483648))] ?_
  refine own_casU hv hc hs hz hnh ?_
  rw [Frame.finish_at]
  walk_nrm
  (refine oW fun dd K hK => ?_; go_simp; refine qT hK ?_; clear hK K)
  refine ogE ?_
  refine ogX ?_
  refine own_go rfl (fun d => stepG_leave (fn := Try.f98) (v := .bool eq) rfl rfl Try.func98 (by simp [results, Try.f98]) (by simp [results, Try.f98, go_sem])) ?_
  exact h
set_option maxRecDepth 100000 in
theorem own_turn0 {kb : Nat} {ad : Addr} {n t to v : Int} {eq : Bool} (hv : (v == pk (n, t)) = eq) (hk : w.cell? ⟨kb, 3, none⟩ = some (.bool false)) (hn : -1 ≤ n ∧ n < 65536) (ht : 0 ≤ t ∧ t < 2147483648) (hto : -1 ≤ to ∧ to < 65536) (hc : w.cell? ad = some (.int .u64 v)) (hs : ad.spot = none) (hz : w.frozen? ad = false) (hnh : ¬ held F ad) {c : Frame} {cs : List Frame} {main : Bool} {Stop : Goroutine → World → Prop}
    (h : Own Try.prog main F Stop (G (c.finish (.bool eq)) cs) (if eq then w.setCell ad (.int .u64 (pk (to, 0))) else w)) :
    Own Try.prog main F Stop (G (Frame.enter Try.prog 98 #[.pointer (some ⟨kb, 0, none⟩), .pointer (some ad), .int .u64 (pk (n, t)), .int .i64 to] .normal) (c :: cs)) w := by
  have ht2 : (0 : Int) ≤ 0 ∧ 0 < (2147483648 : Int) := by omega
  rw [enter_ktt]
  walk_nrm
  rw [ktts0_eq]
  refine ogS ?_
  rw [kttr0_eq]
  refine ogR ?_
  simp only [ktto0, Code.opsOf, kttr0, Code.piece, kttBody, Try.f98, Option.getD_some, List.size_toArray, List.length_cons, List.length_nil, Nat.reduceAdd, Nat.zero_add, List.range, List.range.loop]
  (refine oW fun dd K hK => ?_; go_simp; refine qT hK ?_; clear hK K)
  refine ogE ?_
  rw [ktts1_eq]
  refine ogS ?_
  rw [kttr1_eq]
  refine ogR ?_
  simp only [ktto1, Code.opsOf, kttr1, Code.piece, kttBody, Try.f98, Option.getD_some, List.size_toArray, List.length_cons, List.length_nil, Nat.reduceAdd, Nat.zero_add, List.range, List.range.loop]
  (refine oW fun dd K hK => ?_; go_simp; refine qT hK ?_; clear hK K)
  refine ogE ?_
  rw [ktts2_eq]
  refine ogS ?_
  rw [ktts3_eq]
  refine ogS ?_
  rw [kttr2_eq]
  refine ogR ?_
  simp only [ktto2, Code.opsOf, kttr2, Code.piece, kttBody, Try.f98, Option.getD_some, List.size_toArray, List.length_cons, List.length_nil, Nat.reduceAdd, Nat.zero_add, List.range, List.range.loop]
  (refine oW fun dd K hK => ?_; go_simp; refine qT hK ?_; clear hK K)
  (refine oW fun dd K hK => ?_; go_simp; refine qT hK ?_; clear hK K)
  (refine oW fun dd K hK => ?_; go_simp; refine qT hK ?_; clear hK K)
  (refine oW fun dd K hK => ?_; go_simp; refine qL hK ?_; clear hK K)
  refine ogE ?_
  rw [kttc13_eq]
  refine ogF ?_
  simp only [Bool.false_eq_true, if_false]
  refine ogK ?_
  rw [ktts4_eq]
  refine ogS ?_
  rw [kttr4_eq]
  refine ogR ?_
  simp only [ktto4, Code.opsOf, kttr4, Code.piece, kttBody, Try.f98, Option.getD_some, List.size_toArray, List.length_cons, List.length_nil, Nat.reduceAdd, Nat.zero_add, List.range, List.range.loop]
  (refine oW fun dd K hK => ?_; go_simp; refine qT hK ?_; clear hK K)
  (refine oW fun dd K hK => ?_; go_simp; refine qT hK ?_; clear hK K)
  (refine oW fun dd K hK => ?_; go_simp; refine qT hK ?_; clear hK K)
  (refine oW fun dd K hK => ?_; go_simp; refine qT hK ?_; clear hK K)
  refine oc callable75 #[.int .i64 to, .int .u64 (0)] ?_
  refine own_packed hto ht2 ?_
  rw [Frame.finish_at]
  walk_nrm
  refine oc callable110 #[.pointer (some ad), .int .u64 (pk (n, t)), .int .u64 (pk (to, 0))] ?_
  refine own_casU hv hc hs hz hnh ?_
  rw [Frame.finish_at]
  walk_nrm
  (refine oW fun dd K hK => ?_; go_simp; refine qT hK ?_; clear hK K)
  refine ogE ?_
  refine ogX ?_
  refine own_go rfl (fun d => stepG_leave (fn := Try.f98) (v := .bool eq) rfl rfl Try.func98 (by simp [results, Try.f98]) (by simp [results, Try.f98, go_sem])) ?_
  exact h
end Go.Proofs.Ytlcgkpapnpdfpaa
namespace Go.Proofs.Ytlcgkpapnpdfpaa
open Go Go.Conc Go.RowKit Go.Proofs
structure KSt where
  nx : List Int
  vl : List Int
  hd : Int × Int
  fr : Int × Int
  tg : Bool
structure KCl where
  pc : Nat
  n0 : Int
  n1 : Int
  n2 : Int
  n3 : Int
  n4 : Int
  a : Int
abbrev KRs := KCl ⊕ (Bool × Int)
def KSt.turn (s : KSt) (h : Int × Int) (node tag to : Int) : Option (Int × Int) :=
  if h = (node, tag) then some (to, if s.tg = true then (tag + 1) % 2147483648 else 0) else none
def KSt.nxt (s : KSt) (i : Int) : Int := s.nx.getD i.toNat 0
def KSt.val (s : KSt) (i : Int) : Int := s.vl.getD i.toNat 0
def KSt.begin (s : KSt) (o : Op4) : KSt × KRs :=
  if o.kd = 1 then (s, .inl ⟨10, 0, 0, 0, 0, 0, o.a⟩)
  else if o.kd = 2 then (s, .inl ⟨20, 0, 0, 0, 0, 0, 0⟩)
  else if o.kd = 3 then (s, .inl ⟨30, 0, 0, 0, 0, 0, 0⟩)
  else if o.kd = 4 then (s, .inl ⟨40, 0, 0, 0, 0, 0, 0⟩)
  else (s, .inr (false, 0))
def KSt.step (s : KSt) (c : KCl) : KSt × KRs :=
  match c.pc with
  | 10 => if s.fr.1 < 0 then (s, .inr (false, 0)) else (s, .inl { c with n0 := s.fr.1, n1 := s.fr.2, pc := 11 })
  | 11 => (s, .inl { c with n2 := s.nxt c.n0, pc := 12 })
  | 12 => match s.turn s.fr c.n0 c.n1 c.n2 with
    | some f => ({ s with fr := f }, .inl { c with n4 := c.n0, pc := 13 })
    | none => (s, .inl { c with pc := 10 })
  | 13 => ({ s with vl := s.vl.set c.n4.toNat c.a }, .inl { c with pc := 14 })
  | 14 => (s, .inl { c with n0 := s.hd.1, n1 := s.hd.2, pc := 15 })
  | 15 => ({ s with nx := s.nx.set c.n4.toNat c.n0 }, .inl { c with pc := 16 })
  | 16 => match s.turn s.hd c.n0 c.n1 c.n4 with
    | some f => ({ s with hd := f }, .inr (true, 0))
    | none => (s, .inl { c with pc := 14 })
  | 20 => if s.hd.1 < 0 then (s, .inr (false, 0)) else (s, .inl { c with n0 := s.hd.1, n1 := s.hd.2, pc := 21 })
  | 21 => (s, .inl { c with n2 := s.nxt c.n0, pc := 22 })
  | 22 => match s.turn s.hd c.n0 c.n1 c.n2 with
    | some f => ({ s with hd := f }, .inl { c with n4 := c.n0, pc := 23 })
    | none => (s, .inl { c with pc := 20 })
  | 23 => (s, .inl { c with n3 := s.val c.n4, pc := 24 })
  | 24 => (s, .inl { c with n0 := s.fr.1, n1 := s.fr.2, pc := 25 })
  | 25 => ({ s with nx := s.nx.set c.n4.toNat c.n0 }, .inl { c with pc := 26 })
  | 26 => match s.turn s.fr c.n0 c.n1 c.n4 with
    | some f => ({ s with fr := f }, .inr (true, c.n3))
    | none => (s, .inl { c with pc := 24 })
  | 30 => if s.hd.1 < 0 then (s, .inr (false, 0)) else (s, .inl { c with n0 := s.hd.1, n1 := s.hd.2, pc := 31 })
  | 31 => (s, .inl { c with n3 := s.val c.n0, pc := 32 })
  | 32 => if s.hd = (c.n0, c.n1) then (s, .inr (true, c.n3)) else if s.hd.1 < 0 then (s, .inr (false, 0)) else (s, .inl { c with n0 := s.hd.1, n1 := s.hd.2, pc := 31 })
  | _ => (s, .inr (decide (s.hd.1 < 0), 0))
def KPl : Pl := ⟨KSt, KCl, Bool × Int, KSt.begin, KSt.step⟩
structure KWf (s : KSt) : Prop where
  n1 : s.nx.length = s.vl.length
  n2 : 0 < s.nx.length
  n3 : s.nx.length ≤ 65536
  nx : ∀ v, v ∈ s.nx → -1 ≤ v ∧ v < s.nx.length
  hd : -1 ≤ s.hd.1 ∧ s.hd.1 < s.nx.length ∧ 0 ≤ s.hd.2 ∧ s.hd.2 < 2147483648
  fr : -1 ≤ s.fr.1 ∧ s.fr.1 < s.nx.length ∧ 0 ≤ s.fr.2 ∧ s.fr.2 < 2147483648
  tg : s.tg = false → s.hd.2 = 0 ∧ s.fr.2 = 0
theorem pk_inj {a b : Int × Int} (ha : 0 ≤ a.2 ∧ a.2 < 2147483648) (hb : 0 ≤ b.2 ∧ b.2 < 2147483648) (h : pk a = pk b) : a = b := by
  obtain ⟨x, y⟩ := a
  obtain ⟨u, v⟩ := b
  unfold pk at h
  simp only at h ha hb
  have h1 : x = u := by omega
  have h2 : y = v := by omega
  rw [h1, h2]
end Go.Proofs.Ytlcgkpapnpdfpaa
