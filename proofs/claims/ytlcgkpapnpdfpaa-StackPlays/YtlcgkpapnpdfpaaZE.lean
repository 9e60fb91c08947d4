/-
  StackPlays (law 06), seat Ytlcgkpapnpdfpaa: the whole trace of any threads by any schedule, with tags and without
  Part 5 of 6.
-/
import Derived.Test.YtlcgkpapnpdfpaaZD
import Derived.Laws.AppendOwnNone
import Derived.ProofKit
import Derived.Conc.LeavingOf
set_option linter.unusedSimpArgs false
set_option linter.unusedVariables false
set_option linter.unusedSectionVars false
set_option maxRecDepth 100000
set_option maxHeartbeats 8000000
namespace Go.Proofs.Ytlcgkpapnpdfpaa
open Go Go.Conc Go.RowKit Go.Proofs
section
variable {F : Fz} {w : World}
theorem tr_newU (X : World) (x y z u x' y' z' u' : Value) : ((((X.alloc (.cells #[x, y, z, u] 31)).setCell ⟨X.heap.size, 0, none⟩ x').setCell ⟨X.heap.size, 1, none⟩ y').setCell ⟨X.heap.size, 2, none⟩ z').setCell ⟨X.heap.size, 3, none⟩ u' = X.alloc (.cells #[x', y', z', u'] 31) := by go_simp
theorem tu_1 {n : Nat} (hU : Under F n) (hn : n ≤ w.heap.size) {aa oa xa : Option Addr} {al ac ol oz xl xc : Nat} {st : Bool} {A : Array Value} (hA : Slots 76 A [(2, .int .i64 6), (3, .bool true), (4, .int .i64 0), (5, .int .i64 3), (6, .int .i64 1), (7, .int .i64 3)]) {cs : List Frame} {main : Bool} {Stop : Goroutine → World → Prop}
 (h : ∀ A, Slots 76 A [(2, .int .i64 6), (3, .bool true), (4, .int .i64 0), (5, .int .i64 3), (6, .int .i64 1), (7, .int .i64 3), (8, .pointer (some ⟨w.heap.size, 0, none⟩))] → Own Try.prog main F Stop (G ((Go.Conc.base 30).at ⟨A, []⟩ [.code ktur7, .code .ret]) cs) (w.alloc (.cells #[.slice aa al ac, .slice oa ol oz, .slice xa xl xc, .bool st] 31))) :
 Own Try.prog main F Stop (G (((Go.Conc.base 30).at ⟨A, []⟩ [.inRegion (oC ktur6) [0, 1, 2], .code ktus8]).finish (.agg #[.slice aa al ac, .slice oa ol oz, .slice xa xl xc, .bool st])) cs) w := by
 obtain ⟨hsz, h2, h3, h4, h5, h6, h7, _⟩ := hA
 obtain ⟨s, rfl⟩ := ktuT_of hsz
 change s 2 = _ at h2
 change s 3 = _ at h3
 change s 4 = _ at h4
 change s 5 = _ at h5
 change s 6 = _ at h6
 change s 7 = _ at h7
 clear hsz
 simp only [ktuT, h2, h3, h4, h5, h6, h7]
 clear h2 h3 h4 h5 h6 h7
 rw [Frame.finish_at]
 simp only [ktur6, ktuBody, Try.f30, zz, Nat.reduceAdd]
 walk_nrm
 (refine oW fun dd K hK => ?_; go_simp; refine qA hK hU ?_; clear hK K)
 (refine oW fun dd K hK => ?_; go_simp; refine hK _ _ ⟨⟨⟨0, grew4 (fun k => not_held hU (show n ≤ w.heap.size by omega)) _ _ _ _⟩, fun e he => by (have hm := mem_listed he; clear he hK; simp [go_sem, storedEv] at hm; rcases hm with rfl | rfl | rfl | rfl <;> exact evT_write _ _ ((fun k => not_held hU (show n ≤ w.heap.size by omega)) _))⟩, ?_⟩; clear hK K; simp only [setCell_at']; refine Own.at ?_ dd)
 have e1 := tr_newU w (.slice none 0 0) (.slice none 0 0) (.slice none 0 0) (.bool false) (.slice aa al ac) (.slice oa ol oz) (.slice xa xl xc) (.bool st)
 rw [e1]
 clear e1
 refine ogE ?_
 refine ogSE ktus8' ?_
 refine h _ ?_
 exact ⟨rfl, rfl, rfl, rfl, rfl, rfl, rfl, rfl, trivial⟩
def tuFns : List Nat := [32]
theorem closedTu : Closed Try.prog (fun f => tuFns.contains f) true := closed_ofX (x := []) (fun f h => by cases h) (by kernel_rfl)
theorem RRow.same {a : Option Addr} {xs : List Value} {w w' : World} (h : RRow w a xs) (he : ∀ b o, a = some ⟨b, o, none⟩ → w'.heap[b]? = w.heap[b]?) : RRow w' a xs :=
 ⟨fun k x hx => by
  obtain ⟨b, o, h1, h2⟩ := h.c k x hx
  exact ⟨b, o, h1, by simpa only [World.cell?, he b o h1] using h2⟩⟩
theorem RRow.alloc {a : Option Addr} {xs : List Value} {w : World} (h : RRow w a xs) (o : Obj) : RRow (w.alloc o) a xs :=
 ⟨fun k x hx => by
  obtain ⟨b, o1, h1, h2⟩ := h.c k x hx
  exact ⟨b, o1, h1, (cellB_alloc h2 o).1⟩⟩
theorem rrow_new (w : World) (xs : List Value) (e : TypeId) : RRow (w.alloc (.cells xs.toArray e)) (some ⟨w.heap.size, 0, none⟩) xs :=
 ⟨fun k x hx => ⟨_, _, rfl, by
  have := heap_alloc_new w (.cells xs.toArray e)
  simp only [World.cell?, this, Nat.zero_add]
  simpa using hx⟩⟩
theorem tu_2 {T xc : Nat} {xa : Option Addr} {v0 v1 : Value} (hT : w.heap[T]? = some (.cells #[v0, v1, .slice xa 5 xc, .bool false] 31 (0, 0))) (hX : RRow w xa (([0, 7, 1, 7, 9] : List Int).map fun v => .int .i64 v)) {A : Array Value} (hA : Slots 76 A [(2, .int .i64 6), (3, .bool true), (4, .int .i64 0), (5, .int .i64 3), (6, .int .i64 1), (7, .int .i64 3), (8, .pointer (some ⟨T, 0, none⟩))]) :
 ktur7.wp Try.prog (nrm fun a u => a.defers = [] ∧ (a.tmps.size = 76 ∧ a.tmps.getD 0 undef = .bool true ∧ w.heap.size ≤ u.heap.size ∧ ∀ r, r < w.heap.size → u.heap[r]? = w.heap[r]?)) ⟨A, []⟩ w := by
 obtain ⟨hsz, h2, h3, h4, h5, h6, h7, h8, _⟩ := hA
 obtain ⟨s, rfl⟩ := ktuT_of hsz
 change s 2 = _ at h2
 change s 3 = _ at h3
 change s 4 = _ at h4
 change s 5 = _ at h5
 change s 6 = _ at h6
 change s 7 = _ at h7
 change s 8 = _ at h8
 clear hsz
 have c2 : w.cell? ⟨T, 2, none⟩ = some (.slice xa 5 xc) := by simp [World.cell?, hT]
 have c3 : w.cell? ⟨T, 3, none⟩ = some (.bool false) := by simp [World.cell?, hT]
 have z3 : w.frozen? ⟨T, 3, none⟩ = false := by simp [World.frozen?, hT]
 have hlt := (alt hT)
 have C : Aside (Calls Try.prog 32 #[.slice xa 5 xc, .slice (some ⟨w.heap.size, 0, none⟩) 5 5] (w.alloc (.cells #[.int .i64 0, .int .i64 7, .int .i64 1, .int .i64 7, .int .i64 9] 2)) fun x w' => x = .returned (.bool true) ∧ w'.heap = (w.alloc (.cells #[.int .i64 0, .int .i64 7, .int .i64 1, .int .i64 7, .int .i64 9] 2)).heap) :=
  same32 (xs := [0, 7, 1, 7, 9]) (by decide) (hX.alloc _) (rrow_new w ([0, 7, 1, 7, 9].map fun v => .int .i64 v) 2)
 have HT : Aside (w.heap[T]? = some (.cells #[v0, v1, .slice xa 5 xc, .bool false] 31 (0, 0)) ∧ T < w.heap.size) := ⟨hT, hlt⟩
 clear hT hX hlt
 simp only [ktur7, ktuBody, pC, Try.f30, Option.getD_some, ktuT, h2, h3, h4, h5, h6, h7, h8]
 clear h2 h3 h4 h5 h6 h7 h8
 go_wp2_with (go_at_call 32; refine C.out.mono ?_; rintro e w1 ⟨rfl, hw1⟩; have W1 : Aside (w1.heap = (w.alloc (.cells #[.int .i64 0, .int .i64 7, .int .i64 1, .int .i64 7, .int .i64 9] 2)).heap) := hw1; have g3 : w1.cell? ⟨T, 3, none⟩ = some (.bool false) := (by simp [World.cell?, W1.out, heap_alloc_lt _ _ HT.out.2, HT.out.1]); clear hw1)
 refine ⟨rfl, rfl, rfl, ?_, fun r hr => ?_⟩
 ·rw [W1.out]; simp
 ·rw [W1.out]; exact heap_alloc_lt _ _ hr
variable {An : Anchor}
theorem bes_turns {c : Frame} {cs : List Frame} {Stop : Goroutine → World → Prop} (K : ∀ w', w.heap.size ≤ w'.heap.size → (∀ (r : Nat) (c : Array Value) (e : TypeId) (z : Nat × Nat), w.heap[r]? = some (.cells c e z) → w'.heap[r]? = some (.cells c e z)) → Bes An Try.prog Stop (G (c.finish (.bool true)) cs) w') :
 Bes An Try.prog Stop (G (Frame.enter Try.prog 30 #[] .normal) (c :: cs)) w := by
 refine bes_own (F := F0) (Stop := fun a u => ∃ A, Slots 76 A [(2, .int .i64 6), (3, .bool true), (4, .int .i64 0), (5, .int .i64 3), (6, .int .i64 1), (7, .int .i64 3)] ∧ w.heap.size ≤ u.heap.size ∧ (∀ r, r < w.heap.size → u.heap[r]? = w.heap[r]?) ∧ a = G (Frame.enter Try.prog 31 #[.bool true] .normal) (((Go.Conc.base 30).at ⟨A, []⟩ [.inRegion (oC ktur6) [0, 1, 2], .code ktus8]) :: c :: cs))
  (tu_0 fun A w' hA hs ho => .stop fun d => ⟨A, hA, hs, ho, rfl⟩) fun a u ⟨A, hA, hs, ho, ha⟩ => ?_
 subst ha
 refine bes_classic fun aa oa oc xa xc w' hP => ?_
 have hst := hP.st
 refine bes_own (F := F0) (Stop := fun a u2 => a = G (c.finish (.bool true)) cs ∧ w'.heap.size ≤ u2.heap.size ∧ ∀ r, r < w'.heap.size → u2.heap[r]? = w'.heap[r]?)
  (tu_1 under_F0 (Nat.zero_le _) hA fun A hA => ?_) fun a u2 ⟨ha, hs2, ho2⟩ => ?_
 ·have hn := heap_alloc_new w' (.cells #[.slice (some ⟨aa, 0, none⟩) 3 3, .slice oa (clE true).2.length oc, .slice xa (clSt true).length xc, .bool false] 31)
  have hX := (rrow_of hst).alloc (.cells #[.slice (some ⟨aa, 0, none⟩) 3 3, .slice oa (clE true).2.length oc, .slice xa (clSt true).length xc, .bool false] 31)
  have hz : (w'.alloc (.cells #[.slice (some ⟨aa, 0, none⟩) 3 3, .slice oa (clE true).2.length oc, .slice xa (clSt true).length xc, .bool false] 31)).heap.size = w'.heap.size + 1 := by simp
  have hl : ∀ r, r < w'.heap.size → (w'.alloc (.cells #[.slice (some ⟨aa, 0, none⟩) 3 3, .slice oa (clE true).2.length oc, .slice xa (clSt true).length xc, .bool false] 31)).heap[r]? = w'.heap[r]? := fun r hr => heap_alloc_lt _ _ hr
  generalize w'.alloc (.cells #[.slice (some ⟨aa, 0, none⟩) 3 3, .slice oa (clE true).2.length oc, .slice xa (clSt true).length xc, .bool false] 31) = V at hn hX hz hl ⊢
  refine own_piece closedTu prog_late (by kernel_rfl) (R := fun A u => A.size = 76 ∧ A.getD 0 undef = .bool true ∧ V.heap.size ≤ u.heap.size ∧ ∀ r, r < V.heap.size → u.heap[r]? = V.heap[r]?) (by decide) (fun τ e => tu_2 (w := retape V τ e) hn (hX.heap rfl) hA) fun A2 w2 τ e hR hg => ?_
  obtain ⟨r1, r2, r3, r4⟩ := hR
  refine ogX ?_
  refine own_go rfl (fun d => stepG_leave (fn := Try.f30) (v := .bool true) rfl rfl Try.func30 (by simpa [results, Try.f30, Array.getD_eq_getD_getElem?] using r2) (by simp [results, Try.f30, go_sem])) (.stop fun d => ⟨rfl, ?_, fun r hr => ?_⟩)
  ·have r3 : V.heap.size ≤ w2.heap.size := r3
   show _ ≤ w2.heap.size
   omega
  ·have r4 : w2.heap[r]? = V.heap[r]? := r4 r (by omega)
   exact r4.trans (hl r hr)
 ·subst ha
  have h6 := hP.size
  refine K u2 (by omega) fun r cc e z hr => ?_
  have hlt := (alt hr)
  have h6 := hP.old r cc e z ((ho r hlt).trans hr)
  rw [ho2 r (alt h6)]
  exact h6
end
noncomputable section
variable {cs : List Frame} {main : Bool} {Stop : Goroutine → World → Prop}
variable {F : Fz} {w : World}
theorem callable33 : Callable 33 := callable Try.func33 rfl rfl
theorem callable35 : Callable 35 := callable Try.func35 rfl rfl
def kspBody : Code := Try.f9.body.getD .skip
def ksps0 := pC [] kspBody
def kspr0 := pC [zt] kspBody
def ksps1 := pC [zf] kspBody
def ksps2 := pC [zf,zt] kspBody
def kspr1 := pC [zf,zt,zt] kspBody
def kspc12 := pC [zf,zt,zf] kspBody
def ksps3 := pC [zf,zt,zf,zt] kspBody
def ksps4 := pC [zf,zf] kspBody
def kspr3 := pC [zf,zf,zt] kspBody
theorem ksps0' : ksps0 = .seq kspr0 ksps1 := by kernel_rfl
theorem kspr0' : kspr0 = .region 0 (oC kspr0) false := by kernel_rfl
theorem ksps1' : ksps1 = .seq ksps2 ksps4 := by kernel_rfl
theorem ksps2' : ksps2 = .seq kspr1 kspc12 := by kernel_rfl
theorem kspr1' : kspr1 = .region 1 (oC kspr1) false := by kernel_rfl
theorem kspc12' : kspc12 = .cond (.tmp 12) ksps3 .skip := by kernel_rfl
theorem ksps4' : ksps4 = .seq kspr3 .ret := by kernel_rfl
theorem kspr3' : kspr3 = .region 3 (oC kspr3) false := by kernel_rfl
theorem enter_ksp (args : Array Value) : Frame.enter Try.prog 9 args .normal = (Go.Conc.base 9).at { tmps := args ++ Array.replicate (26 - args.size) undef, defers := [] } [.code ksps0] := enter_at args Try.func9 rfl
def kspT (s : Nat → Value) : Array Value := #[s 0, s 1, s 2, s 3, s 4, s 5, s 6, s 7, s 8, s 9, s 10, s 11, s 12, s 13, s 14, s 15, s 16, s 17, s 18, s 19, s 20, s 21, s 22, s 23, s 24, s 25]
theorem kspT_of {A : Array Value} (h : A.size = 26) : ∃ s, A = kspT s := by
 obtain ⟨s, hs, _⟩ := arr_lit A h
 exact ⟨s, hs⟩
theorem ksp_0 {a b c0 d0 e0 : Value}
 (h : ∀ A, Slots 26 A [(0, a), (1, b), (2, c0), (3, d0), (4, e0)] → Own Try.prog main F Stop (G (Frame.enter Try.prog 30 #[] .normal) (((Go.Conc.base 9).at ⟨A, []⟩ [.inRegion (oC kspr1) [0, 1], .code kspc12, .code ksps4]) :: cs)) w) :
 Own Try.prog main F Stop (G (Frame.enter Try.prog 9 #[a, b, c0, d0, e0] .normal) cs) w := by
 rw [enter_ksp]
 walk_nrm
 refine ogSR ksps0' kspr0' ?_
 simp only [kspr0, kspBody, Try.f9, zz, Nat.reduceAdd]
 (refine oW fun dd K hK => ?_; go_simp; refine qT hK ?_; clear hK K)
 refine ogE ?_
 refine ogSE ksps1' ?_
 refine ogSR ksps2' kspr1' ?_
 simp only [kspr1, kspBody, Try.f9, zz, Nat.reduceAdd]
 refine oc callable30 #[] ?_
 refine h _ ?_
 exact ⟨rfl, rfl, rfl, rfl, rfl, rfl, trivial⟩
theorem ksp_1 {a b c0 d0 e0 : Value} {A : Array Value} (hA : Slots 26 A [(0, a), (1, b), (2, c0), (3, d0), (4, e0)])
 (h : ∀ A, Slots 26 A [(0, a), (1, b), (2, c0), (3, d0), (4, e0)] → Own Try.prog main F Stop (G (Frame.enter Try.prog 34 #[a, b, c0, d0, e0] .normal) (((Go.Conc.base 9).at ⟨A, []⟩ [.inRegion (oC kspr3) [5, 6, 7, 8, 9, 10, 11, 12, 13], .code .ret]) :: cs)) w) :
 Own Try.prog main F Stop (G (((Go.Conc.base 9).at ⟨A, []⟩ [.inRegion (oC kspr1) [0, 1], .code kspc12, .code ksps4]).finish (.bool true)) cs) w := by
 obtain ⟨hsz, h0, h1, h2, h3, h4, _⟩ := hA
 obtain ⟨s, rfl⟩ := kspT_of hsz
 change s 0 = _ at h0
 change s 1 = _ at h1
 change s 2 = _ at h2
 change s 3 = _ at h3
 change s 4 = _ at h4
 clear hsz
 simp only [kspT, h0, h1, h2, h3, h4]
 clear h0 h1 h2 h3 h4
 rw [Frame.finish_at]
 simp only [kspr1, kspBody, Try.f9, zz, Nat.reduceAdd]
 walk_nrm
 (refine oW fun dd K hK => ?_; go_simp; refine qT hK ?_; clear hK K)
 refine ogE ?_
 rw [kspc12']
 refine ogF ?_
 simp only [Bool.false_eq_true, if_false]
 refine ogK ?_
 refine ogSR ksps4' kspr3' ?_
 simp only [kspr3, kspBody, Try.f9, zz, Nat.reduceAdd]
 iterate 5 (refine oW fun dd K hK => ?_; go_simp; refine qT hK ?_; clear hK K)
 refine oc callable34 #[a, b, c0, d0, e0] ?_
 refine h _ ?_
 exact ⟨rfl, rfl, rfl, rfl, rfl, rfl, trivial⟩
theorem ksp_2 {a b c0 d0 e0 : Value} {x : Value} {A : Array Value} (hA : Slots 26 A [(0, a), (1, b), (2, c0), (3, d0), (4, e0)])
 (h : ∀ A, Slots 26 A [(18, x)] → Own Try.prog main F Stop (G (Frame.enter Try.prog 35 #[a, b, c0, d0, e0] .normal) (((Go.Conc.base 9).at ⟨A, []⟩ [.inRegion (oC kspr3) [11, 12, 13], .code .ret]) :: cs)) w) :
 Own Try.prog main F Stop (G (((Go.Conc.base 9).at ⟨A, []⟩ [.inRegion (oC kspr3) [5, 6, 7, 8, 9, 10, 11, 12, 13], .code .ret]).finish x) cs) w := by
 obtain ⟨hsz, h0, h1, h2, h3, h4, _⟩ := hA
 obtain ⟨s, rfl⟩ := kspT_of hsz
 change s 0 = _ at h0
 change s 1 = _ at h1
 change s 2 = _ at h2
 change s 3 = _ at h3
 change s 4 = _ at h4
 clear hsz
 simp only [kspT, h0, h1, h2, h3, h4]
 clear h0 h1 h2 h3 h4
 rw [Frame.finish_at]
 simp only [kspr3, kspBody, Try.f9, zz, Nat.reduceAdd]
 walk_nrm
 iterate 5 (refine oW fun dd K hK => ?_; go_simp; refine qT hK ?_; clear hK K)
 refine oc callable35 #[a, b, c0, d0, e0] ?_
 refine h _ ?_
 exact ⟨rfl, rfl, trivial⟩
theorem ksp_3 {x y : Value} {A : Array Value} (hA : Slots 26 A [(18, x)])
 (h : ∀ A, Slots 26 A [(18, x)] → Own Try.prog main F Stop (G (Frame.enter Try.prog 33 #[x, y] .normal) (((Go.Conc.base 9).at ⟨A, []⟩ [.inRegion (oC kspr3) [12, 13], .code .ret]) :: cs)) w) :
 Own Try.prog main F Stop (G (((Go.Conc.base 9).at ⟨A, []⟩ [.inRegion (oC kspr3) [11, 12, 13], .code .ret]).finish y) cs) w := by
 obtain ⟨hsz, h18, _⟩ := hA
 obtain ⟨s, rfl⟩ := kspT_of hsz
 change s 18 = _ at h18
 clear hsz
 simp only [kspT, h18]
 clear h18
 rw [Frame.finish_at]
 simp only [kspr3, kspBody, Try.f9, zz, Nat.reduceAdd]
 walk_nrm
 refine oc callable33 #[x, y] ?_
 refine h _ ?_
 exact ⟨rfl, rfl, trivial⟩
theorem ksp_4 {z x : Value} {A : Array Value} (hA : Slots 26 A [(18, z)])
 (h : ∀ A, Slots 26 A [(10, x)] → Own Try.prog main F Stop (G { (Go.Conc.base 9).at ⟨A, []⟩ [.code .ret] with mode := .returning } cs) w) :
 Own Try.prog main F Stop (G (((Go.Conc.base 9).at ⟨A, []⟩ [.inRegion (oC kspr3) [12, 13], .code .ret]).finish x) cs) w := by
 obtain ⟨hsz, h18, _⟩ := hA
 obtain ⟨s, rfl⟩ := kspT_of hsz
 change s 18 = _ at h18
 clear hsz
 simp only [kspT, h18]
 clear h18
 rw [Frame.finish_at]
 simp only [kspr3, kspBody, Try.f9, zz, Nat.reduceAdd]
 walk_nrm
 (refine oW fun dd K hK => ?_; go_simp; refine qT hK ?_; clear hK K)
 refine ogE ?_
 refine ogX ?_
 refine h _ ?_
 exact ⟨rfl, rfl, trivial⟩
end
section
variable {w w' : World}
structure MK where
 mb : Nat
 nb : Nat
 vb : Nat
 cn : Nat
 cv : Nat
 thr : Value
structure MAt (w : World) (B : MK) (s : KSt) : Prop where
 o : w.heap[B.mb]? = some (.cells #[.slice (some ⟨B.nb, 0, none⟩) s.nx.length B.cn, .slice (some ⟨B.vb, 0, none⟩) s.vl.length B.cv, .int .i64 s.hd.1, .int .i64 s.hd.2, .int .i64 s.fr.1, .int .i64 s.fr.2, .bool s.tg, B.thr] 121 (0, 0))
 n : ∃ c, w.heap[B.nb]? = some (.cells c 2 (0, 0)) ∧ ∀ (i : Nat) (v : Int), s.nx[i]? = some v → c[i]? = some (.int .i64 v)
 v : ∃ c, w.heap[B.vb]? = some (.cells c 2 (0, 0)) ∧ ∀ (i : Nat) (v : Int), s.vl[i]? = some v → c[i]? = some (.int .i64 v)
 ne : B.nb ≠ B.vb
variable {B : MK} {s : KSt} {tb : Nat} {op ov : Value} {t : RTh} {en : Bool}
theorem MAt.same (h : MAt w B s) (h1 : w'.heap[B.mb]? = w.heap[B.mb]?) (h2 : w'.heap[B.nb]? = w.heap[B.nb]?) (h3 : w'.heap[B.vb]? = w.heap[B.vb]?) : MAt w' B s :=
 ⟨h1.trans h.o, by rw [h2]; exact h.n, by rw [h3]; exact h.v, h.ne⟩
theorem MAt.heap (h : MAt w B s) (e : w'.heap = w.heap) : MAt w' B s := h.same (by rw [e]) (by rw [e]) (by rw [e])
theorem MAt.mlt (h : MAt w B s) : B.mb < w.heap.size := (Array.getElem?_eq_some_iff.1 h.o).1
theorem MAt.nlt (h : MAt w B s) : B.nb < w.heap.size := by obtain ⟨c, h1, _⟩ := h.n; exact (alt h1)
theorem MAt.vlt (h : MAt w B s) : B.vb < w.heap.size := by obtain ⟨c, h1, _⟩ := h.v; exact (alt h1)
theorem MAt.mn (h : MAt w B s) : B.nb ≠ B.mb ∧ B.vb ≠ B.mb := by
 obtain ⟨c, h1, _⟩ := h.n
 obtain ⟨d, h2, _⟩ := h.v
 exact ⟨heap_ty h1 h.o (by decide), heap_ty h2 h.o (by decide)⟩
structure MFx (w : World) (B : MK) (s : KSt) : Prop where
 m0 : w.cell? ⟨B.mb, 0, none⟩ = some (.slice (some ⟨B.nb, 0, none⟩) s.nx.length B.cn)
 m1 : w.cell? ⟨B.mb, 1, none⟩ = some (.slice (some ⟨B.vb, 0, none⟩) s.vl.length B.cv)
 m2 : w.cell? ⟨B.mb, 2, none⟩ = some (.int .i64 s.hd.1)
 m3 : w.cell? ⟨B.mb, 3, none⟩ = some (.int .i64 s.hd.2)
 m4 : w.cell? ⟨B.mb, 4, none⟩ = some (.int .i64 s.fr.1)
 m5 : w.cell? ⟨B.mb, 5, none⟩ = some (.int .i64 s.fr.2)
 m6 : w.cell? ⟨B.mb, 6, none⟩ = some (.bool s.tg)
 m7 : w.cell? ⟨B.mb, 7, none⟩ = some B.thr
 z : ∀ j, w.frozen? ⟨B.mb, j, none⟩ = false
theorem MAt.fx (h : MAt w B s) : MFx w B s := by
 have ho := h.o
 constructor <;> first | (simp [World.cell?, ho]; done) | (intro j; simp [World.frozen?, ho]; done)
theorem MAt.nc (h : MAt w B s) {i : Nat} (hi : i < s.nx.length) : w.cell? ⟨B.nb, i, none⟩ = some (.int .i64 (s.nx.getD i 0)) ∧ w.frozen? ⟨B.nb, i, none⟩ = false := by
 obtain ⟨c, h1, h2⟩ := h.n
 have := h2 i _ (List.getElem?_eq_getElem hi)
 exact ⟨by simp only [World.cell?, h1]; simpa [List.getD_eq_getElem?_getD, List.getElem?_eq_getElem hi] using this, by simp [World.frozen?, h1]⟩
theorem MAt.vc (h : MAt w B s) {i : Nat} (hi : i < s.vl.length) : w.cell? ⟨B.vb, i, none⟩ = some (.int .i64 (s.vl.getD i 0)) ∧ w.frozen? ⟨B.vb, i, none⟩ = false := by
 obtain ⟨c, h1, h2⟩ := h.v
 have := h2 i _ (List.getElem?_eq_getElem hi)
 exact ⟨by simp only [World.cell?, h1]; simpa [List.getD_eq_getElem?_getD, List.getElem?_eq_getElem hi] using this, by simp [World.frozen?, h1]⟩
theorem row_set {l : List Int} {i : Nat} {x : Int} {c : Array Value} (h : ∀ (j : Nat) (v : Int), l[j]? = some v → c[j]? = some (.int .i64 v)) (hi : i < l.length) : ∀ (j : Nat) (v : Int), (l.set i x)[j]? = some v → (c.setIfInBounds i (.int .i64 x))[j]? = some (.int .i64 v) := by
 intro j v hj
 have hc := h i _ (List.getElem?_eq_getElem hi)
 have hic := (alt hc)
 rw [List.getElem?_set] at hj
 by_cases e : i = j
 ·subst e
  rw [if_pos rfl, if_pos hi] at hj
  cases hj
  rw [Array.getElem?_setIfInBounds_self_of_lt hic]
 ·rw [if_neg e] at hj
  rw [Array.getElem?_setIfInBounds_ne e]
  exact h j v hj
structure Mid (w : World) (B : MK) (tb : Nat) (ov : Value) (xs : List (Bool × Int)) (U : World) (s : KSt) (a : Array Value) : Prop where
 m : MAt U B s
 t : U.heap[tb]? = some (.cells a 158 (0, 0))
 r : U.ownsRow 0 44 3 ov xs.length (ansC xs)
 s : w.heap.size ≤ U.heap.size
 o : ∀ r, r < w.heap.size → r ≠ B.mb → r ≠ B.nb → r ≠ B.vb → r ≠ tb → U.heap[r]? = w.heap[r]?
section
variable {xs : List (Bool × Int)} {U : World} {a : Array Value}
theorem Mid.start (hM : MAt w B s) (hT : TAt w tb op t ov en) : Mid w B tb ov t.ans w s (thC op t ov en) := ⟨hM, hT.o, hT.row, Nat.le_refl _, fun _ _ _ _ _ _ => rfl⟩
theorem Mid.tm (h : Mid w B tb ov xs U s a) : tb ≠ B.mb ∧ tb ≠ B.nb ∧ tb ≠ B.vb := by
 obtain ⟨c, h1, _⟩ := h.m.n
 obtain ⟨d, h2, _⟩ := h.m.v
 exact ⟨heap_ty h.t h.m.o (by decide), heap_ty h.t h1 (by decide), heap_ty h.t h2 (by decide)⟩
theorem Mid.st (h : Mid w B tb ov xs U s a) (j : Nat) (v : Value) : Mid w B tb ov xs (U.setCell ⟨tb, j, none⟩ v) s (a.setIfInBounds j v) := by
 obtain ⟨n1, n2, n3⟩ := h.tm
 exact ⟨h.m.same (heap_setCell_ne _ _ _ n1.symm) (heap_setCell_ne _ _ _ n2.symm) (heap_setCell_ne _ _ _ n3.symm), heap_set_eq h.t, ownsRow_same2 h.r fun b hb _ => heap_setCell_ne _ _ _ fun e => own_type h.r h.t (by decide) (by have e := e; simp only at e; rw [← e]; exact hb.symm), by rw [World.size_setCell]; exact h.s, fun r h1 h2 h3 h4 h5 => (heap_setCell_ne _ _ _ h5).trans (h.o r h1 h2 h3 h4 h5)⟩
theorem Mid.mst {s' : KSt} (h : Mid w B tb ov xs U s a) (j : Nat) (v : Value) (hn : s'.nx = s.nx) (hv : s'.vl = s.vl) (he : (#[.slice (some ⟨B.nb, 0, none⟩) s.nx.length B.cn, .slice (some ⟨B.vb, 0, none⟩) s.vl.length B.cv, .int .i64 s.hd.1, .int .i64 s.hd.2, .int .i64 s.fr.1, .int .i64 s.fr.2, .bool s.tg, B.thr] : Array Value).setIfInBounds j v = #[.slice (some ⟨B.nb, 0, none⟩) s'.nx.length B.cn, .slice (some ⟨B.vb, 0, none⟩) s'.vl.length B.cv, .int .i64 s'.hd.1, .int .i64 s'.hd.2, .int .i64 s'.fr.1, .int .i64 s'.fr.2, .bool s'.tg, B.thr]) : Mid w B tb ov xs (U.setCell ⟨B.mb, j, none⟩ v) s' a := by
 obtain ⟨n1, n2, n3⟩ := h.tm
 obtain ⟨k1, k2⟩ := h.m.mn
 refine ⟨⟨?_, ?_, ?_, h.m.ne⟩, (heap_setCell_ne _ _ _ n1).trans h.t, ownsRow_same2 h.r fun b hb _ => heap_setCell_ne _ _ _ fun e => own_type h.r h.m.o (by decide) (by have e := e; simp only at e; rw [← e]; exact hb.symm), by rw [World.size_setCell]; exact h.s, fun r h1 h2 h3 h4 h5 => (heap_setCell_ne _ _ _ h2).trans (h.o r h1 h2 h3 h4 h5)⟩
 ·rw [heap_set_eq h.m.o, he]
 ·rw [heap_setCell_ne _ _ _ k1, hn]; exact h.m.n
 ·rw [heap_setCell_ne _ _ _ k2, hv]; exact h.m.v
theorem Mid.nx (h : Mid w B tb ov xs U s a) {i : Nat} (hi : i < s.nx.length) (x : Int) : Mid w B tb ov xs (U.setCell ⟨B.nb, i, none⟩ (.int .i64 x)) { s with nx := s.nx.set i x } a := by
 obtain ⟨n1, n2, n3⟩ := h.tm
 obtain ⟨k1, k2⟩ := h.m.mn
 obtain ⟨c, h1, h2⟩ := h.m.n
 refine ⟨⟨?_, ⟨_, heap_set_eq h1, row_set h2 hi⟩, ?_, h.m.ne⟩, (heap_setCell_ne _ _ _ n2).trans h.t, ownsRow_same2 h.r fun b hb _ => heap_setCell_ne _ _ _ fun e => own_type h.r h1 (by decide) (by have e := e; simp only at e; rw [← e]; exact hb.symm), by rw [World.size_setCell]; exact h.s, fun r g1 g2 g3 g4 g5 => (heap_setCell_ne _ _ _ g3).trans (h.o r g1 g2 g3 g4 g5)⟩
 ·rw [heap_setCell_ne _ _ _ k1.symm]
  simpa using h.m.o
 ·rw [heap_setCell_ne _ _ _ h.m.ne.symm]; exact h.m.v
theorem Mid.vl (h : Mid w B tb ov xs U s a) {i : Nat} (hi : i < s.vl.length) (x : Int) : Mid w B tb ov xs (U.setCell ⟨B.vb, i, none⟩ (.int .i64 x)) { s with vl := s.vl.set i x } a := by
 obtain ⟨n1, n2, n3⟩ := h.tm
 obtain ⟨k1, k2⟩ := h.m.mn
 obtain ⟨c, h1, h2⟩ := h.m.v
 refine ⟨⟨?_, ?_, ⟨_, heap_set_eq h1, row_set h2 hi⟩, h.m.ne⟩, (heap_setCell_ne _ _ _ n3).trans h.t, ownsRow_same2 h.r fun b hb _ => heap_setCell_ne _ _ _ fun e => own_type h.r h1 (by decide) (by have e := e; simp only at e; rw [← e]; exact hb.symm), by rw [World.size_setCell]; exact h.s, fun r g1 g2 g3 g4 g5 => (heap_setCell_ne _ _ _ g4).trans (h.o r g1 g2 g3 g4 g5)⟩
 ·rw [heap_setCell_ne _ _ _ k2.symm]
  simpa using h.m.o
 ·rw [heap_setCell_ne _ _ _ h.m.ne]; exact h.m.n
theorem Mid.heap (h : Mid w B tb ov xs U s a) (e : w'.heap = U.heap) : Mid w B tb ov xs w' s a :=
 ⟨h.m.heap e, by rw [e]; exact h.t, ownsRow_same2 h.r fun _ _ _ => by rw [e], by rw [e]; exact h.s, fun r h1 h2 h3 h4 h5 => by rw [e]; exact h.o r h1 h2 h3 h4 h5⟩
theorem Mid.more (h : Mid w B tb ov xs U s a) (hs : U.heap.size ≤ w'.heap.size) (e : ∀ r, r < U.heap.size → w'.heap[r]? = U.heap[r]?) : Mid w B tb ov xs w' s a := by
 have h1 := h.s
 refine ⟨h.m.same (e _ h.m.mlt) (e _ h.m.nlt) (e _ h.m.vlt), (e _ (Array.getElem?_eq_some_iff.1 h.t).1).trans h.t, ownsRow_same2 h.r fun b hb _ => e b ?_, by omega, fun r a1 a2 a3 a4 a5 => (e r (by omega)).trans (h.o r a1 a2 a3 a4 a5)⟩
 obtain ⟨c, hc⟩ := own_row_ty h.r hb
 exact (alt hc)
end
def Out6 (w : World) (B : MK) (tb : Nat) (op ov : Value) (en : Bool) (w' : World) (r : KSt × RTh) : Prop :=
 ∃ ov', MAt w' B r.1 ∧ TAt w' tb op r.2 ov' en ∧ w.heap.size ≤ w'.heap.size ∧ (∀ r, r < w.heap.size → r ≠ B.mb → r ≠ B.nb → r ≠ B.vb → r ≠ tb → some r ≠ ov.ownBlock → w'.heap[r]? = w.heap[r]?) ∧ (ov'.ownBlock = ov.ownBlock ∨ ∃ g, ov'.ownBlock = some g ∧ w.heap.size ≤ g)
theorem Mid.out {U : World} {a : Array Value} (h : Mid w B tb ov t.ans U s a) (ha : a = thC op t ov en) : Out6 w B tb op ov en U (s, t) := by
 subst ha
 exact ⟨ov, h.m, ⟨h.t, h.r⟩, h.s, fun r h1 h2 h3 h4 h5 _ => h.o r h1 h2 h3 h4 h5, .inl rfl⟩
theorem Mid.at {U : World} {a : Array Value} (h : Mid w B tb ov t.ans U s a) (ha : a = thC op t ov en) : TAt U tb op t ov en := by
 subst ha
 exact ⟨h.t, h.r⟩
theorem Mid.fin {U u : World} {x : Bool × Int} {a : Array Value} {ov' : Value} (h : Mid w B tb ov t.ans U s a) (ha : a = thC op t ov en) (hT : TAt u tb op (t.fin x) ov' en) (hk : Kpt U u tb ov ov') : Out6 w B tb op ov en u (s, t.fin x) := by
 subst ha
 obtain ⟨n1, n2, n3⟩ := h.tm
 have hs := h.s
 obtain ⟨c, h1, _⟩ := h.m.n
 obtain ⟨d, h2, _⟩ := h.m.v
 refine ⟨ov', h.m.same (hk.old _ h.m.mlt n1.symm (own_type h.r h.m.o (by decide))) (hk.old _ h.m.nlt n2.symm (own_type h.r h1 (by decide))) (hk.old _ h.m.vlt n3.symm (own_type h.r h2 (by decide))), hT, Nat.le_trans hs hk.size, fun r a1 a2 a3 a4 a5 a6 => (hk.old r (by omega) a5 a6).trans (h.o r a1 a2 a3 a4 a5), hk.fo.imp id fun ⟨g, e1, e2⟩ => ⟨g, e1, by omega⟩⟩
theorem rturn_no {hx : Nat} (hh : hx = 2 ∨ hx = 4) {x y node tag to : Int} (hx0 : w.cell? ⟨B.mb, hx, none⟩ = some (.int .i64 x)) (hx1 : w.cell? ⟨B.mb, hx + 1, none⟩ = some (.int .i64 y)) (hne : ¬ (x, y) = (node, tag)) :
 Calls Try.prog 109 #[.pointer (some ⟨B.mb, 0, none⟩), .pointer (some ⟨B.mb, hx, none⟩), .int .i64 node, .int .i64 tag, .int .i64 to] w fun e w' => e = .returned (.bool false) ∧ w'.heap = w.heap := by
 have hne2 : ¬ (x = node ∧ y = tag) := fun h => hne (by rw [h.1, h.2])
 rcases hh with rfl | rfl
 all_goals
  by_cases e1 : x = node
  ·have e2 : ¬ y = tag := fun h => hne2 ⟨e1, h⟩
   clear hne hne2
   go_enter Try.func109, Try.ntmps109
   go_wp2
   go_ret
   exact ⟨rfl, rfl⟩
  ·clear hne hne2
   go_enter Try.func109, Try.ntmps109
   go_wp2
   go_ret
   exact ⟨rfl, rfl⟩
theorem rturn_un {hx : Nat} (hh : hx = 2 ∨ hx = 4) {x y to : Int} (hx0 : w.cell? ⟨B.mb, hx, none⟩ = some (.int .i64 x)) (hx1 : w.cell? ⟨B.mb, hx + 1, none⟩ = some (.int .i64 y)) (hz : w.frozen? ⟨B.mb, hx, none⟩ = false) (h6 : w.cell? ⟨B.mb, 6, none⟩ = some (.bool false)) :
 Calls Try.prog 109 #[.pointer (some ⟨B.mb, 0, none⟩), .pointer (some ⟨B.mb, hx, none⟩), .int .i64 x, .int .i64 y, .int .i64 to] w fun e w' => e = .returned (.bool true) ∧ w'.heap = (w.setCell ⟨B.mb, hx, none⟩ (.int .i64 to)).heap := by
 rcases hh with rfl | rfl
 all_goals
  go_enter Try.func109, Try.ntmps109
  go_wp2
  go_ret
  exact ⟨rfl, rfl⟩
theorem rturn_tg {hx : Nat} (hh : hx = 2 ∨ hx = 4) {x y to : Int} (hy : 0 ≤ y ∧ y < 2147483648) (hx0 : w.cell? ⟨B.mb, hx, none⟩ = some (.int .i64 x)) (hx1 : w.cell? ⟨B.mb, hx + 1, none⟩ = some (.int .i64 y)) (hz : w.frozen? ⟨B.mb, hx, none⟩ = false) (hz1 : w.frozen? ⟨B.mb, hx + 1, none⟩ = false) (h6 : w.cell? ⟨B.mb, 6, none⟩ = some (.bool true)) :
 Calls Try.prog 109 #[.pointer (some ⟨B.mb, 0, none⟩), .pointer (some ⟨B.mb, hx, none⟩), .int .i64 x, .int .i64 y, .int .i64 to] w fun e w' => e = .returned (.bool true) ∧ w'.heap = ((w.setCell ⟨B.mb, hx, none⟩ (.int .i64 to)).setCell ⟨B.mb, hx + 1, none⟩ (.int .i64 ((y + 1) % 2147483648))).heap := by
 have e3 : IntKind.i64.wrap (y + 1) = y + 1 := IntWalk.i64_in _ (by omega)
 have e4 : Int.tmod (y + 1) 2147483648 = (y + 1) % 2147483648 := Int.tmod_eq_emod_of_nonneg (by omega)
 have e5 : IntKind.i64.wrap ((y + 1) % 2147483648) = (y + 1) % 2147483648 := IntWalk.i64_in _ (by omega)
 rcases hh with rfl | rfl
 all_goals
  clear hy
  go_enter Try.func109, Try.ntmps109
  go_wp2
  go_ret
  exact ⟨rfl, rfl⟩
def opsC (l : List Op4) : List Value := (l.map fun o => [Value.int .i64 o.kd, .int .i64 o.a, .int .i64 o.b, .int .i64 o.c]).flatten
theorem opsC_app (l m : List Op4) : opsC (l ++ m) = opsC l ++ opsC m := by simp [opsC]
theorem opsC_get : ∀ (l : List Op4) (k : Nat) (x : Op4), l[k]? = some x → (opsC l)[k * 4]? = some (.int .i64 x.kd) ∧ (opsC l)[k * 4 + 1]? = some (.int .i64 x.a) ∧ (opsC l)[k * 4 + 2]? = some (.int .i64 x.b) ∧ (opsC l)[k * 4 + 3]? = some (.int .i64 x.c)
 | [], k, x, h => by simp at h
 | y :: l, 0, x, h => by
   simp at h
   subst h
   simp [opsC]
 | y :: l, k + 1, x, h => by
   have ih := opsC_get l k x (by simpa using h)
   have e2 : opsC (y :: l) = [Value.int .i64 y.kd, .int .i64 y.a, .int .i64 y.b, .int .i64 y.c] ++ opsC l := rfl
   have key : ∀ j, ([Value.int .i64 y.kd, .int .i64 y.a, .int .i64 y.b, .int .i64 y.c] ++ opsC l)[4 + j]? = (opsC l)[j]? := fun j => by
    rw [List.getElem?_append_right (by simp)]
    simp
   rw [e2, show (k + 1) * 4 = 4 + k * 4 by omega]
   rw [show 4 + k * 4 + 1 = 4 + (k * 4 + 1) by omega, show 4 + k * 4 + 2 = 4 + (k * 4 + 2) by omega, show 4 + k * 4 + 3 = 4 + (k * 4 + 3) by omega, key, key, key, key]
   exact ih
theorem op_calls {ops : List Op4} {x : Op4} (hT : TAt w tb op t ov en) (hr : w.ownsRow 0 47 4 op ops.length (opsC ops)) (hx : ops[t.k]? = some x) (hl : ops.length < 100000000) :
 Calls Try.prog 92 #[.pointer (some ⟨tb, 0, none⟩)] w fun e w' => e = .returned x.v ∧ w.heap.size ≤ w'.heap.size ∧ ∀ r, r < w.heap.size → w'.heap[r]? = w.heap[r]? := by
 have hlt := (List.getElem?_eq_some_iff.1 hx).1
 obtain ⟨x0, x1, x2, x3⟩ := opsC_get _ _ _ hx
 obtain ⟨g, cap, rfl, y0⟩ := row_get hr x0
 obtain ⟨g1, cap1, e, y1⟩ := row_get hr x1
 cases e
 obtain ⟨g2, cap2, e, y2⟩ := row_get hr x2
 cases e
 obtain ⟨g3, cap3, e, y3⟩ := row_get hr x3
 cases e
 have y0 := y0.c
 have y1 := y1.c
 have y2 := y2.c
 have y3 := y3.c
 obtain ⟨c0, c1, c2, c3, c4, c5, c6, c7, c11, c12, c13, z⟩ := hT.fx
 have hk : (t.k : Int) < (ops.length : Int) := by omega
 have keep : ∀ (X : World) (o : Obj), X.heap = (w.alloc o).heap → w.heap.size ≤ X.heap.size ∧ ∀ r, r < w.heap.size → X.heap[r]? = w.heap[r]? := fun X o e => by
  refine ⟨by rw [e]; simp, fun r hr => ?_⟩
  rw [e, heap_alloc_lt _ _ hr]
 clear c2 c3 c4 c5 c6 c7 c11 c12 c13 z hT hr hx x0 x1 x2 x3
 obtain ⟨kd, a, b, d⟩ := x
 simp only at y0 y1 y2 y3
 have p0 := (cellB_alloc c0 (.cells #[.int .i64 0, .int .i64 0, .int .i64 0, .int .i64 0] 47)).1
 have p1 := (cellB_alloc c1 (.cells #[.int .i64 0, .int .i64 0, .int .i64 0, .int .i64 0] 47)).1
 have q0 := (cellB_alloc y0 (.cells #[.int .i64 0, .int .i64 0, .int .i64 0, .int .i64 0] 47)).1
 have q1 := (cellB_alloc y1 (.cells #[.int .i64 0, .int .i64 0, .int .i64 0, .int .i64 0] 47)).1
 have q2 := (cellB_alloc y2 (.cells #[.int .i64 0, .int .i64 0, .int .i64 0, .int .i64 0] 47)).1
 have q3 := (cellB_alloc y3 (.cells #[.int .i64 0, .int .i64 0, .int .i64 0, .int .i64 0] 47)).1
 go_enter Try.func92, Try.ntmps92
 go_wp2
 go_region
 all_goals go_wp2
 all_goals exact bodyPost_ret (v := .agg #[.int .i64 kd, .int .i64 a, .int .i64 b, .int .i64 d]) (by simp [results, Try.f92, go_sem]) rfl ⟨rfl, keep _ _ rfl⟩
theorem held_calls {n lo hi m : Int} (h1 : lo ≤ hi) (hm : min (max n lo) hi = m) : Calls Try.prog 91 #[.int .i64 n, .int .i64 lo, .int .i64 hi] w fun e w' => e = .returned (.int .i64 m) ∧ w' = w := by
 by_cases a : n < lo
 ·have : m = lo := by omega
  subst this
  clear h1 hm
  go_enter Try.func91, Try.ntmps91
  go_wp2
  go_ret
  exact ⟨rfl, rfl⟩
 ·by_cases b : hi < n
  ·have : m = hi := by omega
   subst this
   clear h1 hm
   go_enter Try.func91, Try.ntmps91
   go_wp2
   go_ret
   exact ⟨rfl, rfl⟩
  ·have : m = n := by omega
   subst this
   clear h1 hm
   go_enter Try.func91, Try.ntmps91
   go_wp2
   go_ret
   exact ⟨rfl, rfl⟩
end
section
@[go_sem] theorem run_f47_0 (a b c d : Value) (w : World) : (Instr.field 47 (.agg #[a, b, c, d]) 0).run Try.prog w = .ok a w := by kernel_rfl
@[go_sem] theorem run_f47_1 (a b c d : Value) (w : World) : (Instr.field 47 (.agg #[a, b, c, d]) 1).run Try.prog w = .ok b w := by kernel_rfl
def rstep (s : KSt) (t : RTh) (a : Int) : KSt × RTh :=
 match t.pc with
 | 10 => if s.fr.1 < 0 then (s, RTh.fin { t with n0 := s.fr.1, n1 := s.fr.2, pc := 11 } (false, 0)) else (s, { t with n0 := s.fr.1, n1 := s.fr.2, pc := 11 })
 | 11 => (s, { t with n2 := s.nxt t.n0, pc := 12 })
 | 12 => match s.turn s.fr t.n0 t.n1 t.n2 with
   | some f => ({ s with fr := f }, { t with n4 := t.n0, pc := 13 })
   | none => (s, { t with pc := 10 })
 | 13 => ({ s with vl := s.vl.set t.n4.toNat a }, { t with pc := 14 })
 | 14 => (s, { t with n0 := s.hd.1, n1 := s.hd.2, pc := 15 })
 | 15 => ({ s with nx := s.nx.set t.n4.toNat t.n0 }, { t with pc := 16 })
 | 16 => match s.turn s.hd t.n0 t.n1 t.n4 with
   | some f => ({ s with hd := f }, RTh.fin { t with pc := 14 } (true, 0))
   | none => (s, { t with pc := 14 })
 | 20 => if s.hd.1 < 0 then (s, RTh.fin { t with n0 := s.hd.1, n1 := s.hd.2, pc := 21 } (false, 0)) else (s, { t with n0 := s.hd.1, n1 := s.hd.2, pc := 21 })
 | 21 => (s, { t with n2 := s.nxt t.n0, pc := 22 })
 | 22 => match s.turn s.hd t.n0 t.n1 t.n2 with
   | some f => ({ s with hd := f }, { t with n4 := t.n0, pc := 23 })
   | none => (s, { t with pc := 20 })
 | 23 => (s, { t with n3 := s.val t.n4, pc := 24 })
 | 24 => (s, { t with n0 := s.fr.1, n1 := s.fr.2, pc := 25 })
 | 25 => ({ s with nx := s.nx.set t.n4.toNat t.n0 }, { t with pc := 26 })
 | 26 => match s.turn s.fr t.n0 t.n1 t.n4 with
   | some f => ({ s with fr := f }, RTh.fin { t with pc := 24 } (true, t.n3))
   | none => (s, { t with pc := 24 })
 | 30 => if s.hd.1 < 0 then (s, RTh.fin { t with n0 := s.hd.1, n1 := s.hd.2, pc := 31 } (false, 0)) else (s, { t with n0 := s.hd.1, n1 := s.hd.2, pc := 31 })
 | 31 => (s, { t with n3 := s.val t.n0, pc := 32 })
 | 32 => if s.hd = (t.n0, t.n1) then (s, RTh.fin t (true, t.n3)) else if s.hd.1 < 0 then (s, RTh.fin { t with n0 := s.hd.1, n1 := s.hd.2, pc := 31 } (false, 0)) else (s, { t with n0 := s.hd.1, n1 := s.hd.2, pc := 31 })
 | 40 => (s, RTh.fin t (decide (s.hd.1 < 0), 0))
 | _ => (s, t)
def Liv (c : KCl) (t : RTh) : Prop := t.pc = c.pc ∧ match c.pc with
 | 11 => t.n0 = c.n0 ∧ t.n1 = c.n1
 | 21 => t.n0 = c.n0 ∧ t.n1 = c.n1
 | 12 => t.n0 = c.n0 ∧ t.n1 = c.n1 ∧ t.n2 = c.n2
 | 22 => t.n0 = c.n0 ∧ t.n1 = c.n1 ∧ t.n2 = c.n2
 | 13 => t.n4 = c.n4
 | 14 => t.n4 = c.n4
 | 15 => t.n0 = c.n0 ∧ t.n1 = c.n1 ∧ t.n4 = c.n4
 | 16 => t.n0 = c.n0 ∧ t.n1 = c.n1 ∧ t.n4 = c.n4
 | 23 => t.n4 = c.n4
 | 24 => t.n4 = c.n4 ∧ t.n3 = c.n3
 | 25 => t.n0 = c.n0 ∧ t.n1 = c.n1 ∧ t.n4 = c.n4 ∧ t.n3 = c.n3
 | 26 => t.n0 = c.n0 ∧ t.n1 = c.n1 ∧ t.n4 = c.n4 ∧ t.n3 = c.n3
 | 31 => t.n0 = c.n0 ∧ t.n1 = c.n1
 | 32 => t.n0 = c.n0 ∧ t.n1 = c.n1 ∧ t.n3 = c.n3
 | _ => True
def LivOut (t : RTh) (r : KSt × RTh) (x : KSt × KRs) : Prop := r.1 = x.1 ∧ match x.2 with
 | .inl c => Liv c r.2 ∧ r.2.k = t.k ∧ r.2.ans = t.ans
 | .inr a => r.2.pc = 0 ∧ r.2.k = t.k + 1 ∧ r.2.ans = t.ans ++ [a]
theorem liv_step {s : KSt} {c : KCl} {t : RTh} (h : Liv c t) (hp : c.pc ∈ [10, 11, 12, 13, 14, 15, 16, 20, 21, 22, 23, 24, 25, 26, 30, 31, 32, 40]) : LivOut t (rstep s t c.a) (s.step c) := by
 obtain ⟨k, pc, n0, n1, n2, n3, n4, ans⟩ := t
 obtain ⟨cpc, m0, m1, m2, m3, m4, ca⟩ := c
 obtain ⟨h1, h2⟩ := h
 simp only at h1 h2 hp
 subst h1
 simp only [List.mem_cons, List.not_mem_nil, or_false] at hp
 rcases hp with rfl | rfl | rfl | rfl | rfl | rfl | rfl | rfl | rfl | rfl | rfl | rfl | rfl | rfl | rfl | rfl | rfl | rfl <;> simp only at h2 <;> simp only [rstep, KSt.step] <;> (repeat' split) <;> simp_all [LivOut, Liv, RTh.fin]
end
section
theorem KWf.nxt {s : KSt} (h : KWf s) {i : Int} (hi : 0 ≤ i ∧ i < s.nx.length) : -1 ≤ s.nxt i ∧ s.nxt i < s.nx.length := by
 unfold KSt.nxt
 have hl : i.toNat < s.nx.length := by omega
 rw [List.getD_eq_getElem?_getD, List.getElem?_eq_getElem hl]
 exact h.nx _ (List.getElem_mem _)
theorem KWf.setN {s : KSt} (h : KWf s) (i : Nat) {v : Int} (hv : -1 ≤ v ∧ v < s.nx.length) : KWf { s with nx := s.nx.set i v } :=
 ⟨by simpa using h.n1, by simpa using h.n2, by simpa using h.n3, fun x hx => by
  simp only [List.length_set]
  rcases List.mem_or_eq_of_mem_set hx with g | g
  ·exact h.nx x g
  ·rw [g]; exact hv, by simpa using h.hd, by simpa using h.fr, h.tg⟩
theorem KWf.setV {s : KSt} (h : KWf s) (i : Nat) (v : Int) : KWf { s with vl := s.vl.set i v } := ⟨by simpa using h.n1, h.n2, h.n3, h.nx, h.hd, h.fr, h.tg⟩
theorem KWf.turn {s : KSt} (h : KWf s) {x : Int × Int} {n t to : Int} (hto : -1 ≤ to ∧ to < s.nx.length) {f : Int × Int} (e : s.turn x n t to = some f) : (-1 ≤ f.1 ∧ f.1 < s.nx.length ∧ 0 ≤ f.2 ∧ f.2 < 2147483648) ∧ (s.tg = false → f.2 = 0) := by
 unfold KSt.turn at e
 split at e
 ·cases e
  refine ⟨⟨hto.1, hto.2, ?_, ?_⟩, fun h => by simp [h]⟩ <;> simp only <;> split <;> omega
 ·cases e
theorem KWf.setF {s : KSt} (h : KWf s) {f : Int × Int} (hf : (-1 ≤ f.1 ∧ f.1 < s.nx.length ∧ 0 ≤ f.2 ∧ f.2 < 2147483648) ∧ (s.tg = false → f.2 = 0)) : KWf { s with fr := f } := ⟨h.n1, h.n2, h.n3, h.nx, h.hd, hf.1, fun e => ⟨(h.tg e).1, hf.2 e⟩⟩
theorem KWf.setH {s : KSt} (h : KWf s) {f : Int × Int} (hf : (-1 ≤ f.1 ∧ f.1 < s.nx.length ∧ 0 ≤ f.2 ∧ f.2 < 2147483648) ∧ (s.tg = false → f.2 = 0)) : KWf { s with hd := f } := ⟨h.n1, h.n2, h.n3, h.nx, hf.1, h.fr, fun e => ⟨hf.2 e, (h.tg e).2⟩⟩
theorem kv_step {s : KSt} {c : KCl} (h : KWf s) (v : KV s.nx.length c) : KWf (s.step c).1 ∧ ∀ c', (s.step c).2 = .inl c' → KV (s.step c).1.nx.length c' := by
 rw [step_len]
 obtain ⟨pc, n0, n1, n2, n3, n4, a⟩ := c
 obtain ⟨hp, g0, g1, g2, g4, gp⟩ := v
 have hnx := @KWf.nxt s h
 have hhd := h.hd
 have hfr := h.fr
 have hN := fun (i : Nat) (v : Int) => @KWf.setN s h i v
 have hV := KWf.setV h
 have hT := fun (x : Int × Int) (n t to : Int) h2 (f : Int × Int) => @KWf.turn s h x n t to h2 f
 simp only at hp g0 g1 g2 g4 gp
 simp only [List.mem_cons, List.not_mem_nil, or_false] at hp
 rcases hp with rfl | rfl | rfl | rfl | rfl | rfl | rfl | rfl | rfl | rfl | rfl | rfl | rfl | rfl | rfl | rfl | rfl | rfl <;> simp only [KSt.step] <;> (repeat' split) <;> refine ⟨?_, fun c' e => ?_⟩ <;> first
  | exact h
  | exact hV _ _
  | exact hN _ _ g0
  | (cases e; done)
  | (rename_i f ef; exact KWf.setF h (hT _ _ _ _ g2 f ef))
  | (rename_i f ef; exact KWf.setH h (hT _ _ _ _ g2 f ef))
  | (rename_i f ef; exact KWf.setF h (hT _ _ _ _ ⟨by omega, g4.2⟩ f ef))
  | (rename_i f ef; exact KWf.setH h (hT _ _ _ _ ⟨by omega, g4.2⟩ f ef))
  | (simp only [Sum.inl.injEq] at e; subst e; refine ⟨by simp, ?_, ?_, ?_, ?_, ?_⟩ <;> first | exact ⟨gp (by simp), g0.2⟩ | exact g0 | exact g1 | exact g2 | exact g4 | (have gq := gp (by simp); exact hnx ⟨gq, g0.2⟩) | (intro hq; simp at hq; done) | (intro _; exact gp (by simp)) | (intro _; simp only; omega) | (simp only; omega))
end
section
variable {w w' : World} {B : MK} {s : KSt} {tb : Nat} {op ov : Value} {t : RTh} {en : Bool}
def rbegL : List Op4 → RTh → RTh
 | [], t => t
 | o :: l, t => if 1 ≤ o.kd ∧ o.kd ≤ 4 then { t with pc := 10 * o.kd.toNat } else rbegL l (t.fin (false, 0))
def rbeg (ops : List Op4) (t : RTh) : RTh := if t.pc = 0 then rbegL (ops.drop t.k) t else t
theorem rbeg_step {ops : List Op4} {x : Op4} (h0 : t.pc = 0) (hx : ops[t.k]? = some x) : rbeg ops t = if 1 ≤ x.kd ∧ x.kd ≤ 4 then { t with pc := 10 * x.kd.toNat } else rbeg ops (t.fin (false, 0)) := by
 obtain ⟨hlt, e⟩ := List.getElem?_eq_some_iff.1 hx
 unfold rbeg
 rw [if_pos h0, List.drop_eq_getElem_cons hlt, e]
 simp only [rbegL, RTh.fin, if_true]
theorem rbeg_end {ops : List Op4} (h : ops.length ≤ t.k) : rbeg ops t = t := by
 unfold rbeg
 split
 ·rw [List.drop_eq_nil_of_le h]; rfl
 ·rfl
theorem rbeg_live {ops : List Op4} (h : t.pc ≠ 0) : rbeg ops t = t := by
 unfold rbeg
 rw [if_neg h]
theorem begin_ref {ops : List Op4} {oa : Option Addr} {oc : Nat} (hT : TAt w tb (.slice oa ops.length oc) t ov en) (hr : w.ownsRow 0 47 4 (.slice oa ops.length oc) ops.length (opsC ops)) (hk : t.k ≤ ops.length) (hol : ops.length ≤ 65536) (hal : t.ans.length = t.k) (mp : Value) :
 Calls Try.prog 68 #[mp, .pointer (some ⟨tb, 0, none⟩)] w fun e w' => e = .returned (.tuple #[]) ∧ ∃ ov', TAt w' tb (.slice oa ops.length oc) (rbeg ops t) ov' (decide (ops.length ≤ (rbeg ops t).k)) ∧ Kpt w w' tb ov ov' := by
 have R0 : Aside (w.ownsRow 0 47 4 (.slice oa ops.length oc) ops.length (opsC ops)) := hr
 have T0 : Aside (TAt w tb (.slice oa ops.length oc) t ov en) := hT
 have rowAt : Aside (∀ (W : World) (ov1 : Value), Kpt w W tb ov ov1 → W.ownsRow 0 47 4 (.slice oa ops.length oc) ops.length (opsC ops)) := fun W ov1 h => ownsRow_same2 R0.out fun b hb _ => by
  obtain ⟨c, hc⟩ := own_row_ty R0.out hb
  exact h.old b (alt hc) (heap_ty hc T0.out.o (by decide)) (own_type T0.out.row hc (by decide))
 clear hr
 go_enter Try.func68, Try.ntmps68
 go_wp2
 go_loopg [] ((if t.pc = 0 then 1 else 0) + (ops.length - t.k)) (fun g wr => ∃ (t1 : RTh) (ov1 : Value), TAt wr tb (.slice oa ops.length oc) t1 ov1 en ∧ Kpt w wr tb ov ov1 ∧ rbeg ops t1 = rbeg ops t ∧ t1.k ≤ ops.length ∧ t1.ans.length = t1.k ∧ g = (if t1.pc = 0 then 1 else 0) + (ops.length - t1.k))
 case atStart => exact ⟨t, ov, T0.out, Kpt.refl _ _ _, rfl, hk, hal, rfl⟩
 case round =>
  obtain ⟨t1, ov1, hT1, hK1, hR1, hk1, ha1, hg⟩ := hrel
  have T1 : Aside (TAt wr tb (.slice oa ops.length oc) t1 ov1 en ∧ Kpt w wr tb ov ov1 ∧ rbeg ops t1 = rbeg ops t ∧ t1.ans.length = t1.k) := ⟨hT1, hK1, hR1, ha1⟩
  obtain ⟨c0, c1, c2, c3, c4, c5, c6, c7, c11, c12, c13, z⟩ := hT1.fx
  have z2 := z 2
  have z13 := z 13
  clear z c3 c4 c5 c6 c7 c11 c12 hT1 hK1 hR1 ha1 hT
  by_cases p0 : t1.pc = 0
  ·rw [p0] at c2
   have c2 : wr.cell? ⟨tb, 2, none⟩ = some (.int .i64 0) := c2
   rcases Nat.lt_or_ge t1.k ops.length with hlt | hge
   ·have hlt2 : (t1.k : Int) < (ops.length : Int) := by omega
    obtain ⟨x, hx⟩ : ∃ x, ops[t1.k]? = some x := ⟨_, List.getElem?_eq_getElem hlt⟩
    have hst := rbeg_step p0 hx
    obtain ⟨kd, xa, xb, xd⟩ := x
    simp only at hst
    have hOp : Aside (∀ m, Calls Try.prog 92 #[.pointer (some ⟨tb, 0, none⟩)] (wr.drewN m) fun e w' => e = .returned (.agg #[.int .i64 kd, .int .i64 xa, .int .i64 xb, .int .i64 xd]) ∧ wr.heap.size ≤ w'.heap.size ∧ ∀ r, r < wr.heap.size → w'.heap[r]? = wr.heap[r]?) := fun m => (op_calls (w := wr.drewN m) (T1.out.1.heap rfl) (ownsRow_same2 (rowAt.out _ _ T1.out.2.1) fun _ _ _ => rfl) hx (by omega)).mono fun e w' ⟨e1, e2, e3⟩ => ⟨e1, e2, e3⟩
    have ST : Aside (rbeg ops t1 = if 1 ≤ kd ∧ kd ≤ 4 then { t1 with pc := 10 * kd.toNat } else rbeg ops (t1.fin (false, 0))) := hst
    have P0 : Aside (t1.pc = 0 ∧ t1.k < ops.length ∧ gk = (if t1.pc = 0 then 1 else 0) + (ops.length - t1.k)) := ⟨p0, hlt, hg⟩
    clear hst hx hg p0
    have hbad : ¬ (1 ≤ kd ∧ kd ≤ 4) ∨ (1 ≤ kd ∧ kd ≤ 4) := by omega
    rcases hbad with hbad | hgood
    ·rcases Int.lt_or_le kd 1 with k1 | k1
     ·go_wp2
      go_quiet (fail)
      go_wp2_with (first
       | (go_at_call 92; refine (hOp.out _).mono ?_; rintro e u ⟨rfl, hu1, hu2⟩; have MU : Aside (TAt u tb (.slice oa ops.length oc) t1 ov1 en ∧ Kpt wr u tb ov1 ov1) := ⟨T1.out.1.same (hu2 _ T1.out.1.lt) (fun r hr => by obtain ⟨c, hc⟩ := own_row_ty T1.out.1.row hr.symm; exact hu2 r (alt hc)), hu1, fun r h1 _ _ => hu2 r h1, .inl rfl⟩; clear hu1 hu2)
       | (go_at_call 93; refine Calls.mono (end_calls (a := (false, 0)) (t := t1) MU.out.1 (by have := T1.out.2.2.2; have := P0.out.2.1; omega) (by have := P0.out.2.1; omega)) ?_; rintro e w2 ⟨rfl, ov2, g1, g2⟩; have G : Aside (TAt w2 tb (.slice oa ops.length oc) (t1.fin (false, 0)) ov2 en ∧ Kpt wr w2 tb ov1 ov2) := ⟨g1, MU.out.2.trans g2⟩; clear g1 g2))
      go_roundg (1 + (ops.length - (t1.k + 1)))
      case measure => have h1 := P0.out; rw [if_pos h1.1] at h1; omega
      case rel =>
       refine ⟨t1.fin (false, 0), _, G.out.1, T1.out.2.1.trans G.out.2, ?_, P0.out.2.1, ?_, ?_⟩
       ·rw [← T1.out.2.2.1, ST.out, if_neg (by omega)]
       ·have := T1.out.2.2.2; simp [RTh.fin]; omega
       ·simp [RTh.fin]
     ·have k2 : 4 < kd := by omega
      have k3 : ¬ kd < 1 := by omega
      go_wp2
      go_quiet (fail)
      go_wp2_with (first
       | (go_at_call 92; refine (hOp.out _).mono ?_; rintro e u ⟨rfl, hu1, hu2⟩; have MU : Aside (TAt u tb (.slice oa ops.length oc) t1 ov1 en ∧ Kpt wr u tb ov1 ov1) := ⟨T1.out.1.same (hu2 _ T1.out.1.lt) (fun r hr => by obtain ⟨c, hc⟩ := own_row_ty T1.out.1.row hr.symm; exact hu2 r (alt hc)), hu1, fun r h1 _ _ => hu2 r h1, .inl rfl⟩; clear hu1 hu2)
       | (go_at_call 93; refine Calls.mono (end_calls (a := (false, 0)) (t := t1) MU.out.1 (by have := T1.out.2.2.2; have := P0.out.2.1; omega) (by have := P0.out.2.1; omega)) ?_; rintro e w2 ⟨rfl, ov2, g1, g2⟩; have G : Aside (TAt w2 tb (.slice oa ops.length oc) (t1.fin (false, 0)) ov2 en ∧ Kpt wr w2 tb ov1 ov2) := ⟨g1, MU.out.2.trans g2⟩; clear g1 g2))
      go_roundg (1 + (ops.length - (t1.k + 1)))
      case measure => have h1 := P0.out; rw [if_pos h1.1] at h1; omega
      case rel =>
       refine ⟨t1.fin (false, 0), _, G.out.1, T1.out.2.1.trans G.out.2, ?_, P0.out.2.1, ?_, ?_⟩
       ·rw [← T1.out.2.2.1, ST.out, if_neg (by omega)]
       ·have := T1.out.2.2.2; simp [RTh.fin]; omega
       ·simp [RTh.fin]
    ·obtain ⟨m, rfl⟩ : ∃ m : Nat, kd = m := ⟨kd.toNat, by omega⟩
     have k1 : ¬ (m : Int) < 1 := by omega
     have k2 : ¬ (4 : Int) < m := by omega
     have hwr : IntKind.i64.wrap (10 * (m : Int)) = ((10 * m : Nat) : Int) := by rw [IntWalk.i64_in _ (by omega)]; simp
     go_wp2
     go_quiet (fail)
     go_wp2_with (first
      | (go_at_call 92; refine (hOp.out _).mono ?_; rintro e u ⟨rfl, hu1, hu2⟩; have MU : Aside (TAt u tb (.slice oa ops.length oc) t1 ov1 en ∧ Kpt wr u tb ov1 ov1) := ⟨T1.out.1.same (hu2 _ T1.out.1.lt) (fun r hr => by obtain ⟨c, hc⟩ := own_row_ty T1.out.1.row hr.symm; exact hu2 r (alt hc)), hu1, fun r h1 _ _ => hu2 r h1, .inl rfl⟩; have d2 := MU.out.1.fx.c2; have y2 := MU.out.1.fx.z 2; clear hu1 hu2))
     have M2 : Aside (TAt (u.setCell ⟨tb, 2, none⟩ (.int .i64 ((10 * m : Nat) : Int))) tb (.slice oa ops.length oc) { t1 with pc := 10 * m } ov1 en) := ⟨by rw [heap_set_eq MU.out.1.o]; rfl, ownsRow_same2 MU.out.1.row fun b hb _ => heap_setCell_ne _ _ _ fun e => MU.out.1.ne (by have e := e; simp only at e; rw [← e]; exact hb.symm)⟩
     go_roundg (0 + (ops.length - t1.k))
     case measure => have h1 := P0.out; rw [if_pos h1.1] at h1; omega
     case rel =>
      have q1 : rbeg ops t1 = { t1 with pc := 10 * m } := by rw [ST.out, if_pos (by omega)]; simp
      refine ⟨{ t1 with pc := 10 * m }, ov1, M2.out, T1.out.2.1.trans (MU.out.2.trans ⟨by simp, fun r _ h2 _ => heap_setCell_ne _ _ _ h2, .inl rfl⟩), ?_, by have := P0.out.2.1; simp only; omega, T1.out.2.2.2, ?_⟩
      ·rw [← T1.out.2.2.1, q1, rbeg_live (by simp only; omega)]
      ·rw [if_neg (by simp only; omega)]
   ·have he : ops.length = t1.k := by omega
    have P1 : Aside (ops.length ≤ t1.k) := hge
    have hge2 : ¬ (t1.k : Int) < (ops.length : Int) := by omega
    have hge3 : (ops.length : Int) ≤ (t1.k : Int) := by omega
    clear hg
    go_wp2
    go_quiet (fail)
    go_wp2
    go_region
    all_goals go_wp2
    all_goals go_end0
    all_goals (
     have e1 : rbeg ops t = t1 := by rw [← T1.out.2.2.1]; exact rbeg_end P1.out
     rw [e1]
     refine ⟨rfl, ov1, ⟨?_, ownsRow_same2 T1.out.1.row fun b hb _ => heap_setCell_ne _ _ _ fun e => T1.out.1.ne (by have e := e; simp only at e; rw [← e]; exact hb.symm)⟩, T1.out.2.1.trans ⟨by simp, fun r _ h2 _ => heap_setCell_ne _ _ _ h2, .inl rfl⟩⟩
     refine (heap_set_eq T1.out.1.o).trans ?_
     simp [thC, P1.out])
  ·have p1 : ¬ (t1.pc : Int) = 0 := by omega
   have P1 : Aside (t1.pc ≠ 0) := p0
   clear hg
   go_wp2
   go_quiet (fail)
   go_wp2
   go_region
   all_goals go_wp2
   all_goals go_end0
   all_goals (
    have e1 : rbeg ops t = t1 := by rw [← T1.out.2.2.1]; exact rbeg_live P1.out
    rw [e1]
    refine ⟨rfl, ov1, ⟨?_, ownsRow_same2 T1.out.1.row fun b hb _ => heap_setCell_ne _ _ _ fun e => T1.out.1.ne (by have e := e; simp only at e; rw [← e]; exact hb.symm)⟩, T1.out.2.1.trans ⟨by simp, fun r _ h2 _ => heap_setCell_ne _ _ _ h2, .inl rfl⟩⟩
    refine (heap_set_eq T1.out.1.o).trans ?_
    simp [thC])
end
section
variable {w w' U : World} {B : MK} {s s1 : KSt} {tb : Nat} {op ov : Value} {t t1 : RTh} {en : Bool}
theorem begin_out {ops : List Op4} {oa : Option Addr} {oc : Nat} (hO : Out6 w B tb (.slice oa ops.length oc) ov en U (s1, t1)) (hT : TAt w tb (.slice oa ops.length oc) t ov en) (hM : MAt w B s) (hr : w.ownsRow 0 47 4 (.slice oa ops.length oc) ops.length (opsC ops)) (hk : t1.k ≤ ops.length) (hol : ops.length ≤ 65536) (hal : t1.ans.length = t1.k) (mp : Value) :
 Calls Try.prog 68 #[mp, .pointer (some ⟨tb, 0, none⟩)] U fun e w' => e = .returned (.tuple #[]) ∧ Out6 w B tb (.slice oa ops.length oc) ov (decide (ops.length ≤ (rbeg ops t1).k)) w' (s1, rbeg ops t1) := by
 obtain ⟨ov1, m1, a1, s1', o1, f1⟩ := hO
 have hr1 : U.ownsRow 0 47 4 (.slice oa ops.length oc) ops.length (opsC ops) := ownsRow_same2 hr fun b hb _ => by
  obtain ⟨c, hc⟩ := own_row_ty hr hb
  obtain ⟨d1, h1, _⟩ := hM.n
  obtain ⟨d2, h2, _⟩ := hM.v
  exact o1 b (alt hc) (heap_ty hc hM.o (by decide)) (heap_ty hc h1 (by decide)) (heap_ty hc h2 (by decide)) (heap_ty hc hT.o (by decide)) (own_type hT.row hc (by decide))
 refine (begin_ref a1 hr1 hk hol hal mp).mono ?_
 rintro e w2 ⟨rfl, ov2, b1, b2⟩
 obtain ⟨d1, h1, _⟩ := m1.n
 obtain ⟨d2, h2, _⟩ := m1.v
 refine ⟨rfl, ov2, m1.same (b2.old _ m1.mlt (heap_ty m1.o a1.o (by decide)) (own_type a1.row m1.o (by decide))) (b2.old _ m1.nlt (heap_ty h1 a1.o (by decide)) (own_type a1.row h1 (by decide))) (b2.old _ m1.vlt (heap_ty h2 a1.o (by decide)) (own_type a1.row h2 (by decide))), b1, Nat.le_trans s1' b2.size, fun r r0 r1 r2 r3 r4 r5 => (b2.old r (by omega) r4 ?_).trans (o1 r r0 r1 r2 r3 r4 r5), ?_⟩
 ·rcases f1 with e | ⟨g, e, hg⟩
  ·rw [e]; exact r5
  ·rw [e]; intro e2; cases e2; omega
 ·rcases b2.fo with e | ⟨g, e, hg⟩
  ·rw [e]; exact f1
  ·exact .inr ⟨g, e, by omega⟩
end
section
variable {w w' : World} {B : MK} {s : KSt} {tb : Nat} {ov : Value} {t : RTh} {en : Bool} {a : Int} {ops : List Op4} {oa : Option Addr} {oc : Nat}
def Out7 (w : World) (B : MK) (tb : Nat) (op ov : Value) (en : Bool) (ops : List Op4) (w' : World) (r : KSt × RTh) : Prop := Out6 w B tb op ov (decide (ops.length ≤ (rbeg ops r.2).k)) w' (r.1, rbeg ops r.2)
section
variable (hM : MAt w B s) (hT : TAt w tb (.slice oa ops.length oc) t ov en) (hr : w.ownsRow 0 47 4 (.slice oa ops.length oc) ops.length (opsC ops)) (hol : ops.length ≤ 65536) (hkl : t.k < ops.length) (hal : t.ans.length = t.k)
include hM hT hr hol hkl hal
theorem st_push (hp : (t.pc : Int) < 20) (hC : Calls Try.prog 94 #[.pointer (some ⟨B.mb, 0, none⟩), .pointer (some ⟨tb, 0, none⟩)] w fun e w' => e = .returned (.tuple #[]) ∧ Out6 w B tb (.slice oa ops.length oc) ov en w' (rstep s t a)) (hk1 : (rstep s t a).2.k ≤ ops.length) (ha1 : (rstep s t a).2.ans.length = (rstep s t a).2.k) :
 Calls Try.prog 73 #[.pointer (some ⟨B.mb, 0, none⟩), .pointer (some ⟨tb, 0, none⟩)] w fun e w' => e = .returned (.tuple #[]) ∧ Out7 w B tb (.slice oa ops.length oc) ov en ops w' (rstep s t a) := by
 have C0 : Aside (Calls Try.prog 94 #[.pointer (some ⟨B.mb, 0, none⟩), .pointer (some ⟨tb, 0, none⟩)] w fun e w' => e = .returned (.tuple #[]) ∧ Out6 w B tb (.slice oa ops.length oc) ov en w' (rstep s t a)) := hC
 have K0 : Aside (TAt w tb (.slice oa ops.length oc) t ov en ∧ MAt w B s ∧ w.ownsRow 0 47 4 (.slice oa ops.length oc) ops.length (opsC ops) ∧ ops.length ≤ 65536 ∧ (rstep s t a).2.k ≤ ops.length ∧ (rstep s t a).2.ans.length = (rstep s t a).2.k) := ⟨hT, hM, hr, hol, hk1, ha1⟩
 have c2 := hT.fx.c2
 clear hM hT hr hol hkl hal hC hk1 ha1
 go_enter Try.func73, Try.ntmps73
 go_wp2_with (first
  | (go_at_call 94; refine C0.out.mono ?_; rintro e u ⟨rfl, hu⟩; have O : Aside (Out6 w B tb (.slice oa ops.length oc) ov en u (rstep s t a)) := hu; clear hu)
  | (go_at_call 68; refine (begin_out O.out K0.out.1 K0.out.2.1 K0.out.2.2.1 K0.out.2.2.2.2.1 K0.out.2.2.2.1 K0.out.2.2.2.2.2 _).mono ?_; rintro e u2 ⟨rfl, hu⟩; have O2 : Aside (Out7 w B tb (.slice oa ops.length oc) ov en ops u2 (rstep s t a)) := hu; clear hu))
 go_end0
 exact ⟨rfl, O2.out⟩
theorem st_pop (hp : ¬ (t.pc : Int) < 20) (hp2 : (t.pc : Int) < 30) (hC : Calls Try.prog 95 #[.pointer (some ⟨B.mb, 0, none⟩), .pointer (some ⟨tb, 0, none⟩)] w fun e w' => e = .returned (.tuple #[]) ∧ Out6 w B tb (.slice oa ops.length oc) ov en w' (rstep s t a)) (hk1 : (rstep s t a).2.k ≤ ops.length) (ha1 : (rstep s t a).2.ans.length = (rstep s t a).2.k) :
 Calls Try.prog 73 #[.pointer (some ⟨B.mb, 0, none⟩), .pointer (some ⟨tb, 0, none⟩)] w fun e w' => e = .returned (.tuple #[]) ∧ Out7 w B tb (.slice oa ops.length oc) ov en ops w' (rstep s t a) := by
 have C0 : Aside (Calls Try.prog 95 #[.pointer (some ⟨B.mb, 0, none⟩), .pointer (some ⟨tb, 0, none⟩)] w fun e w' => e = .returned (.tuple #[]) ∧ Out6 w B tb (.slice oa ops.length oc) ov en w' (rstep s t a)) := hC
 have K0 : Aside (TAt w tb (.slice oa ops.length oc) t ov en ∧ MAt w B s ∧ w.ownsRow 0 47 4 (.slice oa ops.length oc) ops.length (opsC ops) ∧ ops.length ≤ 65536 ∧ (rstep s t a).2.k ≤ ops.length ∧ (rstep s t a).2.ans.length = (rstep s t a).2.k) := ⟨hT, hM, hr, hol, hk1, ha1⟩
 have c2 := hT.fx.c2
 clear hM hT hr hol hkl hal hC hk1 ha1
 go_enter Try.func73, Try.ntmps73
 go_wp2_with (first
  | (go_at_call 95; refine C0.out.mono ?_; rintro e u ⟨rfl, hu⟩; have O : Aside (Out6 w B tb (.slice oa ops.length oc) ov en u (rstep s t a)) := hu; clear hu)
  | (go_at_call 68; refine (begin_out O.out K0.out.1 K0.out.2.1 K0.out.2.2.1 K0.out.2.2.2.2.1 K0.out.2.2.2.1 K0.out.2.2.2.2.2 _).mono ?_; rintro e u2 ⟨rfl, hu⟩; have O2 : Aside (Out7 w B tb (.slice oa ops.length oc) ov en ops u2 (rstep s t a)) := hu; clear hu))
 go_end0
 exact ⟨rfl, O2.out⟩
theorem st30n (hp : t.pc = 30) (hn : s.hd.1 < 0) :
 Calls Try.prog 73 #[.pointer (some ⟨B.mb, 0, none⟩), .pointer (some ⟨tb, 0, none⟩)] w fun e w' => e = .returned (.tuple #[]) ∧ Out7 w B tb (.slice oa ops.length oc) ov en ops w' (rstep s t a) := by
 obtain ⟨k, pc, n0, n1, n2, n3, n4, ans⟩ := t
 obtain ⟨nx, vl, ⟨h1, h2⟩, ⟨f1, f2⟩, tg⟩ := s
 simp only at hp hkl hal
 subst hp
 have M0 : Aside (Mid w B tb ov ans w ⟨nx, vl, (h1, h2), (f1, f2), tg⟩ (thC (.slice oa ops.length oc) ⟨k, 30, n0, n1, n2, n3, n4, ans⟩ ov en)) := Mid.start hM hT
 have K0 : Aside (TAt w tb (.slice oa ops.length oc) ⟨k, 30, n0, n1, n2, n3, n4, ans⟩ ov en ∧ MAt w B ⟨nx, vl, (h1, h2), (f1, f2), tg⟩ ∧ w.ownsRow 0 47 4 (.slice oa ops.length oc) ops.length (opsC ops) ∧ ops.length ≤ 65536 ∧ k < ops.length ∧ ans.length = k) := ⟨hT, hM, hr, hol, hkl, hal⟩
 obtain ⟨c0, c1, c2, c3, c4, c5, c6, c7, c11, c12, c13, z⟩ := hT.fx
 obtain ⟨m0, m1, m2, m3, m4, m5, m6, m7, zm⟩ := hM.fx
 obtain ⟨e1, e2, e3⟩ := M0.out.tm
 have e1' : ¬ B.mb = tb := fun h => e1 h.symm
 have e2' : ¬ B.nb = tb := fun h => e2 h.symm
 have e3' : ¬ B.vb = tb := fun h => e3 h.symm
 have c2 : w.cell? ⟨tb, 2, none⟩ = some (.int .i64 30) := c2
 simp only at c0 c1 c3 c4 c5 c6 c7 c12 c13 m0 m1 m2 m3 m4 m5 m6 m7
 simp only at hn
 have z2 := z 2
 have z3 := z 3
 have z4 := z 4
 clear zm z hM hT hr hol hkl hal c0 c1 c11 c12 c13 m7
 have hR : Aside (rstep ⟨nx, vl, (h1, h2), (f1, f2), tg⟩ ⟨k, 30, n0, n1, n2, n3, n4, ans⟩ a = (⟨nx, vl, (h1, h2), (f1, f2), tg⟩, RTh.fin ⟨k, 31, h1, h2, n2, n3, n4, ans⟩ (false, 0))) := aside (by
  simp [rstep, hn])
 rw [hR.out]
 go_enter Try.func73, Try.ntmps73
 go_wp2
 all_goals go_region
 all_goals go_wp2
 all_goals go_region
 all_goals go_wp2_with (first
  | (go_at_call 93; refine Calls.mono (end_calls (a := (false, 0)) (Mid.at (t := ⟨k, 31, h1, h2, n2, n3, n4, ans⟩) (Mid.heap (((M0.out.st 3 (.int .i64 h1)).st 4 (.int .i64 h2)).st 2 (.int .i64 31)) rfl) rfl) (show ans.length < 100000000 by have := K0.out; omega) (show k < 100000000 by have := K0.out; omega)) ?_; rintro e w2 ⟨rfl, ov2, g1, g2⟩; have G : Aside (Out6 w B tb (.slice oa ops.length oc) ov en w2 (⟨nx, vl, (h1, h2), (f1, f2), tg⟩, RTh.fin ⟨k, 31, h1, h2, n2, n3, n4, ans⟩ (false, 0))) := Mid.fin (t := ⟨k, 31, h1, h2, n2, n3, n4, ans⟩) (by exact Mid.heap (((M0.out.st 3 (.int .i64 h1)).st 4 (.int .i64 h2)).st 2 (.int .i64 31)) rfl) rfl g1 g2; clear g1 g2)
  | (go_at_call 68; refine Calls.mono (begin_out (s1 := ⟨nx, vl, (h1, h2), (f1, f2), tg⟩) (t1 := (RTh.fin ⟨k, 31, h1, h2, n2, n3, n4, ans⟩ (false, 0))) (G.out) K0.out.1 K0.out.2.1 K0.out.2.2.1 (K0.out.2.2.2.2.1) K0.out.2.2.2.1 (by have := K0.out.2.2.2.2.2; simp [RTh.fin]; omega) _) ?_; rintro e u2 ⟨rfl, hu⟩; have O2 : Aside (Out7 w B tb (.slice oa ops.length oc) ov en ops u2 (⟨nx, vl, (h1, h2), (f1, f2), tg⟩, (RTh.fin ⟨k, 31, h1, h2, n2, n3, n4, ans⟩ (false, 0)))) := hu; clear hu))
 all_goals go_end0
 all_goals exact ⟨rfl, O2.out⟩
theorem st30y (hp : t.pc = 30) (hn : ¬ s.hd.1 < 0) :
 Calls Try.prog 73 #[.pointer (some ⟨B.mb, 0, none⟩), .pointer (some ⟨tb, 0, none⟩)] w fun e w' => e = .returned (.tuple #[]) ∧ Out7 w B tb (.slice oa ops.length oc) ov en ops w' (rstep s t a) := by
 obtain ⟨k, pc, n0, n1, n2, n3, n4, ans⟩ := t
 obtain ⟨nx, vl, ⟨h1, h2⟩, ⟨f1, f2⟩, tg⟩ := s
 simp only at hp hkl hal
 subst hp
 have M0 : Aside (Mid w B tb ov ans w ⟨nx, vl, (h1, h2), (f1, f2), tg⟩ (thC (.slice oa ops.length oc) ⟨k, 30, n0, n1, n2, n3, n4, ans⟩ ov en)) := Mid.start hM hT
 have K0 : Aside (TAt w tb (.slice oa ops.length oc) ⟨k, 30, n0, n1, n2, n3, n4, ans⟩ ov en ∧ MAt w B ⟨nx, vl, (h1, h2), (f1, f2), tg⟩ ∧ w.ownsRow 0 47 4 (.slice oa ops.length oc) ops.length (opsC ops) ∧ ops.length ≤ 65536 ∧ k < ops.length ∧ ans.length = k) := ⟨hT, hM, hr, hol, hkl, hal⟩
 obtain ⟨c0, c1, c2, c3, c4, c5, c6, c7, c11, c12, c13, z⟩ := hT.fx
 obtain ⟨m0, m1, m2, m3, m4, m5, m6, m7, zm⟩ := hM.fx
 obtain ⟨e1, e2, e3⟩ := M0.out.tm
 have e1' : ¬ B.mb = tb := fun h => e1 h.symm
 have e2' : ¬ B.nb = tb := fun h => e2 h.symm
 have e3' : ¬ B.vb = tb := fun h => e3 h.symm
 have c2 : w.cell? ⟨tb, 2, none⟩ = some (.int .i64 30) := c2
 simp only at c0 c1 c3 c4 c5 c6 c7 c12 c13 m0 m1 m2 m3 m4 m5 m6 m7
 simp only at hn
 have z2 := z 2
 have z3 := z 3
 have z4 := z 4
 clear zm z hM hT hr hol hkl hal c0 c1 c11 c12 c13 m7
 have hR : Aside (rstep ⟨nx, vl, (h1, h2), (f1, f2), tg⟩ ⟨k, 30, n0, n1, n2, n3, n4, ans⟩ a = (⟨nx, vl, (h1, h2), (f1, f2), tg⟩, ⟨k, 31, h1, h2, n2, n3, n4, ans⟩)) := aside (by
  simp [rstep, hn])
 rw [hR.out]
 go_enter Try.func73, Try.ntmps73
 go_wp2
 all_goals go_region
 all_goals go_wp2
 all_goals go_region
 all_goals go_wp2_with (go_at_call 68; refine Calls.mono (begin_out (s1 := ⟨nx, vl, (h1, h2), (f1, f2), tg⟩) (t1 := ⟨k, 31, h1, h2, n2, n3, n4, ans⟩) (by exact Mid.out (t := ⟨k, 31, h1, h2, n2, n3, n4, ans⟩) (Mid.heap (((M0.out.st 3 (.int .i64 h1)).st 4 (.int .i64 h2)).st 2 (.int .i64 31)) rfl) rfl) K0.out.1 K0.out.2.1 K0.out.2.2.1 (Nat.le_of_lt K0.out.2.2.2.2.1) K0.out.2.2.2.1 K0.out.2.2.2.2.2 _) ?_; rintro e u2 ⟨rfl, hu⟩; have O2 : Aside (Out7 w B tb (.slice oa ops.length oc) ov en ops u2 (⟨nx, vl, (h1, h2), (f1, f2), tg⟩, ⟨k, 31, h1, h2, n2, n3, n4, ans⟩)) := hu; clear hu)
 all_goals go_end0
 all_goals exact ⟨rfl, O2.out⟩
theorem st31 (hp : t.pc = 31) (hn : 0 ≤ t.n0 ∧ t.n0 < s.nx.length) (hW : s.nx.length = s.vl.length) :
 Calls Try.prog 73 #[.pointer (some ⟨B.mb, 0, none⟩), .pointer (some ⟨tb, 0, none⟩)] w fun e w' => e = .returned (.tuple #[]) ∧ Out7 w B tb (.slice oa ops.length oc) ov en ops w' (rstep s t a) := by
 obtain ⟨k, pc, n0, n1, n2, n3, n4, ans⟩ := t
 obtain ⟨nx, vl, ⟨h1, h2⟩, ⟨f1, f2⟩, tg⟩ := s
 simp only at hp hkl hal
 subst hp
 obtain ⟨i, rfl⟩ : ∃ i : Nat, n0 = i := ⟨n0.toNat, by have := hn.1; simp only at this; omega⟩
 have hi : i < vl.length := by have := hn.2; simp only at this hW; omega
 have hi2 : (i : Int) < (vl.length : Int) := by omega
 have M0 : Aside (Mid w B tb ov ans w ⟨nx, vl, (h1, h2), (f1, f2), tg⟩ (thC (.slice oa ops.length oc) ⟨k, 31, (i : Int), n1, n2, n3, n4, ans⟩ ov en)) := Mid.start hM hT
 have K0 : Aside (TAt w tb (.slice oa ops.length oc) ⟨k, 31, (i : Int), n1, n2, n3, n4, ans⟩ ov en ∧ MAt w B ⟨nx, vl, (h1, h2), (f1, f2), tg⟩ ∧ w.ownsRow 0 47 4 (.slice oa ops.length oc) ops.length (opsC ops) ∧ ops.length ≤ 65536 ∧ k < ops.length ∧ ans.length = k) := ⟨hT, hM, hr, hol, hkl, hal⟩
 obtain ⟨c0, c1, c2, c3, c4, c5, c6, c7, c11, c12, c13, z⟩ := hT.fx
 obtain ⟨m0, m1, m2, m3, m4, m5, m6, m7, zm⟩ := hM.fx
 obtain ⟨e1, e2, e3⟩ := M0.out.tm
 have e1' : ¬ B.mb = tb := fun h => e1 h.symm
 have e2' : ¬ B.nb = tb := fun h => e2 h.symm
 have e3' : ¬ B.vb = tb := fun h => e3 h.symm
 have c2 : w.cell? ⟨tb, 2, none⟩ = some (.int .i64 31) := c2
 simp only at c0 c1 c3 c4 c5 c6 c7 c12 c13 m0 m1 m2 m3 m4 m5 m6 m7
 obtain ⟨b0, zb⟩ := hM.vc hi
 simp only at b0
 obtain ⟨nv, hnv⟩ : ∃ nv, vl.getD i 0 = nv := ⟨_, rfl⟩
 rw [hnv] at b0
 have z2 := z 2
 have z6 := z 6
 clear zm z hM hT hr hol hkl hal c0 c1 c11 c12 c13 m7
 have hR : Aside (rstep ⟨nx, vl, (h1, h2), (f1, f2), tg⟩ ⟨k, 31, (i : Int), n1, n2, n3, n4, ans⟩ a = (⟨nx, vl, (h1, h2), (f1, f2), tg⟩, ⟨k, 32, (i : Int), n1, n2, nv, n4, ans⟩)) := aside (by
  simp only [rstep, KSt.val, Int.toNat_natCast, hnv])
 rw [hR.out]
 clear hn zb hnv hW
 go_enter Try.func73, Try.ntmps73
 go_wp2
 all_goals go_region
 all_goals go_wp2_with (go_at_call 68; refine Calls.mono (begin_out (s1 := ⟨nx, vl, (h1, h2), (f1, f2), tg⟩) (t1 := ⟨k, 32, (i : Int), n1, n2, nv, n4, ans⟩) (by exact Mid.out (t := ⟨k, 32, (i : Int), n1, n2, nv, n4, ans⟩) (Mid.heap ((M0.out.st 6 (.int .i64 nv)).st 2 (.int .i64 32)) rfl) rfl) K0.out.1 K0.out.2.1 K0.out.2.2.1 (Nat.le_of_lt K0.out.2.2.2.2.1) K0.out.2.2.2.1 K0.out.2.2.2.2.2 _) ?_; rintro e u2 ⟨rfl, hu⟩; have O2 : Aside (Out7 w B tb (.slice oa ops.length oc) ov en ops u2 (⟨nx, vl, (h1, h2), (f1, f2), tg⟩, ⟨k, 32, (i : Int), n1, n2, nv, n4, ans⟩)) := hu; clear hu)
 all_goals go_end0
 all_goals exact ⟨rfl, O2.out⟩
theorem st32e (hp : t.pc = 32) (hn : s.hd = (t.n0, t.n1)) :
 Calls Try.prog 73 #[.pointer (some ⟨B.mb, 0, none⟩), .pointer (some ⟨tb, 0, none⟩)] w fun e w' => e = .returned (.tuple #[]) ∧ Out7 w B tb (.slice oa ops.length oc) ov en ops w' (rstep s t a) := by
 obtain ⟨k, pc, n0, n1, n2, n3, n4, ans⟩ := t
 obtain ⟨nx, vl, ⟨h1, h2⟩, ⟨f1, f2⟩, tg⟩ := s
 simp only at hp hkl hal
 subst hp
 simp only at hn
 cases hn
 have M0 : Aside (Mid w B tb ov ans w ⟨nx, vl, (n0, n1), (f1, f2), tg⟩ (thC (.slice oa ops.length oc) ⟨k, 32, n0, n1, n2, n3, n4, ans⟩ ov en)) := Mid.start hM hT
 have K0 : Aside (TAt w tb (.slice oa ops.length oc) ⟨k, 32, n0, n1, n2, n3, n4, ans⟩ ov en ∧ MAt w B ⟨nx, vl, (n0, n1), (f1, f2), tg⟩ ∧ w.ownsRow 0 47 4 (.slice oa ops.length oc) ops.length (opsC ops) ∧ ops.length ≤ 65536 ∧ k < ops.length ∧ ans.length = k) := ⟨hT, hM, hr, hol, hkl, hal⟩
 obtain ⟨c0, c1, c2, c3, c4, c5, c6, c7, c11, c12, c13, z⟩ := hT.fx
 obtain ⟨m0, m1, m2, m3, m4, m5, m6, m7, zm⟩ := hM.fx
 obtain ⟨e1, e2, e3⟩ := M0.out.tm
 have e1' : ¬ B.mb = tb := fun h => e1 h.symm
 have e2' : ¬ B.nb = tb := fun h => e2 h.symm
 have e3' : ¬ B.vb = tb := fun h => e3 h.symm
 have c2 : w.cell? ⟨tb, 2, none⟩ = some (.int .i64 32) := c2
 simp only at c0 c1 c3 c4 c5 c6 c7 c12 c13 m0 m1 m2 m3 m4 m5 m6 m7
 have z2 := z 2
 clear zm z hM hT hr hol hkl hal c0 c1 c11 c12 c13 m7
 have hR : Aside (rstep ⟨nx, vl, (n0, n1), (f1, f2), tg⟩ ⟨k, 32, n0, n1, n2, n3, n4, ans⟩ a = (⟨nx, vl, (n0, n1), (f1, f2), tg⟩, RTh.fin ⟨k, 32, n0, n1, n2, n3, n4, ans⟩ (true, n3))) := aside (by
  simp [rstep])
 rw [hR.out]
 go_enter Try.func73, Try.ntmps73
 go_wp2
 go_quiet (fail)
 all_goals go_wp2_with (first
  | (go_at_call 93; refine Calls.mono (end_calls (a := (true, n3)) (Mid.at (t := ⟨k, 32, n0, n1, n2, n3, n4, ans⟩) (Mid.heap M0.out rfl) rfl) (show ans.length < 100000000 by have := K0.out; omega) (show k < 100000000 by have := K0.out; omega)) ?_; rintro e w2 ⟨rfl, ov2, g1, g2⟩; have G : Aside (Out6 w B tb (.slice oa ops.length oc) ov en w2 (⟨nx, vl, (n0, n1), (f1, f2), tg⟩, RTh.fin ⟨k, 32, n0, n1, n2, n3, n4, ans⟩ (true, n3))) := Mid.fin (t := ⟨k, 32, n0, n1, n2, n3, n4, ans⟩) (by exact Mid.heap M0.out rfl) rfl g1 g2; clear g1 g2)
  | (go_at_call 68; refine Calls.mono (begin_out (s1 := ⟨nx, vl, (n0, n1), (f1, f2), tg⟩) (t1 := (RTh.fin ⟨k, 32, n0, n1, n2, n3, n4, ans⟩ (true, n3))) (G.out) K0.out.1 K0.out.2.1 K0.out.2.2.1 (K0.out.2.2.2.2.1) K0.out.2.2.2.1 (by have := K0.out.2.2.2.2.2; simp [RTh.fin]; omega) _) ?_; rintro e u2 ⟨rfl, hu⟩; have O2 : Aside (Out7 w B tb (.slice oa ops.length oc) ov en ops u2 (⟨nx, vl, (n0, n1), (f1, f2), tg⟩, (RTh.fin ⟨k, 32, n0, n1, n2, n3, n4, ans⟩ (true, n3)))) := hu; clear hu))
 all_goals go_end0
 all_goals exact ⟨rfl, O2.out⟩
theorem st32n (hp : t.pc = 32) (hq : ¬ s.hd = (t.n0, t.n1)) (hn : s.hd.1 < 0) :
 Calls Try.prog 73 #[.pointer (some ⟨B.mb, 0, none⟩), .pointer (some ⟨tb, 0, none⟩)] w fun e w' => e = .returned (.tuple #[]) ∧ Out7 w B tb (.slice oa ops.length oc) ov en ops w' (rstep s t a) := by
 obtain ⟨k, pc, n0, n1, n2, n3, n4, ans⟩ := t
 obtain ⟨nx, vl, ⟨h1, h2⟩, ⟨f1, f2⟩, tg⟩ := s
 simp only at hp hkl hal
 subst hp
 have M0 : Aside (Mid w B tb ov ans w ⟨nx, vl, (h1, h2), (f1, f2), tg⟩ (thC (.slice oa ops.length oc) ⟨k, 32, n0, n1, n2, n3, n4, ans⟩ ov en)) := Mid.start hM hT
 have K0 : Aside (TAt w tb (.slice oa ops.length oc) ⟨k, 32, n0, n1, n2, n3, n4, ans⟩ ov en ∧ MAt w B ⟨nx, vl, (h1, h2), (f1, f2), tg⟩ ∧ w.ownsRow 0 47 4 (.slice oa ops.length oc) ops.length (opsC ops) ∧ ops.length ≤ 65536 ∧ k < ops.length ∧ ans.length = k) := ⟨hT, hM, hr, hol, hkl, hal⟩
 obtain ⟨c0, c1, c2, c3, c4, c5, c6, c7, c11, c12, c13, z⟩ := hT.fx
 obtain ⟨m0, m1, m2, m3, m4, m5, m6, m7, zm⟩ := hM.fx
 obtain ⟨e1, e2, e3⟩ := M0.out.tm
 have e1' : ¬ B.mb = tb := fun h => e1 h.symm
 have e2' : ¬ B.nb = tb := fun h => e2 h.symm
 have e3' : ¬ B.vb = tb := fun h => e3 h.symm
 have c2 : w.cell? ⟨tb, 2, none⟩ = some (.int .i64 32) := c2
 simp only at c0 c1 c3 c4 c5 c6 c7 c12 c13 m0 m1 m2 m3 m4 m5 m6 m7
 simp only at hn hq
 have hq2 : ¬ (h1 = n0 ∧ h2 = n1) := fun h => hq (by rw [h.1, h.2])
 have hq3 : ((h1 == n0) && (h2 == n1)) = false := by
  simp only [Bool.and_eq_false_iff, beq_eq_false_iff_ne, ne_eq]
  omega
 have z2 := z 2
 have z3 := z 3
 have z4 := z 4
 clear zm z hM hT hr hol hkl hal c0 c1 c11 c12 c13 m7
 have hR : Aside (rstep ⟨nx, vl, (h1, h2), (f1, f2), tg⟩ ⟨k, 32, n0, n1, n2, n3, n4, ans⟩ a = (⟨nx, vl, (h1, h2), (f1, f2), tg⟩, RTh.fin ⟨k, 31, h1, h2, n2, n3, n4, ans⟩ (false, 0))) := aside (by
  simp [rstep, hn, hq2])
 rw [hR.out]
 by_cases ha : h1 = n0
 ·have hb : ¬ h2 = n1 := fun h => hq2 ⟨ha, h⟩
  clear hq2 hq3
  subst ha
  go_enter Try.func73, Try.ntmps73
  go_wp2
  go_quiet (fail)
  go_wp2
  all_goals go_region
  all_goals go_wp2
  all_goals go_region
  all_goals go_wp2_with (first
   | (go_at_call 93; refine Calls.mono (end_calls (a := (false, 0)) (Mid.at (t := ⟨k, 31, h1, h2, n2, n3, n4, ans⟩) (Mid.heap (((M0.out.st 3 (.int .i64 h1)).st 4 (.int .i64 h2)).st 2 (.int .i64 31)) rfl) rfl) (show ans.length < 100000000 by have := K0.out; omega) (show k < 100000000 by have := K0.out; omega)) ?_; rintro e w2 ⟨rfl, ov2, g1, g2⟩; have G : Aside (Out6 w B tb (.slice oa ops.length oc) ov en w2 (⟨nx, vl, (h1, h2), (f1, f2), tg⟩, RTh.fin ⟨k, 31, h1, h2, n2, n3, n4, ans⟩ (false, 0))) := Mid.fin (t := ⟨k, 31, h1, h2, n2, n3, n4, ans⟩) (by exact Mid.heap (((M0.out.st 3 (.int .i64 h1)).st 4 (.int .i64 h2)).st 2 (.int .i64 31)) rfl) rfl g1 g2; clear g1 g2)
   | (go_at_call 68; refine Calls.mono (begin_out (s1 := ⟨nx, vl, (h1, h2), (f1, f2), tg⟩) (t1 := (RTh.fin ⟨k, 31, h1, h2, n2, n3, n4, ans⟩ (false, 0))) (G.out) K0.out.1 K0.out.2.1 K0.out.2.2.1 (K0.out.2.2.2.2.1) K0.out.2.2.2.1 (by have := K0.out.2.2.2.2.2; simp [RTh.fin]; omega) _) ?_; rintro e u2 ⟨rfl, hu⟩; have O2 : Aside (Out7 w B tb (.slice oa ops.length oc) ov en ops u2 (⟨nx, vl, (h1, h2), (f1, f2), tg⟩, (RTh.fin ⟨k, 31, h1, h2, n2, n3, n4, ans⟩ (false, 0)))) := hu; clear hu))
  all_goals go_end0
  all_goals exact ⟨rfl, O2.out⟩
 ·clear hq2 hq3
  go_enter Try.func73, Try.ntmps73
  go_wp2
  go_quiet (fail)
  go_wp2
  all_goals go_region
  all_goals go_wp2
  all_goals go_region
  all_goals go_wp2_with (first
   | (go_at_call 93; refine Calls.mono (end_calls (a := (false, 0)) (Mid.at (t := ⟨k, 31, h1, h2, n2, n3, n4, ans⟩) (Mid.heap (((M0.out.st 3 (.int .i64 h1)).st 4 (.int .i64 h2)).st 2 (.int .i64 31)) rfl) rfl) (show ans.length < 100000000 by have := K0.out; omega) (show k < 100000000 by have := K0.out; omega)) ?_; rintro e w2 ⟨rfl, ov2, g1, g2⟩; have G : Aside (Out6 w B tb (.slice oa ops.length oc) ov en w2 (⟨nx, vl, (h1, h2), (f1, f2), tg⟩, RTh.fin ⟨k, 31, h1, h2, n2, n3, n4, ans⟩ (false, 0))) := Mid.fin (t := ⟨k, 31, h1, h2, n2, n3, n4, ans⟩) (by exact Mid.heap (((M0.out.st 3 (.int .i64 h1)).st 4 (.int .i64 h2)).st 2 (.int .i64 31)) rfl) rfl g1 g2; clear g1 g2)
   | (go_at_call 68; refine Calls.mono (begin_out (s1 := ⟨nx, vl, (h1, h2), (f1, f2), tg⟩) (t1 := (RTh.fin ⟨k, 31, h1, h2, n2, n3, n4, ans⟩ (false, 0))) (G.out) K0.out.1 K0.out.2.1 K0.out.2.2.1 (K0.out.2.2.2.2.1) K0.out.2.2.2.1 (by have := K0.out.2.2.2.2.2; simp [RTh.fin]; omega) _) ?_; rintro e u2 ⟨rfl, hu⟩; have O2 : Aside (Out7 w B tb (.slice oa ops.length oc) ov en ops u2 (⟨nx, vl, (h1, h2), (f1, f2), tg⟩, (RTh.fin ⟨k, 31, h1, h2, n2, n3, n4, ans⟩ (false, 0)))) := hu; clear hu))
  all_goals go_end0
  all_goals exact ⟨rfl, O2.out⟩
theorem st32y (hp : t.pc = 32) (hq : ¬ s.hd = (t.n0, t.n1)) (hn : ¬ s.hd.1 < 0) :
 Calls Try.prog 73 #[.pointer (some ⟨B.mb, 0, none⟩), .pointer (some ⟨tb, 0, none⟩)] w fun e w' => e = .returned (.tuple #[]) ∧ Out7 w B tb (.slice oa ops.length oc) ov en ops w' (rstep s t a) := by
 obtain ⟨k, pc, n0, n1, n2, n3, n4, ans⟩ := t
 obtain ⟨nx, vl, ⟨h1, h2⟩, ⟨f1, f2⟩, tg⟩ := s
 simp only at hp hkl hal
 subst hp
 have M0 : Aside (Mid w B tb ov ans w ⟨nx, vl, (h1, h2), (f1, f2), tg⟩ (thC (.slice oa ops.length oc) ⟨k, 32, n0, n1, n2, n3, n4, ans⟩ ov en)) := Mid.start hM hT
 have K0 : Aside (TAt w tb (.slice oa ops.length oc) ⟨k, 32, n0, n1, n2, n3, n4, ans⟩ ov en ∧ MAt w B ⟨nx, vl, (h1, h2), (f1, f2), tg⟩ ∧ w.ownsRow 0 47 4 (.slice oa ops.length oc) ops.length (opsC ops) ∧ ops.length ≤ 65536 ∧ k < ops.length ∧ ans.length = k) := ⟨hT, hM, hr, hol, hkl, hal⟩
 obtain ⟨c0, c1, c2, c3, c4, c5, c6, c7, c11, c12, c13, z⟩ := hT.fx
 obtain ⟨m0, m1, m2, m3, m4, m5, m6, m7, zm⟩ := hM.fx
 obtain ⟨e1, e2, e3⟩ := M0.out.tm
 have e1' : ¬ B.mb = tb := fun h => e1 h.symm
 have e2' : ¬ B.nb = tb := fun h => e2 h.symm
 have e3' : ¬ B.vb = tb := fun h => e3 h.symm
 have c2 : w.cell? ⟨tb, 2, none⟩ = some (.int .i64 32) := c2
 simp only at c0 c1 c3 c4 c5 c6 c7 c12 c13 m0 m1 m2 m3 m4 m5 m6 m7
 simp only at hn hq
 have hq2 : ¬ (h1 = n0 ∧ h2 = n1) := fun h => hq (by rw [h.1, h.2])
 have hq3 : ((h1 == n0) && (h2 == n1)) = false := by
  simp only [Bool.and_eq_false_iff, beq_eq_false_iff_ne, ne_eq]
  omega
 have z2 := z 2
 have z3 := z 3
 have z4 := z 4
 clear zm z hM hT hr hol hkl hal c0 c1 c11 c12 c13 m7
 have hR : Aside (rstep ⟨nx, vl, (h1, h2), (f1, f2), tg⟩ ⟨k, 32, n0, n1, n2, n3, n4, ans⟩ a = (⟨nx, vl, (h1, h2), (f1, f2), tg⟩, ⟨k, 31, h1, h2, n2, n3, n4, ans⟩)) := aside (by
  simp [rstep, hn, hq2])
 rw [hR.out]
 by_cases ha : h1 = n0
 ·have hb : ¬ h2 = n1 := fun h => hq2 ⟨ha, h⟩
  clear hq2 hq3
  subst ha
  go_enter Try.func73, Try.ntmps73
  go_wp2
  go_quiet (fail)
  go_wp2
  all_goals go_region
  all_goals go_wp2
  all_goals go_region
  all_goals go_wp2_with (go_at_call 68; refine Calls.mono (begin_out (s1 := ⟨nx, vl, (h1, h2), (f1, f2), tg⟩) (t1 := ⟨k, 31, h1, h2, n2, n3, n4, ans⟩) (by exact Mid.out (t := ⟨k, 31, h1, h2, n2, n3, n4, ans⟩) (Mid.heap (((M0.out.st 3 (.int .i64 h1)).st 4 (.int .i64 h2)).st 2 (.int .i64 31)) rfl) rfl) K0.out.1 K0.out.2.1 K0.out.2.2.1 (Nat.le_of_lt K0.out.2.2.2.2.1) K0.out.2.2.2.1 K0.out.2.2.2.2.2 _) ?_; rintro e u2 ⟨rfl, hu⟩; have O2 : Aside (Out7 w B tb (.slice oa ops.length oc) ov en ops u2 (⟨nx, vl, (h1, h2), (f1, f2), tg⟩, ⟨k, 31, h1, h2, n2, n3, n4, ans⟩)) := hu; clear hu)
  all_goals go_end0
  all_goals exact ⟨rfl, O2.out⟩
 ·clear hq2 hq3
  go_enter Try.func73, Try.ntmps73
  go_wp2
  go_quiet (fail)
  go_wp2
  all_goals go_region
  all_goals go_wp2
  all_goals go_region
  all_goals go_wp2_with (go_at_call 68; refine Calls.mono (begin_out (s1 := ⟨nx, vl, (h1, h2), (f1, f2), tg⟩) (t1 := ⟨k, 31, h1, h2, n2, n3, n4, ans⟩) (by exact Mid.out (t := ⟨k, 31, h1, h2, n2, n3, n4, ans⟩) (Mid.heap (((M0.out.st 3 (.int .i64 h1)).st 4 (.int .i64 h2)).st 2 (.int .i64 31)) rfl) rfl) K0.out.1 K0.out.2.1 K0.out.2.2.1 (Nat.le_of_lt K0.out.2.2.2.2.1) K0.out.2.2.2.1 K0.out.2.2.2.2.2 _) ?_; rintro e u2 ⟨rfl, hu⟩; have O2 : Aside (Out7 w B tb (.slice oa ops.length oc) ov en ops u2 (⟨nx, vl, (h1, h2), (f1, f2), tg⟩, ⟨k, 31, h1, h2, n2, n3, n4, ans⟩)) := hu; clear hu)
  all_goals go_end0
  all_goals exact ⟨rfl, O2.out⟩
theorem st40 (hp : t.pc = 40)  :
 Calls Try.prog 73 #[.pointer (some ⟨B.mb, 0, none⟩), .pointer (some ⟨tb, 0, none⟩)] w fun e w' => e = .returned (.tuple #[]) ∧ Out7 w B tb (.slice oa ops.length oc) ov en ops w' (rstep s t a) := by
 obtain ⟨k, pc, n0, n1, n2, n3, n4, ans⟩ := t
 obtain ⟨nx, vl, ⟨h1, h2⟩, ⟨f1, f2⟩, tg⟩ := s
 simp only at hp hkl hal
 subst hp
 have M0 : Aside (Mid w B tb ov ans w ⟨nx, vl, (h1, h2), (f1, f2), tg⟩ (thC (.slice oa ops.length oc) ⟨k, 40, n0, n1, n2, n3, n4, ans⟩ ov en)) := Mid.start hM hT
 have K0 : Aside (TAt w tb (.slice oa ops.length oc) ⟨k, 40, n0, n1, n2, n3, n4, ans⟩ ov en ∧ MAt w B ⟨nx, vl, (h1, h2), (f1, f2), tg⟩ ∧ w.ownsRow 0 47 4 (.slice oa ops.length oc) ops.length (opsC ops) ∧ ops.length ≤ 65536 ∧ k < ops.length ∧ ans.length = k) := ⟨hT, hM, hr, hol, hkl, hal⟩
 obtain ⟨c0, c1, c2, c3, c4, c5, c6, c7, c11, c12, c13, z⟩ := hT.fx
 obtain ⟨m0, m1, m2, m3, m4, m5, m6, m7, zm⟩ := hM.fx
 obtain ⟨e1, e2, e3⟩ := M0.out.tm
 have e1' : ¬ B.mb = tb := fun h => e1 h.symm
 have e2' : ¬ B.nb = tb := fun h => e2 h.symm
 have e3' : ¬ B.vb = tb := fun h => e3 h.symm
 have c2 : w.cell? ⟨tb, 2, none⟩ = some (.int .i64 40) := c2
 simp only at c0 c1 c3 c4 c5 c6 c7 c12 c13 m0 m1 m2 m3 m4 m5 m6 m7
 have z2 := z 2
 clear zm z hM hT hr hol hkl hal c0 c1 c11 c12 c13 m7
 have hR : Aside (rstep ⟨nx, vl, (h1, h2), (f1, f2), tg⟩ ⟨k, 40, n0, n1, n2, n3, n4, ans⟩ a = (⟨nx, vl, (h1, h2), (f1, f2), tg⟩, RTh.fin ⟨k, 40, n0, n1, n2, n3, n4, ans⟩ (decide (h1 < 0), 0))) := aside (by
  simp [rstep])
 rw [hR.out]
 go_enter Try.func73, Try.ntmps73
 all_goals go_wp2_with (first
  | (go_at_call 93; refine Calls.mono (end_calls (a := (decide (h1 < 0), 0)) (Mid.at (t := ⟨k, 40, n0, n1, n2, n3, n4, ans⟩) (Mid.heap M0.out rfl) rfl) (show ans.length < 100000000 by have := K0.out; omega) (show k < 100000000 by have := K0.out; omega)) ?_; rintro e w2 ⟨rfl, ov2, g1, g2⟩; have G : Aside (Out6 w B tb (.slice oa ops.length oc) ov en w2 (⟨nx, vl, (h1, h2), (f1, f2), tg⟩, RTh.fin ⟨k, 40, n0, n1, n2, n3, n4, ans⟩ (decide (h1 < 0), 0))) := Mid.fin (t := ⟨k, 40, n0, n1, n2, n3, n4, ans⟩) (by exact Mid.heap M0.out rfl) rfl g1 g2; clear g1 g2)
  | (go_at_call 68; refine Calls.mono (begin_out (s1 := ⟨nx, vl, (h1, h2), (f1, f2), tg⟩) (t1 := (RTh.fin ⟨k, 40, n0, n1, n2, n3, n4, ans⟩ (decide (h1 < 0), 0))) (G.out) K0.out.1 K0.out.2.1 K0.out.2.2.1 (K0.out.2.2.2.2.1) K0.out.2.2.2.1 (by have := K0.out.2.2.2.2.2; simp [RTh.fin]; omega) _) ?_; rintro e u2 ⟨rfl, hu⟩; have O2 : Aside (Out7 w B tb (.slice oa ops.length oc) ov en ops u2 (⟨nx, vl, (h1, h2), (f1, f2), tg⟩, (RTh.fin ⟨k, 40, n0, n1, n2, n3, n4, ans⟩ (decide (h1 < 0), 0)))) := hu; clear hu))
 all_goals go_end0
 all_goals exact ⟨rfl, O2.out⟩
end
end
section
variable {w w' : World} {B : MK} {s : KSt} {tb : Nat} {op ov : Value} {t : RTh} {en : Bool} {a : Int}
theorem turn_fr {w U : World} {xs : List (Bool × Int)} {A : Array Value} {n0 n1 to : Int} (M : Mid w B tb ov xs U s A) (hW : KWf s) : ∃ (eq : Bool) (s' : KSt), (match s.turn s.fr n0 n1 to with | some f => eq = true ∧ s' = { s with fr := f } | none => eq = false ∧ s' = s) ∧
 ∀ W : World, W.heap = U.heap → Calls Try.prog 109 #[.pointer (some ⟨B.mb, 0, none⟩), .pointer (some ⟨B.mb, 4, none⟩), .int .i64 n0, .int .i64 n1, .int .i64 to] W fun e w' => e = .returned (.bool eq) ∧ Mid w B tb ov xs w' s' A := by
 obtain ⟨nx, vl, ⟨h1, h2⟩, ⟨f1, f2⟩, tg⟩ := s
 by_cases hn : (f1, f2) = (n0, n1)
 ·cases hn
  cases tg with
  | true =>
    refine ⟨true, ⟨nx, vl, (h1, h2), (to, (n1 + 1) % 2147483648), true⟩, by simp [KSt.turn], fun W hh => ?_⟩
    have M2 := M.heap hh
    have g := M2.m.fx
    refine (rturn_tg (.inr rfl) hW.fr.2.2 g.m4 g.m5 (g.z 4) (g.z 5) g.m6).mono fun e w' h => ⟨h.1, ((M2.mst (s' := ⟨nx, vl, (h1, h2), (to, n1), true⟩) 4 (.int .i64 to) rfl rfl rfl).mst (s' := ⟨nx, vl, (h1, h2), (to, (n1 + 1) % 2147483648), true⟩) 5 (.int .i64 ((n1 + 1) % 2147483648)) rfl rfl rfl).heap h.2⟩
  | false =>
    have h0 : n1 = 0 := (hW.tg rfl).2
    subst h0
    refine ⟨true, ⟨nx, vl, (h1, h2), (to, 0), false⟩, by simp [KSt.turn], fun W hh => ?_⟩
    have M2 := M.heap hh
    have g := M2.m.fx
    refine (rturn_un (.inr rfl) g.m4 g.m5 (g.z 4) g.m6).mono fun e w' h => ⟨h.1, (M2.mst (s' := ⟨nx, vl, (h1, h2), (to, 0), false⟩) 4 (.int .i64 to) rfl rfl rfl).heap h.2⟩
 ·refine ⟨false, ⟨nx, vl, (h1, h2), (f1, f2), tg⟩, by simp only [KSt.turn, if_neg hn]; exact ⟨trivial, trivial⟩, fun W hh => ?_⟩
  have M2 := M.heap hh
  have g := M2.m.fx
  exact (rturn_no (.inr rfl) g.m4 g.m5 hn).mono fun e w' h => ⟨h.1, M2.heap h.2⟩
theorem turn_hd {w U : World} {xs : List (Bool × Int)} {A : Array Value} {n0 n1 to : Int} (M : Mid w B tb ov xs U s A) (hW : KWf s) : ∃ (eq : Bool) (s' : KSt), (match s.turn s.hd n0 n1 to with | some f => eq = true ∧ s' = { s with hd := f } | none => eq = false ∧ s' = s) ∧
 ∀ W : World, W.heap = U.heap → Calls Try.prog 109 #[.pointer (some ⟨B.mb, 0, none⟩), .pointer (some ⟨B.mb, 2, none⟩), .int .i64 n0, .int .i64 n1, .int .i64 to] W fun e w' => e = .returned (.bool eq) ∧ Mid w B tb ov xs w' s' A := by
 obtain ⟨nx, vl, ⟨h1, h2⟩, ⟨f1, f2⟩, tg⟩ := s
 by_cases hn : (h1, h2) = (n0, n1)
 ·cases hn
  cases tg with
  | true =>
    refine ⟨true, ⟨nx, vl, (to, (n1 + 1) % 2147483648), (f1, f2), true⟩, by simp [KSt.turn], fun W hh => ?_⟩
    have M2 := M.heap hh
    have g := M2.m.fx
    refine (rturn_tg (.inl rfl) hW.hd.2.2 g.m2 g.m3 (g.z 2) (g.z 3) g.m6).mono fun e w' h => ⟨h.1, ((M2.mst (s' := ⟨nx, vl, (to, n1), (f1, f2), true⟩) 2 (.int .i64 to) rfl rfl rfl).mst (s' := ⟨nx, vl, (to, (n1 + 1) % 2147483648), (f1, f2), true⟩) 3 (.int .i64 ((n1 + 1) % 2147483648)) rfl rfl rfl).heap h.2⟩
  | false =>
    have h0 : n1 = 0 := (hW.tg rfl).1
    subst h0
    refine ⟨true, ⟨nx, vl, (to, 0), (f1, f2), false⟩, by simp [KSt.turn], fun W hh => ?_⟩
    have M2 := M.heap hh
    have g := M2.m.fx
    refine (rturn_un (.inl rfl) g.m2 g.m3 (g.z 2) g.m6).mono fun e w' h => ⟨h.1, (M2.mst (s' := ⟨nx, vl, (to, 0), (f1, f2), false⟩) 2 (.int .i64 to) rfl rfl rfl).heap h.2⟩
 ·refine ⟨false, ⟨nx, vl, (h1, h2), (f1, f2), tg⟩, by simp only [KSt.turn, if_neg hn]; exact ⟨trivial, trivial⟩, fun W hh => ?_⟩
  have M2 := M.heap hh
  have g := M2.m.fx
  exact (rturn_no (.inl rfl) g.m2 g.m3 hn).mono fun e w' h => ⟨h.1, M2.heap h.2⟩
section
variable (hM : MAt w B s) (hT : TAt w tb op t ov en) (hW : KWf s) (hl : t.ans.length < 100000000) (hk : t.k < 100000000)
include hM hT hW hl hk
theorem pu10n (hp : t.pc = 10) (hn : s.fr.1 < 0) :
 Calls Try.prog 94 #[.pointer (some ⟨B.mb, 0, none⟩), .pointer (some ⟨tb, 0, none⟩)] w fun e w' => e = .returned (.tuple #[]) ∧ Out6 w B tb op ov en w' (rstep s t a) := by
 obtain ⟨k, pc, n0, n1, n2, n3, n4, ans⟩ := t
 obtain ⟨nx, vl, ⟨h1, h2⟩, ⟨f1, f2⟩, tg⟩ := s
 simp only at hp hl hk
 subst hp
 have M0 : Aside (Mid w B tb ov ans w ⟨nx, vl, (h1, h2), (f1, f2), tg⟩ (thC op ⟨k, 10, n0, n1, n2, n3, n4, ans⟩ ov en)) := Mid.start hM hT
 obtain ⟨c0, c1, c2, c3, c4, c5, c6, c7, c11, c12, c13, z⟩ := hT.fx
 obtain ⟨m0, m1, m2, m3, m4, m5, m6, m7, zm⟩ := hM.fx
 obtain ⟨e1, e2, e3⟩ := M0.out.tm
 have e1' : ¬ B.mb = tb := fun h => e1 h.symm
 have e2' : ¬ B.nb = tb := fun h => e2 h.symm
 have e3' : ¬ B.vb = tb := fun h => e3 h.symm
 have c2 : w.cell? ⟨tb, 2, none⟩ = some (.int .i64 10) := c2
 simp only at c0 c1 c3 c4 c5 c6 c7 c12 c13 m0 m1 m2 m3 m4 m5 m6 m7
 simp only at hn
 have z2 := z 2
 have z3 := z 3
 have z4 := z 4
 clear zm z hM hT c0 c1 c11 c12 c13 m7
 have hR : Aside (rstep ⟨nx, vl, (h1, h2), (f1, f2), tg⟩ ⟨k, 10, n0, n1, n2, n3, n4, ans⟩ a = (⟨nx, vl, (h1, h2), (f1, f2), tg⟩, (RTh.fin ⟨k, 11, f1, f2, n2, n3, n4, ans⟩ (false, 0)))) := aside (by
  simp [rstep, hn])
 go_enter Try.func94, Try.ntmps94
 go_wp2
 all_goals go_region
 all_goals go_wp2
 all_goals go_region
 all_goals go_wp2_with (go_at_call 93; refine Calls.mono (end_calls (a := (false, 0)) (Mid.at (t := ⟨k, 11, f1, f2, n2, n3, n4, ans⟩) (Mid.heap (((M0.out.st 3 (.int .i64 f1)).st 4 (.int .i64 f2)).st 2 (.int .i64 11)) rfl) rfl) hl hk) ?_; rintro e w2 ⟨rfl, ov2, g1, g2⟩; have G : Aside (TAt w2 tb op (RTh.fin ⟨k, 11, f1, f2, n2, n3, n4, ans⟩ (false, 0)) ov2 en ∧ Kpt _ w2 tb ov ov2) := ⟨g1, g2⟩; clear g1 g2)
 all_goals go_end0
 all_goals (
  rw [hR.out]
  exact ⟨rfl, Mid.fin (t := ⟨k, 11, f1, f2, n2, n3, n4, ans⟩) (by exact Mid.heap (((M0.out.st 3 (.int .i64 f1)).st 4 (.int .i64 f2)).st 2 (.int .i64 11)) rfl) rfl G.out.1 G.out.2⟩)
theorem pu10y (hp : t.pc = 10) (hn : ¬ s.fr.1 < 0) :
 Calls Try.prog 94 #[.pointer (some ⟨B.mb, 0, none⟩), .pointer (some ⟨tb, 0, none⟩)] w fun e w' => e = .returned (.tuple #[]) ∧ Out6 w B tb op ov en w' (rstep s t a) := by
 obtain ⟨k, pc, n0, n1, n2, n3, n4, ans⟩ := t
 obtain ⟨nx, vl, ⟨h1, h2⟩, ⟨f1, f2⟩, tg⟩ := s
 simp only at hp hl hk
 subst hp
 have M0 : Aside (Mid w B tb ov ans w ⟨nx, vl, (h1, h2), (f1, f2), tg⟩ (thC op ⟨k, 10, n0, n1, n2, n3, n4, ans⟩ ov en)) := Mid.start hM hT
 obtain ⟨c0, c1, c2, c3, c4, c5, c6, c7, c11, c12, c13, z⟩ := hT.fx
 obtain ⟨m0, m1, m2, m3, m4, m5, m6, m7, zm⟩ := hM.fx
 obtain ⟨e1, e2, e3⟩ := M0.out.tm
 have e1' : ¬ B.mb = tb := fun h => e1 h.symm
 have e2' : ¬ B.nb = tb := fun h => e2 h.symm
 have e3' : ¬ B.vb = tb := fun h => e3 h.symm
 have c2 : w.cell? ⟨tb, 2, none⟩ = some (.int .i64 10) := c2
 simp only at c0 c1 c3 c4 c5 c6 c7 c12 c13 m0 m1 m2 m3 m4 m5 m6 m7
 simp only at hn
 have z2 := z 2
 have z3 := z 3
 have z4 := z 4
 clear zm z hM hT c0 c1 c11 c12 c13 m7
 have hR : Aside (rstep ⟨nx, vl, (h1, h2), (f1, f2), tg⟩ ⟨k, 10, n0, n1, n2, n3, n4, ans⟩ a = (⟨nx, vl, (h1, h2), (f1, f2), tg⟩, ⟨k, 11, f1, f2, n2, n3, n4, ans⟩)) := aside (by
  simp [rstep, hn])
 go_enter Try.func94, Try.ntmps94
 go_wp2
 all_goals go_region
 all_goals go_wp2
 all_goals go_region
 all_goals go_wp2
 all_goals go_end0
 all_goals (
  rw [hR.out]
  exact ⟨rfl, Mid.out (t := ⟨k, 11, f1, f2, n2, n3, n4, ans⟩) (Mid.heap (((M0.out.st 3 (.int .i64 f1)).st 4 (.int .i64 f2)).st 2 (.int .i64 11)) rfl) rfl⟩)
theorem pu14 (hp : t.pc = 14)  :
 Calls Try.prog 94 #[.pointer (some ⟨B.mb, 0, none⟩), .pointer (some ⟨tb, 0, none⟩)] w fun e w' => e = .returned (.tuple #[]) ∧ Out6 w B tb op ov en w' (rstep s t a) := by
 obtain ⟨k, pc, n0, n1, n2, n3, n4, ans⟩ := t
 obtain ⟨nx, vl, ⟨h1, h2⟩, ⟨f1, f2⟩, tg⟩ := s
 simp only at hp hl hk
 subst hp
 have M0 : Aside (Mid w B tb ov ans w ⟨nx, vl, (h1, h2), (f1, f2), tg⟩ (thC op ⟨k, 14, n0, n1, n2, n3, n4, ans⟩ ov en)) := Mid.start hM hT
 obtain ⟨c0, c1, c2, c3, c4, c5, c6, c7, c11, c12, c13, z⟩ := hT.fx
 obtain ⟨m0, m1, m2, m3, m4, m5, m6, m7, zm⟩ := hM.fx
 obtain ⟨e1, e2, e3⟩ := M0.out.tm
 have e1' : ¬ B.mb = tb := fun h => e1 h.symm
 have e2' : ¬ B.nb = tb := fun h => e2 h.symm
 have e3' : ¬ B.vb = tb := fun h => e3 h.symm
 have c2 : w.cell? ⟨tb, 2, none⟩ = some (.int .i64 14) := c2
 simp only at c0 c1 c3 c4 c5 c6 c7 c12 c13 m0 m1 m2 m3 m4 m5 m6 m7
 have z2 := z 2
 have z3 := z 3
 have z4 := z 4
 clear zm z hM hT c0 c1 c11 c12 c13 m7
 have hR : Aside (rstep ⟨nx, vl, (h1, h2), (f1, f2), tg⟩ ⟨k, 14, n0, n1, n2, n3, n4, ans⟩ a = (⟨nx, vl, (h1, h2), (f1, f2), tg⟩, ⟨k, 15, h1, h2, n2, n3, n4, ans⟩)) := aside (by
  simp [rstep])
 go_enter Try.func94, Try.ntmps94
 go_wp2
 all_goals go_region
 all_goals go_wp2
 all_goals go_region
 all_goals go_wp2
 all_goals go_end0
 all_goals (
  rw [hR.out]
  exact ⟨rfl, Mid.out (t := ⟨k, 15, h1, h2, n2, n3, n4, ans⟩) (Mid.heap (((M0.out.st 3 (.int .i64 h1)).st 4 (.int .i64 h2)).st 2 (.int .i64 15)) rfl) rfl⟩)
theorem po20n (hp : t.pc = 20) (hn : s.hd.1 < 0) :
 Calls Try.prog 95 #[.pointer (some ⟨B.mb, 0, none⟩), .pointer (some ⟨tb, 0, none⟩)] w fun e w' => e = .returned (.tuple #[]) ∧ Out6 w B tb op ov en w' (rstep s t a) := by
 obtain ⟨k, pc, n0, n1, n2, n3, n4, ans⟩ := t
 obtain ⟨nx, vl, ⟨h1, h2⟩, ⟨f1, f2⟩, tg⟩ := s
 simp only at hp hl hk
 subst hp
 have M0 : Aside (Mid w B tb ov ans w ⟨nx, vl, (h1, h2), (f1, f2), tg⟩ (thC op ⟨k, 20, n0, n1, n2, n3, n4, ans⟩ ov en)) := Mid.start hM hT
 obtain ⟨c0, c1, c2, c3, c4, c5, c6, c7, c11, c12, c13, z⟩ := hT.fx
 obtain ⟨m0, m1, m2, m3, m4, m5, m6, m7, zm⟩ := hM.fx
 obtain ⟨e1, e2, e3⟩ := M0.out.tm
 have e1' : ¬ B.mb = tb := fun h => e1 h.symm
 have e2' : ¬ B.nb = tb := fun h => e2 h.symm
 have e3' : ¬ B.vb = tb := fun h => e3 h.symm
 have c2 : w.cell? ⟨tb, 2, none⟩ = some (.int .i64 20) := c2
 simp only at c0 c1 c3 c4 c5 c6 c7 c12 c13 m0 m1 m2 m3 m4 m5 m6 m7
 simp only at hn
 have z2 := z 2
 have z3 := z 3
 have z4 := z 4
 clear zm z hM hT c0 c1 c11 c12 c13 m7
 have hR : Aside (rstep ⟨nx, vl, (h1, h2), (f1, f2), tg⟩ ⟨k, 20, n0, n1, n2, n3, n4, ans⟩ a = (⟨nx, vl, (h1, h2), (f1, f2), tg⟩, (RTh.fin ⟨k, 21, h1, h2, n2, n3, n4, ans⟩ (false, 0)))) := aside (by
  simp [rstep, hn])
 go_enter Try.func95, Try.ntmps95
 go_wp2
 all_goals go_region
 all_goals go_wp2
 all_goals go_region
 all_goals go_wp2_with (go_at_call 93; refine Calls.mono (end_calls (a := (false, 0)) (Mid.at (t := ⟨k, 21, h1, h2, n2, n3, n4, ans⟩) (Mid.heap (((M0.out.st 3 (.int .i64 h1)).st 4 (.int .i64 h2)).st 2 (.int .i64 21)) rfl) rfl) hl hk) ?_; rintro e w2 ⟨rfl, ov2, g1, g2⟩; have G : Aside (TAt w2 tb op (RTh.fin ⟨k, 21, h1, h2, n2, n3, n4, ans⟩ (false, 0)) ov2 en ∧ Kpt _ w2 tb ov ov2) := ⟨g1, g2⟩; clear g1 g2)
 all_goals go_end0
 all_goals (
  rw [hR.out]
  exact ⟨rfl, Mid.fin (t := ⟨k, 21, h1, h2, n2, n3, n4, ans⟩) (by exact Mid.heap (((M0.out.st 3 (.int .i64 h1)).st 4 (.int .i64 h2)).st 2 (.int .i64 21)) rfl) rfl G.out.1 G.out.2⟩)
theorem po20y (hp : t.pc = 20) (hn : ¬ s.hd.1 < 0) :
 Calls Try.prog 95 #[.pointer (some ⟨B.mb, 0, none⟩), .pointer (some ⟨tb, 0, none⟩)] w fun e w' => e = .returned (.tuple #[]) ∧ Out6 w B tb op ov en w' (rstep s t a) := by
 obtain ⟨k, pc, n0, n1, n2, n3, n4, ans⟩ := t
 obtain ⟨nx, vl, ⟨h1, h2⟩, ⟨f1, f2⟩, tg⟩ := s
 simp only at hp hl hk
 subst hp
 have M0 : Aside (Mid w B tb ov ans w ⟨nx, vl, (h1, h2), (f1, f2), tg⟩ (thC op ⟨k, 20, n0, n1, n2, n3, n4, ans⟩ ov en)) := Mid.start hM hT
 obtain ⟨c0, c1, c2, c3, c4, c5, c6, c7, c11, c12, c13, z⟩ := hT.fx
 obtain ⟨m0, m1, m2, m3, m4, m5, m6, m7, zm⟩ := hM.fx
 obtain ⟨e1, e2, e3⟩ := M0.out.tm
 have e1' : ¬ B.mb = tb := fun h => e1 h.symm
 have e2' : ¬ B.nb = tb := fun h => e2 h.symm
 have e3' : ¬ B.vb = tb := fun h => e3 h.symm
 have c2 : w.cell? ⟨tb, 2, none⟩ = some (.int .i64 20) := c2
 simp only at c0 c1 c3 c4 c5 c6 c7 c12 c13 m0 m1 m2 m3 m4 m5 m6 m7
 simp only at hn
 have z2 := z 2
 have z3 := z 3
 have z4 := z 4
 clear zm z hM hT c0 c1 c11 c12 c13 m7
 have hR : Aside (rstep ⟨nx, vl, (h1, h2), (f1, f2), tg⟩ ⟨k, 20, n0, n1, n2, n3, n4, ans⟩ a = (⟨nx, vl, (h1, h2), (f1, f2), tg⟩, ⟨k, 21, h1, h2, n2, n3, n4, ans⟩)) := aside (by
  simp [rstep, hn])
 go_enter Try.func95, Try.ntmps95
 go_wp2
 all_goals go_region
 all_goals go_wp2
 all_goals go_region
 all_goals go_wp2
 all_goals go_end0
 all_goals (
  rw [hR.out]
  exact ⟨rfl, Mid.out (t := ⟨k, 21, h1, h2, n2, n3, n4, ans⟩) (Mid.heap (((M0.out.st 3 (.int .i64 h1)).st 4 (.int .i64 h2)).st 2 (.int .i64 21)) rfl) rfl⟩)
theorem po24 (hp : t.pc = 24)  :
 Calls Try.prog 95 #[.pointer (some ⟨B.mb, 0, none⟩), .pointer (some ⟨tb, 0, none⟩)] w fun e w' => e = .returned (.tuple #[]) ∧ Out6 w B tb op ov en w' (rstep s t a) := by
 obtain ⟨k, pc, n0, n1, n2, n3, n4, ans⟩ := t
 obtain ⟨nx, vl, ⟨h1, h2⟩, ⟨f1, f2⟩, tg⟩ := s
 simp only at hp hl hk
 subst hp
 have M0 : Aside (Mid w B tb ov ans w ⟨nx, vl, (h1, h2), (f1, f2), tg⟩ (thC op ⟨k, 24, n0, n1, n2, n3, n4, ans⟩ ov en)) := Mid.start hM hT
 obtain ⟨c0, c1, c2, c3, c4, c5, c6, c7, c11, c12, c13, z⟩ := hT.fx
 obtain ⟨m0, m1, m2, m3, m4, m5, m6, m7, zm⟩ := hM.fx
 obtain ⟨e1, e2, e3⟩ := M0.out.tm
 have e1' : ¬ B.mb = tb := fun h => e1 h.symm
 have e2' : ¬ B.nb = tb := fun h => e2 h.symm
 have e3' : ¬ B.vb = tb := fun h => e3 h.symm
 have c2 : w.cell? ⟨tb, 2, none⟩ = some (.int .i64 24) := c2
 simp only at c0 c1 c3 c4 c5 c6 c7 c12 c13 m0 m1 m2 m3 m4 m5 m6 m7
 have z2 := z 2
 have z3 := z 3
 have z4 := z 4
 clear zm z hM hT c0 c1 c11 c12 c13 m7
 have hR : Aside (rstep ⟨nx, vl, (h1, h2), (f1, f2), tg⟩ ⟨k, 24, n0, n1, n2, n3, n4, ans⟩ a = (⟨nx, vl, (h1, h2), (f1, f2), tg⟩, ⟨k, 25, f1, f2, n2, n3, n4, ans⟩)) := aside (by
  simp [rstep])
 go_enter Try.func95, Try.ntmps95
 go_wp2
 all_goals go_region
 all_goals go_wp2
 all_goals go_region
 all_goals go_wp2
 all_goals go_end0
 all_goals (
  rw [hR.out]
  exact ⟨rfl, Mid.out (t := ⟨k, 25, f1, f2, n2, n3, n4, ans⟩) (Mid.heap (((M0.out.st 3 (.int .i64 f1)).st 4 (.int .i64 f2)).st 2 (.int .i64 25)) rfl) rfl⟩)
theorem pu11 (hp : t.pc = 11) (hn : 0 ≤ t.n0 ∧ t.n0 < s.nx.length) :
 Calls Try.prog 94 #[.pointer (some ⟨B.mb, 0, none⟩), .pointer (some ⟨tb, 0, none⟩)] w fun e w' => e = .returned (.tuple #[]) ∧ Out6 w B tb op ov en w' (rstep s t a) := by
 obtain ⟨k, pc, n0, n1, n2, n3, n4, ans⟩ := t
 obtain ⟨nx, vl, ⟨h1, h2⟩, ⟨f1, f2⟩, tg⟩ := s
 simp only at hp hl hk
 subst hp
 have M0 : Aside (Mid w B tb ov ans w ⟨nx, vl, (h1, h2), (f1, f2), tg⟩ (thC op ⟨k, 11, n0, n1, n2, n3, n4, ans⟩ ov en)) := Mid.start hM hT
 obtain ⟨c0, c1, c2, c3, c4, c5, c6, c7, c11, c12, c13, z⟩ := hT.fx
 obtain ⟨m0, m1, m2, m3, m4, m5, m6, m7, zm⟩ := hM.fx
 obtain ⟨e1, e2, e3⟩ := M0.out.tm
 have e1' : ¬ B.mb = tb := fun h => e1 h.symm
 have e2' : ¬ B.nb = tb := fun h => e2 h.symm
 have e3' : ¬ B.vb = tb := fun h => e3 h.symm
 have c2 : w.cell? ⟨tb, 2, none⟩ = some (.int .i64 11) := c2
 simp only at c0 c1 c3 c4 c5 c6 c7 c12 c13 m0 m1 m2 m3 m4 m5 m6 m7
 obtain ⟨i, rfl⟩ : ∃ i : Nat, n0 = i := ⟨n0.toNat, by have := hn.1; simp only at this; omega⟩
 have hi : i < nx.length := by have := hn.2; simp only at this; omega
 have hi2 : (i : Int) < (nx.length : Int) := by omega
 obtain ⟨b0, zb⟩ := hM.nc hi
 simp only at b0
 obtain ⟨nv, hnv⟩ : ∃ nv, nx.getD i 0 = nv := ⟨_, rfl⟩
 rw [hnv] at b0
 have z2 := z 2
 have z5 := z 5
 clear zm z hM hT c0 c1 c11 c12 c13 m7
 have hR : Aside (rstep ⟨nx, vl, (h1, h2), (f1, f2), tg⟩ ⟨k, 11, (i : Int), n1, n2, n3, n4, ans⟩ a = (⟨nx, vl, (h1, h2), (f1, f2), tg⟩, ⟨k, 12, (i : Int), n1, nv, n3, n4, ans⟩)) := aside (by
  simp only [rstep, KSt.nxt, Int.toNat_natCast, hnv])
 clear hn zb hnv
 go_enter Try.func94, Try.ntmps94
 go_wp2
 all_goals go_region
 all_goals go_wp2
 all_goals go_end0
 all_goals (
  rw [hR.out]
  exact ⟨rfl, Mid.out (t := ⟨k, 12, (i : Int), n1, nv, n3, n4, ans⟩) (Mid.heap ((M0.out.st 5 (.int .i64 nv)).st 2 (.int .i64 12)) rfl) rfl⟩)
theorem po21 (hp : t.pc = 21) (hn : 0 ≤ t.n0 ∧ t.n0 < s.nx.length) :
 Calls Try.prog 95 #[.pointer (some ⟨B.mb, 0, none⟩), .pointer (some ⟨tb, 0, none⟩)] w fun e w' => e = .returned (.tuple #[]) ∧ Out6 w B tb op ov en w' (rstep s t a) := by
 obtain ⟨k, pc, n0, n1, n2, n3, n4, ans⟩ := t
 obtain ⟨nx, vl, ⟨h1, h2⟩, ⟨f1, f2⟩, tg⟩ := s
 simp only at hp hl hk
 subst hp
 have M0 : Aside (Mid w B tb ov ans w ⟨nx, vl, (h1, h2), (f1, f2), tg⟩ (thC op ⟨k, 21, n0, n1, n2, n3, n4, ans⟩ ov en)) := Mid.start hM hT
 obtain ⟨c0, c1, c2, c3, c4, c5, c6, c7, c11, c12, c13, z⟩ := hT.fx
 obtain ⟨m0, m1, m2, m3, m4, m5, m6, m7, zm⟩ := hM.fx
 obtain ⟨e1, e2, e3⟩ := M0.out.tm
 have e1' : ¬ B.mb = tb := fun h => e1 h.symm
 have e2' : ¬ B.nb = tb := fun h => e2 h.symm
 have e3' : ¬ B.vb = tb := fun h => e3 h.symm
 have c2 : w.cell? ⟨tb, 2, none⟩ = some (.int .i64 21) := c2
 simp only at c0 c1 c3 c4 c5 c6 c7 c12 c13 m0 m1 m2 m3 m4 m5 m6 m7
 obtain ⟨i, rfl⟩ : ∃ i : Nat, n0 = i := ⟨n0.toNat, by have := hn.1; simp only at this; omega⟩
 have hi : i < nx.length := by have := hn.2; simp only at this; omega
 have hi2 : (i : Int) < (nx.length : Int) := by omega
 obtain ⟨b0, zb⟩ := hM.nc hi
 simp only at b0
 obtain ⟨nv, hnv⟩ : ∃ nv, nx.getD i 0 = nv := ⟨_, rfl⟩
 rw [hnv] at b0
 have z2 := z 2
 have z5 := z 5
 clear zm z hM hT c0 c1 c11 c12 c13 m7
 have hR : Aside (rstep ⟨nx, vl, (h1, h2), (f1, f2), tg⟩ ⟨k, 21, (i : Int), n1, n2, n3, n4, ans⟩ a = (⟨nx, vl, (h1, h2), (f1, f2), tg⟩, ⟨k, 22, (i : Int), n1, nv, n3, n4, ans⟩)) := aside (by
  simp only [rstep, KSt.nxt, Int.toNat_natCast, hnv])
 clear hn zb hnv
 go_enter Try.func95, Try.ntmps95
 go_wp2
 all_goals go_region
 all_goals go_wp2
 all_goals go_end0
 all_goals (
  rw [hR.out]
  exact ⟨rfl, Mid.out (t := ⟨k, 22, (i : Int), n1, nv, n3, n4, ans⟩) (Mid.heap ((M0.out.st 5 (.int .i64 nv)).st 2 (.int .i64 22)) rfl) rfl⟩)
theorem pu13 (hp : t.pc = 13) (hn : 0 ≤ t.n4 ∧ t.n4 < s.nx.length) {ops : List Op4} {x : Op4} (hr : w.ownsRow 0 47 4 op ops.length (opsC ops)) (hx : ops[t.k]? = some x) (ha : x.a = a) (hol : ops.length < 100000000) :
 Calls Try.prog 94 #[.pointer (some ⟨B.mb, 0, none⟩), .pointer (some ⟨tb, 0, none⟩)] w fun e w' => e = .returned (.tuple #[]) ∧ Out6 w B tb op ov en w' (rstep s t a) := by
 obtain ⟨k, pc, n0, n1, n2, n3, n4, ans⟩ := t
 obtain ⟨nx, vl, ⟨h1, h2⟩, ⟨f1, f2⟩, tg⟩ := s
 simp only at hp hl hk
 subst hp
 have M0 : Aside (Mid w B tb ov ans w ⟨nx, vl, (h1, h2), (f1, f2), tg⟩ (thC op ⟨k, 13, n0, n1, n2, n3, n4, ans⟩ ov en)) := Mid.start hM hT
 obtain ⟨c0, c1, c2, c3, c4, c5, c6, c7, c11, c12, c13, z⟩ := hT.fx
 obtain ⟨m0, m1, m2, m3, m4, m5, m6, m7, zm⟩ := hM.fx
 obtain ⟨e1, e2, e3⟩ := M0.out.tm
 have e1' : ¬ B.mb = tb := fun h => e1 h.symm
 have e2' : ¬ B.nb = tb := fun h => e2 h.symm
 have e3' : ¬ B.vb = tb := fun h => e3 h.symm
 have c2 : w.cell? ⟨tb, 2, none⟩ = some (.int .i64 13) := c2
 simp only at c0 c1 c3 c4 c5 c6 c7 c12 c13 m0 m1 m2 m3 m4 m5 m6 m7
 obtain ⟨i, rfl⟩ : ∃ i : Nat, n4 = i := ⟨n4.toNat, by have := hn.1; simp only at this; omega⟩
 have hi : i < nx.length := by have := hn.2; simp only at this; omega
 have hiv : i < vl.length := by have := hW.n1; simp only at this; omega
 have hi2 : (i : Int) < (nx.length : Int) := by omega
 have hi3 : (i : Int) < (vl.length : Int) := by omega
 obtain ⟨kd, xa, xb, xd⟩ := x
 simp only at ha
 subst ha
 obtain ⟨b0, zb⟩ := hM.vc hiv
 simp only at b0
 have hOp : Aside (∀ m, Calls Try.prog 92 #[.pointer (some ⟨tb, 0, none⟩)] (w.drewN m) fun e w' => e = .returned (.agg #[.int .i64 kd, .int .i64 xa, .int .i64 xb, .int .i64 xd]) ∧ w.heap.size ≤ w'.heap.size ∧ ∀ r, r < w.heap.size → w'.heap[r]? = w.heap[r]?) := fun m => (op_calls (w := w.drewN m) (hT.heap rfl) (ownsRow_same2 hr fun _ _ _ => rfl) hx hol).mono fun e w' ⟨e1, e2, e3⟩ => ⟨e1, e2, e3⟩
 have hlts : Aside (B.vb < w.heap.size ∧ tb < w.heap.size ∧ B.mb < w.heap.size) := ⟨hM.vlt, hT.lt, hM.mlt⟩
 have z2 := z 2
 clear zm z hM hT c0 c1 c11 c12 c13 m7
 have hR : Aside (rstep ⟨nx, vl, (h1, h2), (f1, f2), tg⟩ ⟨k, 13, n0, n1, n2, n3, (i : Int), ans⟩ xa = (⟨nx, (vl.set i xa), (h1, h2), (f1, f2), tg⟩, ⟨k, 14, n0, n1, n2, n3, (i : Int), ans⟩)) := aside (by
  simp [rstep])
 clear hn hr hx hol
 go_enter Try.func94, Try.ntmps94
 go_wp2
 go_region_with (first | (go_at_call 92; refine (hOp.out _).mono ?_; rintro e u ⟨rfl, hu1, hu2⟩; have MU : Aside (Mid w B tb ov ans u ⟨nx, vl, (h1, h2), (f1, f2), tg⟩ (thC op ⟨k, 13, n0, n1, n2, n3, (i : Int), ans⟩ ov en)) := M0.out.more hu1 hu2; have d1 := (cell_heap (j := 1) (hu2 _ hlts.out.2.2)).1.trans m1; have d7 := (cell_heap (j := 7) (hu2 _ hlts.out.2.1)).1.trans c7; have d2 := (cell_heap (j := 2) (hu2 _ hlts.out.2.1)).1.trans c2; have y2 := (cell_heap (j := 2) (hu2 _ hlts.out.2.1)).2.trans z2; have d0 := (cell_heap (j := i) (hu2 _ hlts.out.1)).1.trans b0; have yb := (cell_heap (j := i) (hu2 _ hlts.out.1)).2.trans zb; clear hu1 hu2))
 all_goals go_wp2
 all_goals go_end0
 all_goals (
  rw [hR.out]
  exact ⟨rfl, Mid.out (t := ⟨k, 14, n0, n1, n2, n3, (i : Int), ans⟩) (Mid.heap ((MU.out.vl hiv xa).st 2 (.int .i64 14)) rfl) rfl⟩)
theorem pu15 (hp : t.pc = 15) (hn : 0 ≤ t.n4 ∧ t.n4 < s.nx.length) :
 Calls Try.prog 94 #[.pointer (some ⟨B.mb, 0, none⟩), .pointer (some ⟨tb, 0, none⟩)] w fun e w' => e = .returned (.tuple #[]) ∧ Out6 w B tb op ov en w' (rstep s t a) := by
 obtain ⟨k, pc, n0, n1, n2, n3, n4, ans⟩ := t
 obtain ⟨nx, vl, ⟨h1, h2⟩, ⟨f1, f2⟩, tg⟩ := s
 simp only at hp hl hk
 subst hp
 have M0 : Aside (Mid w B tb ov ans w ⟨nx, vl, (h1, h2), (f1, f2), tg⟩ (thC op ⟨k, 15, n0, n1, n2, n3, n4, ans⟩ ov en)) := Mid.start hM hT
 obtain ⟨c0, c1, c2, c3, c4, c5, c6, c7, c11, c12, c13, z⟩ := hT.fx
 obtain ⟨m0, m1, m2, m3, m4, m5, m6, m7, zm⟩ := hM.fx
 obtain ⟨e1, e2, e3⟩ := M0.out.tm
 have e1' : ¬ B.mb = tb := fun h => e1 h.symm
 have e2' : ¬ B.nb = tb := fun h => e2 h.symm
 have e3' : ¬ B.vb = tb := fun h => e3 h.symm
 have c2 : w.cell? ⟨tb, 2, none⟩ = some (.int .i64 15) := c2
 simp only at c0 c1 c3 c4 c5 c6 c7 c12 c13 m0 m1 m2 m3 m4 m5 m6 m7
 obtain ⟨i, rfl⟩ : ∃ i : Nat, n4 = i := ⟨n4.toNat, by have := hn.1; simp only at this; omega⟩
 have hi : i < nx.length := by have := hn.2; simp only at this; omega
 have hiv : i < vl.length := by have := hW.n1; simp only at this; omega
 have hi2 : (i : Int) < (nx.length : Int) := by omega
 have hi3 : (i : Int) < (vl.length : Int) := by omega
 obtain ⟨b0, zb⟩ := hM.nc hi
 simp only at b0
 have z2 := z 2
 clear zm z hM hT c0 c1 c11 c12 c13 m7
 have hR : Aside (rstep ⟨nx, vl, (h1, h2), (f1, f2), tg⟩ ⟨k, 15, n0, n1, n2, n3, (i : Int), ans⟩ a = (⟨(nx.set i n0), vl, (h1, h2), (f1, f2), tg⟩, ⟨k, 16, n0, n1, n2, n3, (i : Int), ans⟩)) := aside (by
  simp [rstep])
 clear hn
 go_enter Try.func94, Try.ntmps94
 go_wp2
 all_goals go_region
 all_goals go_wp2
 all_goals go_end0
 all_goals (
  rw [hR.out]
  exact ⟨rfl, Mid.out (t := ⟨k, 16, n0, n1, n2, n3, (i : Int), ans⟩) (Mid.heap ((M0.out.nx hi n0).st 2 (.int .i64 16)) rfl) rfl⟩)
theorem po25 (hp : t.pc = 25) (hn : 0 ≤ t.n4 ∧ t.n4 < s.nx.length) :
 Calls Try.prog 95 #[.pointer (some ⟨B.mb, 0, none⟩), .pointer (some ⟨tb, 0, none⟩)] w fun e w' => e = .returned (.tuple #[]) ∧ Out6 w B tb op ov en w' (rstep s t a) := by
 obtain ⟨k, pc, n0, n1, n2, n3, n4, ans⟩ := t
 obtain ⟨nx, vl, ⟨h1, h2⟩, ⟨f1, f2⟩, tg⟩ := s
 simp only at hp hl hk
 subst hp
 have M0 : Aside (Mid w B tb ov ans w ⟨nx, vl, (h1, h2), (f1, f2), tg⟩ (thC op ⟨k, 25, n0, n1, n2, n3, n4, ans⟩ ov en)) := Mid.start hM hT
 obtain ⟨c0, c1, c2, c3, c4, c5, c6, c7, c11, c12, c13, z⟩ := hT.fx
 obtain ⟨m0, m1, m2, m3, m4, m5, m6, m7, zm⟩ := hM.fx
 obtain ⟨e1, e2, e3⟩ := M0.out.tm
 have e1' : ¬ B.mb = tb := fun h => e1 h.symm
 have e2' : ¬ B.nb = tb := fun h => e2 h.symm
 have e3' : ¬ B.vb = tb := fun h => e3 h.symm
 have c2 : w.cell? ⟨tb, 2, none⟩ = some (.int .i64 25) := c2
 simp only at c0 c1 c3 c4 c5 c6 c7 c12 c13 m0 m1 m2 m3 m4 m5 m6 m7
 obtain ⟨i, rfl⟩ : ∃ i : Nat, n4 = i := ⟨n4.toNat, by have := hn.1; simp only at this; omega⟩
 have hi : i < nx.length := by have := hn.2; simp only at this; omega
 have hiv : i < vl.length := by have := hW.n1; simp only at this; omega
 have hi2 : (i : Int) < (nx.length : Int) := by omega
 have hi3 : (i : Int) < (vl.length : Int) := by omega
 obtain ⟨b0, zb⟩ := hM.nc hi
 simp only at b0
 have z2 := z 2
 clear zm z hM hT c0 c1 c11 c12 c13 m7
 have hR : Aside (rstep ⟨nx, vl, (h1, h2), (f1, f2), tg⟩ ⟨k, 25, n0, n1, n2, n3, (i : Int), ans⟩ a = (⟨(nx.set i n0), vl, (h1, h2), (f1, f2), tg⟩, ⟨k, 26, n0, n1, n2, n3, (i : Int), ans⟩)) := aside (by
  simp [rstep])
 clear hn
 go_enter Try.func95, Try.ntmps95
 go_wp2
 all_goals go_region
 all_goals go_wp2
 all_goals go_end0
 all_goals (
  rw [hR.out]
  exact ⟨rfl, Mid.out (t := ⟨k, 26, n0, n1, n2, n3, (i : Int), ans⟩) (Mid.heap ((M0.out.nx hi n0).st 2 (.int .i64 26)) rfl) rfl⟩)
theorem po23 (hp : t.pc = 23) (hn : 0 ≤ t.n4 ∧ t.n4 < s.nx.length) :
 Calls Try.prog 95 #[.pointer (some ⟨B.mb, 0, none⟩), .pointer (some ⟨tb, 0, none⟩)] w fun e w' => e = .returned (.tuple #[]) ∧ Out6 w B tb op ov en w' (rstep s t a) := by
 obtain ⟨k, pc, n0, n1, n2, n3, n4, ans⟩ := t
 obtain ⟨nx, vl, ⟨h1, h2⟩, ⟨f1, f2⟩, tg⟩ := s
 simp only at hp hl hk
 subst hp
 have M0 : Aside (Mid w B tb ov ans w ⟨nx, vl, (h1, h2), (f1, f2), tg⟩ (thC op ⟨k, 23, n0, n1, n2, n3, n4, ans⟩ ov en)) := Mid.start hM hT
 obtain ⟨c0, c1, c2, c3, c4, c5, c6, c7, c11, c12, c13, z⟩ := hT.fx
 obtain ⟨m0, m1, m2, m3, m4, m5, m6, m7, zm⟩ := hM.fx
 obtain ⟨e1, e2, e3⟩ := M0.out.tm
 have e1' : ¬ B.mb = tb := fun h => e1 h.symm
 have e2' : ¬ B.nb = tb := fun h => e2 h.symm
 have e3' : ¬ B.vb = tb := fun h => e3 h.symm
 have c2 : w.cell? ⟨tb, 2, none⟩ = some (.int .i64 23) := c2
 simp only at c0 c1 c3 c4 c5 c6 c7 c12 c13 m0 m1 m2 m3 m4 m5 m6 m7
 obtain ⟨i, rfl⟩ : ∃ i : Nat, n4 = i := ⟨n4.toNat, by have := hn.1; simp only at this; omega⟩
 have hi : i < nx.length := by have := hn.2; simp only at this; omega
 have hiv : i < vl.length := by have := hW.n1; simp only at this; omega
 have hi2 : (i : Int) < (nx.length : Int) := by omega
 have hi3 : (i : Int) < (vl.length : Int) := by omega
 obtain ⟨b0, zb⟩ := hM.vc hiv
 simp only at b0
 obtain ⟨nv, hnv⟩ : ∃ nv, vl.getD i 0 = nv := ⟨_, rfl⟩
 rw [hnv] at b0
 have z2 := z 2
 have z6 := z 6
 clear zm z hM hT c0 c1 c11 c12 c13 m7
 have hR : Aside (rstep ⟨nx, vl, (h1, h2), (f1, f2), tg⟩ ⟨k, 23, n0, n1, n2, n3, (i : Int), ans⟩ a = (⟨nx, vl, (h1, h2), (f1, f2), tg⟩, ⟨k, 24, n0, n1, n2, nv, (i : Int), ans⟩)) := aside (by
  simp only [rstep, KSt.val, Int.toNat_natCast, hnv])
 clear hn zb hnv
 go_enter Try.func95, Try.ntmps95
 go_wp2
 all_goals go_region
 all_goals go_wp2
 all_goals go_end0
 all_goals (
  rw [hR.out]
  exact ⟨rfl, Mid.out (t := ⟨k, 24, n0, n1, n2, nv, (i : Int), ans⟩) (Mid.heap ((M0.out.st 6 (.int .i64 nv)).st 2 (.int .i64 24)) rfl) rfl⟩)
end
end
section
variable {w w' : World} {B : MK} {s : KSt} {tb : Nat} {op ov : Value} {t : RTh} {en : Bool} {a : Int}
section
variable (hM : MAt w B s) (hT : TAt w tb op t ov en) (hW : KWf s) (hl : t.ans.length < 100000000) (hk : t.k < 100000000)
include hM hT hW hl hk
theorem pu12 (hp : t.pc = 12)  :
 Calls Try.prog 94 #[.pointer (some ⟨B.mb, 0, none⟩), .pointer (some ⟨tb, 0, none⟩)] w fun e w' => e = .returned (.tuple #[]) ∧ Out6 w B tb op ov en w' (rstep s t a) := by
 obtain ⟨k, pc, n0, n1, n2, n3, n4, ans⟩ := t
 obtain ⟨nx, vl, ⟨h1, h2⟩, ⟨f1, f2⟩, tg⟩ := s
 simp only at hp hl hk
 subst hp
 have M0 : Aside (Mid w B tb ov ans w ⟨nx, vl, (h1, h2), (f1, f2), tg⟩ (thC op ⟨k, 12, n0, n1, n2, n3, n4, ans⟩ ov en)) := Mid.start hM hT
 obtain ⟨c0, c1, c2, c3, c4, c5, c6, c7, c11, c12, c13, z⟩ := hT.fx
 obtain ⟨m0, m1, m2, m3, m4, m5, m6, m7, zm⟩ := hM.fx
 obtain ⟨e1, e2, e3⟩ := M0.out.tm
 have e1' : ¬ B.mb = tb := fun h => e1 h.symm
 have e2' : ¬ B.nb = tb := fun h => e2 h.symm
 have e3' : ¬ B.vb = tb := fun h => e3 h.symm
 have c2 : w.cell? ⟨tb, 2, none⟩ = some (.int .i64 12) := c2
 simp only at c0 c1 c3 c4 c5 c6 c7 c12 c13 m0 m1 m2 m3 m4 m5 m6 m7
 obtain ⟨eq, s2, hm, TT0⟩ := turn_fr (n0 := n0) (n1 := n1) (to := n2) (M0.out.st 2 (.int .i64 10)) hW
 simp only at hm
 have TT : Aside (∀ W : World, W.heap = (w.setCell ⟨tb, 2, none⟩ (.int .i64 10)).heap → Calls Try.prog 109 #[.pointer (some ⟨B.mb, 0, none⟩), .pointer (some ⟨B.mb, 4, none⟩), .int .i64 n0, .int .i64 n1, .int .i64 n2] W fun e w' => e = .returned (.bool eq) ∧ Mid w B tb ov ans w' s2 (thC op ⟨k, 10, n0, n1, n2, n3, n4, ans⟩ ov en)) := TT0
 clear TT0
 have z2 := z 2
 clear zm z hM hT c0 c1 c11 c12 c13 m7
 have hR : Aside (rstep ⟨nx, vl, (h1, h2), (f1, f2), tg⟩ ⟨k, 12, n0, n1, n2, n3, n4, ans⟩ a = (if eq = true then (s2, ⟨k, 13, n0, n1, n2, n3, n0, ans⟩) else (s2, ⟨k, 10, n0, n1, n2, n3, n4, ans⟩))) := aside (by
  cases ht : KSt.turn ⟨nx, vl, (h1, h2), (f1, f2), tg⟩ (f1, f2) n0 n1 n2 with
  | none =>
    rw [ht] at hm
    obtain ⟨rfl, rfl⟩ := hm
    simp [rstep, ht]
  | some x =>
    rw [ht] at hm
    obtain ⟨rfl, rfl⟩ := hm
    simp [rstep, ht])
 go_enter Try.func94, Try.ntmps94
 go_wp2
 all_goals go_region_with (first | (go_at_call 109; refine (TT.out _ (by rfl)).mono ?_; rintro e u ⟨rfl, hu⟩; have MU : Aside (Mid w B tb ov ans u s2 (thC op ⟨k, 10, n0, n1, n2, n3, n4, ans⟩ ov en)) := hu; clear hu; have d3 : u.cell? ⟨tb, 3, none⟩ = some (.int .i64 n0) := (by simp [World.cell?, MU.out.t, thC]); have y7 : u.frozen? ⟨tb, 7, none⟩ = false := (by simp [World.frozen?, MU.out.t]); have y2 : u.frozen? ⟨tb, 2, none⟩ = false := (by simp [World.frozen?, MU.out.t]); have d7 : u.cell? ⟨tb, 7, none⟩ = some (.int .i64 n4) := (by simp [World.cell?, MU.out.t, thC]); have d2 : u.cell? ⟨tb, 2, none⟩ = some (.int .i64 10) := (by simp [World.cell?, MU.out.t, thC])))
 all_goals (
  cases eq
  ·go_wp2
   go_end0
   rw [hR.out]
   first | rw [if_neg (by decide)] | rw [if_neg not_false] | skip
   exact ⟨rfl, Mid.out (t := ⟨k, 10, n0, n1, n2, n3, n4, ans⟩) (Mid.heap MU.out rfl) rfl⟩
  ·go_wp2
   go_region
   all_goals go_wp2
   all_goals go_end0
   all_goals (
    rw [hR.out]
    first | rw [if_pos rfl] | rw [if_pos trivial] | skip
    exact ⟨rfl, Mid.out (t := ⟨k, 13, n0, n1, n2, n3, n0, ans⟩) (Mid.heap ((MU.out.st 7 (.int .i64 n0)).st 2 (.int .i64 13)) rfl) rfl⟩))
end
end
section
variable {w w' : World} {B : MK} {s : KSt} {tb : Nat} {op ov : Value} {t : RTh} {en : Bool} {a : Int}
section
variable (hM : MAt w B s) (hT : TAt w tb op t ov en) (hW : KWf s) (hl : t.ans.length < 100000000) (hk : t.k < 100000000)
include hM hT hW hl hk
theorem pu16 (hp : t.pc = 16)  :
 Calls Try.prog 94 #[.pointer (some ⟨B.mb, 0, none⟩), .pointer (some ⟨tb, 0, none⟩)] w fun e w' => e = .returned (.tuple #[]) ∧ Out6 w B tb op ov en w' (rstep s t a) := by
 obtain ⟨k, pc, n0, n1, n2, n3, n4, ans⟩ := t
 obtain ⟨nx, vl, ⟨h1, h2⟩, ⟨f1, f2⟩, tg⟩ := s
 simp only at hp hl hk
 subst hp
 have M0 : Aside (Mid w B tb ov ans w ⟨nx, vl, (h1, h2), (f1, f2), tg⟩ (thC op ⟨k, 16, n0, n1, n2, n3, n4, ans⟩ ov en)) := Mid.start hM hT
 obtain ⟨c0, c1, c2, c3, c4, c5, c6, c7, c11, c12, c13, z⟩ := hT.fx
 obtain ⟨m0, m1, m2, m3, m4, m5, m6, m7, zm⟩ := hM.fx
 obtain ⟨e1, e2, e3⟩ := M0.out.tm
 have e1' : ¬ B.mb = tb := fun h => e1 h.symm
 have e2' : ¬ B.nb = tb := fun h => e2 h.symm
 have e3' : ¬ B.vb = tb := fun h => e3 h.symm
 have c2 : w.cell? ⟨tb, 2, none⟩ = some (.int .i64 16) := c2
 simp only at c0 c1 c3 c4 c5 c6 c7 c12 c13 m0 m1 m2 m3 m4 m5 m6 m7
 obtain ⟨eq, s2, hm, TT0⟩ := turn_hd (n0 := n0) (n1 := n1) (to := n4) (M0.out.st 2 (.int .i64 14)) hW
 simp only at hm
 have TT : Aside (∀ W : World, W.heap = (w.setCell ⟨tb, 2, none⟩ (.int .i64 14)).heap → Calls Try.prog 109 #[.pointer (some ⟨B.mb, 0, none⟩), .pointer (some ⟨B.mb, 2, none⟩), .int .i64 n0, .int .i64 n1, .int .i64 n4] W fun e w' => e = .returned (.bool eq) ∧ Mid w B tb ov ans w' s2 (thC op ⟨k, 14, n0, n1, n2, n3, n4, ans⟩ ov en)) := TT0
 clear TT0
 have z2 := z 2
 clear zm z hM hT c0 c1 c11 c12 c13 m7
 have hR : Aside (rstep ⟨nx, vl, (h1, h2), (f1, f2), tg⟩ ⟨k, 16, n0, n1, n2, n3, n4, ans⟩ a = (if eq = true then (s2, (RTh.fin ⟨k, 14, n0, n1, n2, n3, n4, ans⟩ (true, 0))) else (s2, ⟨k, 14, n0, n1, n2, n3, n4, ans⟩))) := aside (by
  cases ht : KSt.turn ⟨nx, vl, (h1, h2), (f1, f2), tg⟩ (h1, h2) n0 n1 n4 with
  | none =>
    rw [ht] at hm
    obtain ⟨rfl, rfl⟩ := hm
    simp [rstep, ht]
  | some x =>
    rw [ht] at hm
    obtain ⟨rfl, rfl⟩ := hm
    simp [rstep, ht])
 go_enter Try.func94, Try.ntmps94
 go_wp2
 all_goals go_region_with (first | (go_at_call 109; refine (TT.out _ (by rfl)).mono ?_; rintro e u ⟨rfl, hu⟩; have MU : Aside (Mid w B tb ov ans u s2 (thC op ⟨k, 14, n0, n1, n2, n3, n4, ans⟩ ov en)) := hu; clear hu; have d6 : u.cell? ⟨tb, 6, none⟩ = some (.int .i64 n3) := (by simp [World.cell?, MU.out.t, thC])))
 all_goals (
  cases eq
  ·go_wp2
   go_end0
   rw [hR.out]
   first | rw [if_neg (by decide)] | rw [if_neg not_false] | skip
   exact ⟨rfl, Mid.out (t := ⟨k, 14, n0, n1, n2, n3, n4, ans⟩) (Mid.heap MU.out rfl) rfl⟩
  ·go_wp2_with (go_at_call 93; refine Calls.mono (end_calls (a := (true, 0)) (Mid.at (t := ⟨k, 14, n0, n1, n2, n3, n4, ans⟩) (Mid.heap MU.out rfl) rfl) hl hk) ?_; rintro e w2 ⟨rfl, ov2, g1, g2⟩; have G : Aside (TAt w2 tb op (RTh.fin ⟨k, 14, n0, n1, n2, n3, n4, ans⟩ (true, 0)) ov2 en ∧ Kpt _ w2 tb ov ov2) := ⟨g1, g2⟩; clear g1 g2)
   go_end0
   rw [hR.out]
   first | rw [if_pos rfl] | rw [if_pos trivial] | skip
   exact ⟨rfl, Mid.fin (t := ⟨k, 14, n0, n1, n2, n3, n4, ans⟩) (by exact Mid.heap MU.out rfl) rfl G.out.1 G.out.2⟩)
end
end
section
variable {w w' : World} {B : MK} {s : KSt} {tb : Nat} {op ov : Value} {t : RTh} {en : Bool} {a : Int}
section
variable (hM : MAt w B s) (hT : TAt w tb op t ov en) (hW : KWf s) (hl : t.ans.length < 100000000) (hk : t.k < 100000000)
include hM hT hW hl hk
theorem po22 (hp : t.pc = 22)  :
 Calls Try.prog 95 #[.pointer (some ⟨B.mb, 0, none⟩), .pointer (some ⟨tb, 0, none⟩)] w fun e w' => e = .returned (.tuple #[]) ∧ Out6 w B tb op ov en w' (rstep s t a) := by
 obtain ⟨k, pc, n0, n1, n2, n3, n4, ans⟩ := t
 obtain ⟨nx, vl, ⟨h1, h2⟩, ⟨f1, f2⟩, tg⟩ := s
 simp only at hp hl hk
 subst hp
 have M0 : Aside (Mid w B tb ov ans w ⟨nx, vl, (h1, h2), (f1, f2), tg⟩ (thC op ⟨k, 22, n0, n1, n2, n3, n4, ans⟩ ov en)) := Mid.start hM hT
 obtain ⟨c0, c1, c2, c3, c4, c5, c6, c7, c11, c12, c13, z⟩ := hT.fx
 obtain ⟨m0, m1, m2, m3, m4, m5, m6, m7, zm⟩ := hM.fx
 obtain ⟨e1, e2, e3⟩ := M0.out.tm
 have e1' : ¬ B.mb = tb := fun h => e1 h.symm
 have e2' : ¬ B.nb = tb := fun h => e2 h.symm
 have e3' : ¬ B.vb = tb := fun h => e3 h.symm
 have c2 : w.cell? ⟨tb, 2, none⟩ = some (.int .i64 22) := c2
 simp only at c0 c1 c3 c4 c5 c6 c7 c12 c13 m0 m1 m2 m3 m4 m5 m6 m7
 obtain ⟨eq, s2, hm, TT0⟩ := turn_hd (n0 := n0) (n1 := n1) (to := n2) (M0.out.st 2 (.int .i64 20)) hW
 simp only at hm
 have TT : Aside (∀ W : World, W.heap = (w.setCell ⟨tb, 2, none⟩ (.int .i64 20)).heap → Calls Try.prog 109 #[.pointer (some ⟨B.mb, 0, none⟩), .pointer (some ⟨B.mb, 2, none⟩), .int .i64 n0, .int .i64 n1, .int .i64 n2] W fun e w' => e = .returned (.bool eq) ∧ Mid w B tb ov ans w' s2 (thC op ⟨k, 20, n0, n1, n2, n3, n4, ans⟩ ov en)) := TT0
 clear TT0
 have z2 := z 2
 clear zm z hM hT c0 c1 c11 c12 c13 m7
 have hR : Aside (rstep ⟨nx, vl, (h1, h2), (f1, f2), tg⟩ ⟨k, 22, n0, n1, n2, n3, n4, ans⟩ a = (if eq = true then (s2, ⟨k, 23, n0, n1, n2, n3, n0, ans⟩) else (s2, ⟨k, 20, n0, n1, n2, n3, n4, ans⟩))) := aside (by
  cases ht : KSt.turn ⟨nx, vl, (h1, h2), (f1, f2), tg⟩ (h1, h2) n0 n1 n2 with
  | none =>
    rw [ht] at hm
    obtain ⟨rfl, rfl⟩ := hm
    simp [rstep, ht]
  | some x =>
    rw [ht] at hm
    obtain ⟨rfl, rfl⟩ := hm
    simp [rstep, ht])
 go_enter Try.func95, Try.ntmps95
 go_wp2
 all_goals go_region_with (first | (go_at_call 109; refine (TT.out _ (by rfl)).mono ?_; rintro e u ⟨rfl, hu⟩; have MU : Aside (Mid w B tb ov ans u s2 (thC op ⟨k, 20, n0, n1, n2, n3, n4, ans⟩ ov en)) := hu; clear hu; have d3 : u.cell? ⟨tb, 3, none⟩ = some (.int .i64 n0) := (by simp [World.cell?, MU.out.t, thC]); have y7 : u.frozen? ⟨tb, 7, none⟩ = false := (by simp [World.frozen?, MU.out.t]); have y2 : u.frozen? ⟨tb, 2, none⟩ = false := (by simp [World.frozen?, MU.out.t]); have d7 : u.cell? ⟨tb, 7, none⟩ = some (.int .i64 n4) := (by simp [World.cell?, MU.out.t, thC]); have d2 : u.cell? ⟨tb, 2, none⟩ = some (.int .i64 20) := (by simp [World.cell?, MU.out.t, thC])))
 all_goals (
  cases eq
  ·go_wp2
   go_end0
   rw [hR.out]
   first | rw [if_neg (by decide)] | rw [if_neg not_false] | skip
   exact ⟨rfl, Mid.out (t := ⟨k, 20, n0, n1, n2, n3, n4, ans⟩) (Mid.heap MU.out rfl) rfl⟩
  ·go_wp2
   go_region
   all_goals go_wp2
   all_goals go_end0
   all_goals (
    rw [hR.out]
    first | rw [if_pos rfl] | rw [if_pos trivial] | skip
    exact ⟨rfl, Mid.out (t := ⟨k, 23, n0, n1, n2, n3, n0, ans⟩) (Mid.heap ((MU.out.st 7 (.int .i64 n0)).st 2 (.int .i64 23)) rfl) rfl⟩))
end
end
section
variable {w w' : World} {B : MK} {s : KSt} {tb : Nat} {op ov : Value} {t : RTh} {en : Bool} {a : Int}
section
variable (hM : MAt w B s) (hT : TAt w tb op t ov en) (hW : KWf s) (hl : t.ans.length < 100000000) (hk : t.k < 100000000)
include hM hT hW hl hk
theorem po26 (hp : t.pc = 26)  :
 Calls Try.prog 95 #[.pointer (some ⟨B.mb, 0, none⟩), .pointer (some ⟨tb, 0, none⟩)] w fun e w' => e = .returned (.tuple #[]) ∧ Out6 w B tb op ov en w' (rstep s t a) := by
 obtain ⟨k, pc, n0, n1, n2, n3, n4, ans⟩ := t
 obtain ⟨nx, vl, ⟨h1, h2⟩, ⟨f1, f2⟩, tg⟩ := s
 simp only at hp hl hk
 subst hp
 have M0 : Aside (Mid w B tb ov ans w ⟨nx, vl, (h1, h2), (f1, f2), tg⟩ (thC op ⟨k, 26, n0, n1, n2, n3, n4, ans⟩ ov en)) := Mid.start hM hT
 obtain ⟨c0, c1, c2, c3, c4, c5, c6, c7, c11, c12, c13, z⟩ := hT.fx
 obtain ⟨m0, m1, m2, m3, m4, m5, m6, m7, zm⟩ := hM.fx
 obtain ⟨e1, e2, e3⟩ := M0.out.tm
 have e1' : ¬ B.mb = tb := fun h => e1 h.symm
 have e2' : ¬ B.nb = tb := fun h => e2 h.symm
 have e3' : ¬ B.vb = tb := fun h => e3 h.symm
 have c2 : w.cell? ⟨tb, 2, none⟩ = some (.int .i64 26) := c2
 simp only at c0 c1 c3 c4 c5 c6 c7 c12 c13 m0 m1 m2 m3 m4 m5 m6 m7
 obtain ⟨eq, s2, hm, TT0⟩ := turn_fr (n0 := n0) (n1 := n1) (to := n4) (M0.out.st 2 (.int .i64 24)) hW
 simp only at hm
 have TT : Aside (∀ W : World, W.heap = (w.setCell ⟨tb, 2, none⟩ (.int .i64 24)).heap → Calls Try.prog 109 #[.pointer (some ⟨B.mb, 0, none⟩), .pointer (some ⟨B.mb, 4, none⟩), .int .i64 n0, .int .i64 n1, .int .i64 n4] W fun e w' => e = .returned (.bool eq) ∧ Mid w B tb ov ans w' s2 (thC op ⟨k, 24, n0, n1, n2, n3, n4, ans⟩ ov en)) := TT0
 clear TT0
 have z2 := z 2
 clear zm z hM hT c0 c1 c11 c12 c13 m7
 have hR : Aside (rstep ⟨nx, vl, (h1, h2), (f1, f2), tg⟩ ⟨k, 26, n0, n1, n2, n3, n4, ans⟩ a = (if eq = true then (s2, (RTh.fin ⟨k, 24, n0, n1, n2, n3, n4, ans⟩ (true, n3))) else (s2, ⟨k, 24, n0, n1, n2, n3, n4, ans⟩))) := aside (by
  cases ht : KSt.turn ⟨nx, vl, (h1, h2), (f1, f2), tg⟩ (f1, f2) n0 n1 n4 with
  | none =>
    rw [ht] at hm
    obtain ⟨rfl, rfl⟩ := hm
    simp [rstep, ht]
  | some x =>
    rw [ht] at hm
    obtain ⟨rfl, rfl⟩ := hm
    simp [rstep, ht])
 go_enter Try.func95, Try.ntmps95
 go_wp2
 all_goals go_region_with (first | (go_at_call 109; refine (TT.out _ (by rfl)).mono ?_; rintro e u ⟨rfl, hu⟩; have MU : Aside (Mid w B tb ov ans u s2 (thC op ⟨k, 24, n0, n1, n2, n3, n4, ans⟩ ov en)) := hu; clear hu; have d6 : u.cell? ⟨tb, 6, none⟩ = some (.int .i64 n3) := (by simp [World.cell?, MU.out.t, thC])))
 all_goals (
  cases eq
  ·go_wp2
   go_end0
   rw [hR.out]
   first | rw [if_neg (by decide)] | rw [if_neg not_false] | skip
   exact ⟨rfl, Mid.out (t := ⟨k, 24, n0, n1, n2, n3, n4, ans⟩) (Mid.heap MU.out rfl) rfl⟩
  ·go_wp2_with (go_at_call 93; refine Calls.mono (end_calls (a := (true, n3)) (Mid.at (t := ⟨k, 24, n0, n1, n2, n3, n4, ans⟩) (Mid.heap MU.out rfl) rfl) hl hk) ?_; rintro e w2 ⟨rfl, ov2, g1, g2⟩; have G : Aside (TAt w2 tb op (RTh.fin ⟨k, 24, n0, n1, n2, n3, n4, ans⟩ (true, n3)) ov2 en ∧ Kpt _ w2 tb ov ov2) := ⟨g1, g2⟩; clear g1 g2)
   go_end0
   rw [hR.out]
   first | rw [if_pos rfl] | rw [if_pos trivial] | skip
   exact ⟨rfl, Mid.fin (t := ⟨k, 24, n0, n1, n2, n3, n4, ans⟩) (by exact Mid.heap MU.out rfl) rfl G.out.1 G.out.2⟩)
end
end
section
variable {m : Pl} {ops : Nat → List Op4} {n M : Nat} {S : List Int}
def endedOf {m : Pl} (s : GS m) (j : Nat) : Bool := !s.live j
theorem gTurn_dead {s : GS m × List Nat} {y : Int} (h : ¬ okS n (endedOf s.1) y) : gTurn ops n M s y = s := by
 unfold gTurn
 rw [if_neg]
 rintro ⟨h1, h2, h3, _⟩
 exact h ⟨h1, h2, by simp [endedOf, h3]⟩
theorem gTurns_dead : ∀ (l : List Int) (s : GS m × List Nat), (∀ y, y ∈ l → ¬ okS n (endedOf s.1) y) → gTurns ops n M l s = s
 | [], s, _ => rfl
 | y :: l, s, h => by
   simp only [gTurns]
   rw [gTurn_dead (h y (by simp))]
   exact gTurns_dead l s fun y hy => h y (by simp [hy])
theorem gTurns_app : ∀ (l k : List Int) (s : GS m × List Nat), gTurns ops n M (l ++ k) s = gTurns ops n M k (gTurns ops n M l s)
 | [], k, s => rfl
 | y :: l, k, s => by
   simp only [gTurns, List.cons_append]
   exact gTurns_app l k _
theorem gTurn_go {s : GS m × List Nat} {x : Nat} (h : okS n (endedOf s.1) x) (hM : s.2.length ≠ M) : gTurn ops n M s x = (s.1.put x (stpG m (ops x) s.1.q (s.1.th x)), s.2 ++ [x]) := by
 unfold gTurn
 obtain ⟨h1, h2, h3⟩ := h
 simp only [Int.toNat_natCast, endedOf, Bool.not_eq_false'] at h3
 rw [if_pos ⟨h1, h2, by simpa using h3, hM⟩]
 simp
theorem gTurns_full {s : GS m × List Nat} (hM : s.2.length = M) : ∀ (l : List Int), gTurns ops n M l s = s
 | [] => rfl
 | y :: l => by
   simp only [gTurns]
   have : gTurn ops n M s y = s := by unfold gTurn; rw [if_neg]; rintro ⟨_, _, _, h⟩; exact h hM
   rw [this]
   exact gTurns_full hM l
def rngI (n : Nat) : List Int := (List.range n).map fun j : Nat => (j : Int)
def RefI {m : Pl} (ops : Nat → List Op4) (n M : Nat) (S : List Int) (s0 : GS m) (s : GS m) (order : List Nat) (p rd : Nat) : Prop :=
 ∃ rest k, (∀ f, k ≤ f → gOver ops n M S f s0 = gRounds ops n M (f - k) (gTurns ops n M rest (s, order))) ∧ ((rest = S.drop p ∧ rd = 0) ∨ (p = S.length ∧ rest = (rngI n).drop rd))
theorem split_at {l : List Int} {p r : Nat} {x : Int} (h1 : p ≤ r) (h : l[r]? = some x) : l.drop p = (l.drop p).take (r - p) ++ x :: l.drop (r + 1) := by
 obtain ⟨hl, e⟩ := List.getElem?_eq_some_iff.1 h
 have h2 : (l.drop p).drop (r - p) = x :: l.drop (r + 1) := by
  rw [List.drop_drop, show p + (r - p) = r by omega, List.drop_eq_getElem_cons hl, e]
 rw [← h2, List.take_append_drop]
theorem mem_mid {l : List Int} {p r : Nat} {y : Int} (h : y ∈ (l.drop p).take (r - p)) : ∃ j, p ≤ j ∧ j < r ∧ l[j]? = some y := by
 obtain ⟨i, hi, e⟩ := List.mem_iff_getElem.1 h
 simp only [List.length_take, List.length_drop] at hi
 rw [List.getElem_take, List.getElem_drop] at e
 exact ⟨p + i, by omega, by omega, by rw [List.getElem?_eq_getElem (by omega), e]⟩
theorem rng_get {j : Nat} (h : j < n) : (rngI n)[j]? = some (j : Int) := by
 unfold rngI
 rw [List.getElem?_map, List.getElem?_range h]
 rfl
theorem turns_to {s : GS m × List Nat} {l : List Int} {p r x : Nat} (h1 : p ≤ r) (h : l[r]? = some (x : Int)) (hd : ∀ j y, p ≤ j → j < r → l[j]? = some y → ¬ okS n (endedOf s.1) y) (hx : okS n (endedOf s.1) x) (hM : s.2.length ≠ M) :
 gTurns ops n M (l.drop p) s = gTurns ops n M (l.drop (r + 1)) (s.1.put x (stpG m (ops x) s.1.q (s.1.th x)), s.2 ++ [x]) := by
 have e : gTurns ops n M ((l.drop p).take (r - p)) s = s := gTurns_dead _ _ fun y hy => by
  obtain ⟨j, a, b, c⟩ := mem_mid hy
  exact hd j y a b c
 rw [split_at h1 h, gTurns_app, e]
 simp only [gTurns]
 rw [gTurn_go hx hM]
theorem rounds_go {s : GS m × List Nat} (hd : ¬ gDone n M s) {f : Nat} (hf : 0 < f) : gRounds ops n M f s = gRounds ops n M (f - 1) (gTurns ops n M (rngI n) s) := by
 obtain ⟨f, rfl⟩ : ∃ k, f = k + 1 := ⟨f - 1, by omega⟩
 simp only [gRounds, if_neg hd]
 rfl
theorem refI_pick {s0 s : GS m} {order : List Nat} {p rd x p1 r1 : Nat} (h : RefI ops n M S s0 s order p rd) (hp : PickRel S n (endedOf s) p rd x p1 r1) (hM : order.length ≠ M) (hM2 : order.length ≤ M) (hrd : rd ≤ n) (hn : 0 < n) :
 RefI ops n M S s0 (s.put x (stpG m (ops x) s.q (s.th x))) (order ++ [x]) p1 r1 ∧ okS n (endedOf s) x ∧ p1 ≤ S.length ∧ r1 ≤ n := by
 obtain ⟨rest, k, hk, hc⟩ := h
 have hdead : ∀ r, rd ≤ r → (∀ j, rd ≤ j → j < r → endedOf s (j % n) = true) → ∀ (a b c : Nat) (y : Int), rd ≤ a + c → (a + c) % n = a % n → a < n → a + c < r → (rngI n)[a]? = some y → ¬ okS n (endedOf s) y := by
  intro r h1 h2 a b c y hac hm hlt har hy
  rw [rng_get hlt] at hy
  cases hy
  rintro ⟨_, _, h3⟩
  have := h2 (a + c) hac har
  rw [hm, Nat.mod_eq_of_lt hlt] at this
  simp only [Int.toNat_natCast] at h3
  rw [this] at h3
  cases h3
 rcases hp with ⟨p', a1, a2, a3, a4, rfl, rfl⟩ | ⟨a1, rfl, r, b1, b2, b3, rfl, rfl⟩
 ·have hlt := (List.getElem?_eq_some_iff.1 a3).1
  rcases hc with ⟨rfl, rfl⟩ | ⟨rfl, rfl⟩
  ·refine ⟨⟨S.drop (p' + 1), k, fun f hf => ?_, .inl ⟨rfl, rfl⟩⟩, a4, hlt, hrd⟩
   rw [hk f hf, turns_to (s := (s, order)) a1 a3 a2 a4 hM]
  ·omega
 ·have hxn : r % n < n := Nat.mod_lt _ hn
  have hok : okS n (endedOf s) (r % n : Nat) := ⟨by omega, by omega, by rw [Int.toNat_natCast]; exact b3⟩
  have hnd : ¬ gDone n M (s, order) := by
   rintro (h | h)
   ·have := (cnt_zero.1 h) _ hxn
    simp only [endedOf, Bool.not_eq_false'] at b3
    rw [this] at b3
    cases b3
   ·simp only at h
    omega
  have pass : ∀ c, rd ≤ c → r < c + n → c ≤ r → c % n = 0 → gTurns ops n M (rngI n) (s, order) = gTurns ops n M ((rngI n).drop (r % n + 1)) (s.put (r % n) (stpG m (ops (r % n)) s.q (s.th (r % n))), order ++ [r % n]) := by
   intro c h1 h2 h3 h4
   have hr : r % n = r - c := by
    have e : r = (r - c) + c := by omega
    rw [e, Nat.add_mod, h4, Nat.add_zero, Nat.mod_mod, Nat.mod_eq_of_lt (show r - c < n by omega)]
    omega
   have := turns_to (ops := ops) (M := M) (s := (s, order)) (l := rngI n) (p := 0) (r := r % n) (x := r % n) (Nat.zero_le _) (rng_get hxn) (fun j y _ hj hy => hdead r b1 b2 j 0 c y (by omega) (by rw [Nat.add_mod, h4, Nat.add_zero, Nat.mod_mod]) (by omega) (by omega) hy) hok hM
   rw [List.drop_zero] at this
   exact this
  have hlim : r < rd + n := by
   rcases Nat.lt_or_ge r (rd + n) with h | h
   ·exact h
   ·have := b2 (r - n) (by omega) (by omega)
    have e : (r - n) % n = r % n := by
     have : r = (r - n) + n := by omega
     conv => rhs; rw [this, Nat.add_mod_right]
    rw [e, b3] at this
    cases this
  refine ⟨?_, hok, Nat.le_refl _, hxn⟩
  rcases hc with ⟨rfl, rfl⟩ | ⟨rfl, rfl⟩
  ·have e1 : gTurns ops n M (S.drop p) (s, order) = (s, order) := gTurns_dead _ _ fun y hy => by
    obtain ⟨j, hj, e⟩ := List.mem_iff_getElem.1 hy
    simp only [List.length_drop] at hj
    rw [List.getElem_drop] at e
    exact a1 (p + j) y (by omega) (by rw [List.getElem?_eq_getElem (by omega), e])
   refine ⟨(rngI n).drop (r % n + 1), k + 1, fun f hf => ?_, .inr ⟨rfl, rfl⟩⟩
   rw [hk f (by omega), e1, rounds_go hnd (by omega), pass 0 (by omega) (by omega) (by omega) (Nat.zero_mod _), Nat.sub_sub]
  ·rcases Nat.lt_or_ge r n with hr | hr
   ·have e2 : r % n = r := Nat.mod_eq_of_lt hr
    refine ⟨(rngI n).drop (r % n + 1), k, fun f hf => ?_, .inr ⟨rfl, rfl⟩⟩
    rw [hk f hf]
    congr 1
    rw [e2] at hok ⊢
    exact turns_to (s := (s, order)) b1 (rng_get hr) (fun j y h1 h2 hy => hdead r b1 b2 j 0 0 y (by omega) rfl (by omega) (by omega) hy) hok hM
   ·have e1 : gTurns ops n M ((rngI n).drop rd) (s, order) = (s, order) := gTurns_dead _ _ fun y hy => by
     obtain ⟨j, hj, e⟩ := List.mem_iff_getElem.1 hy
     have hl : (rngI n).length = n := by simp [rngI]
     simp only [List.length_drop, hl] at hj
     rw [List.getElem_drop] at e
     exact hdead r b1 b2 (rd + j) 0 0 y (by omega) rfl (by omega) (by omega) (by rw [List.getElem?_eq_getElem (by omega), e])
    refine ⟨(rngI n).drop (r % n + 1), k + 1, fun f hf => ?_, .inr ⟨rfl, rfl⟩⟩
    rw [hk f (by omega), e1, rounds_go hnd (by omega), pass n (by omega) (by omega) hr (Nat.mod_self n), Nat.sub_sub]
theorem refI_end {s0 s : GS m} {order : List Nat} {p rd : Nat} (h : RefI ops n M S s0 s order p rd) (hd : cnt s.live n = 0 ∨ order.length = M) : ∃ k, ∀ f, k ≤ f → gOver ops n M S f s0 = (s, order) := by
 obtain ⟨rest, k, hk, _⟩ := h
 refine ⟨k, fun f hf => ?_⟩
 rw [hk f hf]
 have e : gTurns ops n M rest (s, order) = (s, order) := by
  rcases hd with h | h
  ·refine gTurns_dead _ _ fun y _ => ?_
   rintro ⟨h1, h2, h3⟩
   have := (cnt_zero.1 h) y.toNat (by omega)
   simp only [endedOf] at h3
   rw [this] at h3
   cases h3
  ·exact gTurns_full h _
 rw [e]
 refine gRounds_done ?_ _
 rcases hd with h | h
 ·exact .inl h
 ·exact .inr (by simp only; omega)
theorem refI_start (s0 : GS m) : RefI ops n M S s0 (gBorns m ops n s0) [] 0 0 := ⟨S, 0, fun f _ => rfl, .inl ⟨rfl, rfl⟩⟩
end
section
structure TRel (n : Nat) (ops : List Op4) (g : GT KPl) (t : RTh) : Prop where
 k : t.k = g.k
 ans : t.ans = g.ans
 al : t.ans.length = t.k
 kl : t.k ≤ ops.length
 none : g.call = none → t.pc = 0 ∧ t.k = ops.length
 some : ∀ c : KCl, g.call = some c → Liv c t ∧ KV n c ∧ t.k < ops.length ∧ (c.pc < 20 → ∀ x, ops[t.k]? = some x → x.a = c.a)
theorem kv_0' {m : Nat} (hm : 0 < m) {pc : Nat} (h : pc ∈ [10, 20, 30, 40]) (a : Int) : KV m ⟨pc, 0, 0, 0, 0, 0, a⟩ := by
 simp only [List.mem_cons, List.not_mem_nil, or_false] at h
 have hm' : (0 : Int) < m := by omega
 rcases h with rfl | rfl | rfl | rfl <;> exact ⟨by simp, ⟨by simp, hm'⟩, ⟨by simp, by simp⟩, ⟨by simp, hm'⟩, ⟨by simp, hm'⟩, fun h => by simp at h⟩
theorem adv_rel {m : Nat} (hm : 0 < m) {ops : List Op4} : ∀ (l : List Op4) (k : Nat) (t : RTh) (s : KSt), l = ops.drop k → t.pc = 0 → t.k = k → k ≤ ops.length → t.ans.length = k → (advG KPl l s ⟨k, none, t.ans⟩).1 = s ∧ TRel m ops (advG KPl l s ⟨k, none, t.ans⟩).2 (rbegL l t)
 | [], k, t, s, hl, h0, hk, hkl, ha => by
   have hge : ops.length ≤ k := List.drop_eq_nil_iff.1 hl.symm
   refine ⟨rfl, ?_⟩
   show TRel m ops (⟨k, none, t.ans⟩ : GT KPl) t
   exact ⟨hk, rfl, by omega, by omega, fun _ => ⟨h0, by omega⟩, fun c h => by cases h⟩
 | o :: l, k, t, s, hl, h0, hk, hkl, ha => by
   have hlt : k < ops.length := by
    rcases Nat.lt_or_ge k ops.length with h | h
    ·exact h
    ·rw [List.drop_eq_nil_of_le h] at hl; cases hl
   have hd := hl
   rw [List.drop_eq_getElem_cons hlt] at hd
   obtain ⟨e1, e2⟩ := List.cons.inj hd
   have hx : ops[k]? = some o := by rw [List.getElem?_eq_getElem hlt, e1]
   have live : ∀ (pc : Nat) (a : Int), pc ∈ [10, 20, 30, 40] → (pc < 20 → o.a = a) → TRel m ops ⟨k, some (⟨pc, 0, 0, 0, 0, 0, a⟩ : KCl), t.ans⟩ { t with pc := pc } := fun pc a hp hpa =>
    ⟨hk, rfl, by simp only; omega, by simp only; omega, fun h => by (cases h), fun c h => by
     obtain rfl := Option.some.inj h
     refine ⟨⟨rfl, ?_⟩, kv_0' hm hp a, by simp only; omega, fun h x hx' => ?_⟩
     ·simp only [List.mem_cons, List.not_mem_nil, or_false] at hp
      rcases hp with rfl | rfl | rfl | rfl <;> trivial
     ·simp only [hk, hx] at hx'
      obtain rfl := Option.some.inj hx'
      exact hpa h⟩
   have e : ∀ c : KCl, KSt.begin s o = (s, .inl c) → advG KPl (o :: l) s ⟨k, none, t.ans⟩ = (s, ⟨k, some c, t.ans⟩) := fun c hc => by
    have hb : KPl.beg s o = (s, Sum.inl c) := hc
    simp only [advG, hb]
    rfl
   have e' : KSt.begin s o = (s, .inr (false, 0)) → advG KPl (o :: l) s ⟨k, none, t.ans⟩ = advG KPl l s ⟨k + 1, none, t.ans ++ [(false, 0)]⟩ := fun hc => by
    have hb : KPl.beg s o = (s, Sum.inr (false, 0)) := hc
    simp only [advG, hb]
    rfl
   simp only [rbegL]
   by_cases k1 : o.kd = 1
   ·rw [if_pos (by omega), e ⟨10, 0, 0, 0, 0, 0, o.a⟩ (by simp only [KSt.begin, if_pos k1]), show 10 * o.kd.toNat = 10 by omega]
    exact ⟨rfl, live 10 _ (by simp) fun _ => rfl⟩
   by_cases k2 : o.kd = 2
   ·rw [if_pos (by omega), e ⟨20, 0, 0, 0, 0, 0, 0⟩ (by simp only [KSt.begin, if_neg k1, if_pos k2]), show 10 * o.kd.toNat = 20 by omega]
    exact ⟨rfl, live 20 _ (by simp) fun h => by omega⟩
   by_cases k3 : o.kd = 3
   ·rw [if_pos (by omega), e ⟨30, 0, 0, 0, 0, 0, 0⟩ (by simp only [KSt.begin, if_neg k1, if_neg k2, if_pos k3]), show 10 * o.kd.toNat = 30 by omega]
    exact ⟨rfl, live 30 _ (by simp) fun h => by omega⟩
   by_cases k4 : o.kd = 4
   ·rw [if_pos (by omega), e ⟨40, 0, 0, 0, 0, 0, 0⟩ (by simp only [KSt.begin, if_neg k1, if_neg k2, if_neg k3, if_pos k4]), show 10 * o.kd.toNat = 40 by omega]
    exact ⟨rfl, live 40 _ (by simp) fun h => by omega⟩
   ·rw [if_neg (by omega), e' (by simp only [KSt.begin, if_neg k1, if_neg k2, if_neg k3, if_neg k4])]
    have := adv_rel hm l (k + 1) (t.fin (false, 0)) s e2 rfl (by simp [RTh.fin, hk]) hlt (by simp [RTh.fin, ha])
    exact this
theorem step_a (s : KSt) (c c' : KCl) (h : (s.step c).2 = .inl c') : c'.a = c.a ∧ (c'.pc < 20 → c.pc < 20) := by
 obtain ⟨pc, n0, n1, n2, n3, n4, a⟩ := c
 unfold KSt.step at h
 (repeat' split at h) <;> first
   | (cases h; done)
   | (simp only [Sum.inl.injEq] at h; subst h; refine ⟨rfl, fun h => ?_⟩; simp_all)
theorem step_rel {s : KSt} {ops : List Op4} {g : GT KPl} {t : RTh} (hW : KWf s) (h : TRel s.nx.length ops g t) {c : KCl} (hc : g.call = some c) :
 (stpG KPl ops s g).1 = (rstep s t c.a).1 ∧ TRel s.nx.length ops (stpG KPl ops s g).2 (rbeg ops (rstep s t c.a).2) ∧ KWf (stpG KPl ops s g).1 ∧ (stpG KPl ops s g).1.nx.length = s.nx.length := by
 obtain ⟨h1, h2, h3, h4⟩ := h.some c hc
 have hs := liv_step (s := s) h1 h2.pc
 have hkv := kv_step hW h2
 have hsl := step_len s c
 obtain ⟨e1, e2⟩ := hs
 have ei : ∀ q' (c' : KCl), s.step c = (q', .inl c') → stpG KPl ops s g = (q', ⟨g.k, some c', g.ans⟩) := fun q' c' h => by
  have hb : KPl.stp s c = (q', Sum.inl c') := h
  simp only [stpG, hc, hb]
  rfl
 have er : ∀ q' (a : Bool × Int), s.step c = (q', .inr a) → stpG KPl ops s g = advG KPl (ops.drop (g.k + 1)) q' ⟨g.k + 1, none, t.ans ++ [a]⟩ := fun q' a h' => by
  have hb : KPl.stp s c = (q', Sum.inr a) := h'
  rw [h.ans]
  simp only [stpG, hc, hb]
  rfl
 have ha := step_a s c
 cases hr : s.step c with
 | mk q' r =>
   rw [hr] at e1 e2 hkv hsl ha
   simp only at e1 hkv hsl ha
   cases r with
   | inl c' =>
     rw [ei _ _ hr]
     obtain ⟨f1, f2, f3⟩ := e2
     have hv := hkv.2 c' rfl
     rw [hsl] at hv
     have hp : (rstep s t c.a).2.pc ≠ 0 := by
      rw [f1.1]
      have := hv.pc
      intro h0
      rw [h0] at this
      simp at this
     rw [rbeg_live hp]
     refine ⟨e1.symm, ⟨by rw [f2]; exact h.k, by rw [f3]; exact h.ans, by rw [f3, f2]; exact h.al, by rw [f2]; exact h.kl, fun h => by (cases h), fun c2 hc2 => ?_⟩, hkv.1, hsl⟩
     obtain rfl := Option.some.inj hc2
     obtain ⟨a1, a2⟩ := ha c' rfl
     refine ⟨f1, hv, by rw [f2]; exact h3, fun hp x hx => ?_⟩
     rw [f2] at hx
     rw [a1]
     exact h4 (a2 hp) x hx
   | inr a =>
     rw [er _ _ hr]
     obtain ⟨f1, f2, f3⟩ := e2
     have hk := h.k
     have hal := h.al
     have := adv_rel (m := s.nx.length) hW.n2 (ops.drop (g.k + 1)) (g.k + 1) (rstep s t c.a).2 q' rfl f1 (by omega) (by omega) (by rw [f3, List.length_append, hal]; simp; omega)
     rw [f3] at this
     have e3 : rbeg ops (rstep s t c.a).2 = rbegL (ops.drop (g.k + 1)) (rstep s t c.a).2 := by
      unfold rbeg
      rw [if_pos f1, f2, hk]
     rw [e3]
     refine ⟨this.1.trans e1.symm, this.2, by rw [this.1]; exact hkv.1, by rw [this.1]; exact hsl⟩
theorem TRel.ended {n : Nat} {ops : List Op4} {g : GT KPl} {t : RTh} (h : TRel n ops g t) : decide (ops.length ≤ t.k) = !g.call.isSome := by
 cases hc : g.call with
 | none => have := (h.none hc).2; simp; omega
 | some c => have := (h.some c hc).2.2.1; simp; omega
end
section
variable {W wr w' : World} {n : Nat} {ops : Nat → List Op4} {opv : Nat → Value} {B : MK} {s : KSt} {tbs : Nat → Nat} {rt : Nat → RTh} {ovs : Nat → Value} {en : Nat → Bool}
structure RM (W : World) (n : Nat) (ops : Nat → List Op4) (opv : Nat → Value) (B : MK) (s : KSt) (tbs : Nat → Nat) (rt : Nat → RTh) (ovs : Nat → Value) (en : Nat → Bool) (wr : World) : Prop where
 size : W.heap.size ≤ wr.heap.size
 old : ∀ r, r < W.heap.size → wr.heap[r]? = W.heap[r]?
 m : MAt wr B s
 t : ∀ j, j < n → TAt wr (tbs j) (opv j) (rt j) (ovs j) (en j)
 o : ∀ j, j < n → wr.ownsRow 0 47 4 (opv j) (ops j).length (opsC (ops j))
 dt : ∀ a b, a < n → b < n → a ≠ b → tbs a ≠ tbs b
 dv : ∀ a b g, a < n → b < n → a ≠ b → (ovs a).ownBlock = some g → (ovs b).ownBlock ≠ some g
 nm : W.heap.size ≤ B.mb
 nn : W.heap.size ≤ B.nb
 nv : W.heap.size ≤ B.vb
 nt : ∀ j, j < n → W.heap.size ≤ tbs j
 nw : ∀ j g, j < n → (ovs j).ownBlock = some g → W.heap.size ≤ g
def updN {α : Type} (f : Nat → α) (x : Nat) (v : α) : Nat → α := fun j => if j = x then v else f j
theorem updN_eq {α : Type} (f : Nat → α) (x : Nat) (v : α) : updN f x v x = v := if_pos rfl
theorem updN_ne {α : Type} (f : Nat → α) {x j : Nat} (v : α) (h : j ≠ x) : updN f x v j = f j := if_neg h
theorem RM.go (h : RM W n ops opv B s tbs rt ovs en wr) {x : Nat} (hx : x < n) {s' : KSt} {t' : RTh} {e : Bool} (hO : Out6 wr B (tbs x) (opv x) (ovs x) e w' (s', t')) :
 ∃ ov', RM W n ops opv B s' tbs (updN rt x t') (updN ovs x ov') (updN en x e) w' ∧ ∀ (r : Nat) (c : Array Value) (e : TypeId) (z : Nat × Nat), wr.heap[r]? = some (.cells c e z) → e ≠ 121 → e ≠ 2 → e ≠ 158 → e ≠ 44 → w'.heap[r]? = wr.heap[r]? := by
 obtain ⟨ov', m1, t1, s1, o1, f1⟩ := hO
 obtain ⟨cn, hn1, _⟩ := h.m.n
 obtain ⟨cv, hv1, _⟩ := h.m.v
 have hsz := h.size
 have hTx := h.t x hx
 have hrow : ∀ (r : Nat) (c : Array Value) (e : TypeId) (z : Nat × Nat), wr.heap[r]? = some (.cells c e z) → e ≠ 44 → some r ≠ (ovs x).ownBlock := fun r c e z hr he => own_type hTx.row hr fun h => he h.symm
 have keep : ∀ (r : Nat) (c : Array Value) (e : TypeId) (z : Nat × Nat), wr.heap[r]? = some (.cells c e z) → e ≠ 121 → e ≠ 2 → e ≠ 158 → e ≠ 44 → w'.heap[r]? = wr.heap[r]? := fun r c e z hr e1 e2 e3 e4 =>
  o1 r (alt hr) (heap_ty hr h.m.o e1) (heap_ty hr hn1 e2) (heap_ty hr hv1 e2) (heap_ty hr hTx.o e3) (hrow _ _ _ _ hr e4)
 have hth : ∀ j, j < n → j ≠ x → w'.heap[tbs j]? = wr.heap[tbs j]? := fun j hj hne =>
  o1 _ (h.t j hj).lt (heap_ty (h.t j hj).o h.m.o (by decide)) (heap_ty (h.t j hj).o hn1 (by decide)) (heap_ty (h.t j hj).o hv1 (by decide)) (h.dt j x hj hx hne) (hrow _ _ _ _ (h.t j hj).o (by decide))
 have hvlt : ∀ j g, j < n → (ovs j).ownBlock = some g → g < wr.heap.size := fun j g hj hg => by
  obtain ⟨c, hc⟩ := own_row_ty (h.t j hj).row hg
  exact (alt hc)
 refine ⟨ov', ⟨by omega, fun r hr => ?_, m1, fun j hj => ?_, fun j hj => ?_, h.dt, fun a b g ha hb hab hg => ?_, h.nm, h.nn, h.nv, h.nt, fun j g hj hg => ?_⟩, keep⟩
 ·have a1 := h.nm
  have a2 := h.nn
  have a3 := h.nv
  have a4 := h.nt x hx
  refine (o1 r (by omega) (by omega) (by omega) (by omega) (by omega) fun e => ?_).trans (h.old r hr)
  have := h.nw x r hx e.symm
  omega
 ·by_cases e : j = x
  ·subst e
   rw [updN_eq, updN_eq, updN_eq]
   exact t1
  ·rw [updN_ne _ _ e, updN_ne _ _ e, updN_ne _ _ e]
   refine (h.t j hj).same (hth j hj e) fun r hr => ?_
   obtain ⟨c, hc⟩ := own_row_ty (h.t j hj).row hr.symm
   exact o1 _ (alt hc) (heap_ty hc h.m.o (by decide)) (heap_ty hc hn1 (by decide)) (heap_ty hc hv1 (by decide)) (heap_ty hc hTx.o (by decide)) fun he => h.dv j x r hj hx e hr.symm he.symm
 ·exact ownsRow_same2 (h.o j hj) fun b hb _ => by
   obtain ⟨c, hc⟩ := own_row_ty (h.o j hj) hb
   exact keep _ _ _ _ hc (by decide) (by decide) (by decide) (by decide)
 ·by_cases ea : a = x
  ·have eb : b ≠ x := fun e => hab (ea.trans e.symm)
   rw [ea, updN_eq] at hg
   rw [updN_ne _ _ eb]
   intro hgb
   rcases f1 with h1 | ⟨g', h1, h2⟩
   ·exact h.dv x b g hx hb (fun e => eb e.symm) (h1 ▸ hg) hgb
   ·rw [h1] at hg; cases hg
    have := hvlt b _ hb hgb; omega
  ·rw [updN_ne _ _ ea] at hg
   by_cases eb : b = x
   ·rw [eb, updN_eq]
    intro hgb
    rcases f1 with h1 | ⟨g', h1, h2⟩
    ·exact h.dv a x g ha hx ea hg (h1 ▸ hgb)
    ·rw [h1] at hgb; cases hgb
     have := hvlt a _ ha hg; omega
   ·rw [updN_ne _ _ eb]
    exact h.dv a b g ha hb hab hg
 ·by_cases e : j = x
  ·rw [e, updN_eq] at hg
   rcases f1 with h1 | ⟨g', h1, h2⟩
   ·exact h.nw x g hx (h1 ▸ hg)
   ·rw [h1] at hg; cases hg; omega
  ·rw [updN_ne _ _ e] at hg
   exact h.nw j g hj hg
theorem RM.same (h : RM W n ops opv B s tbs rt ovs en wr) (hs : wr.heap.size ≤ w'.heap.size) (hW : ∀ r, r < W.heap.size → w'.heap[r]? = wr.heap[r]?)
 (hk : ∀ (r : Nat) (c : Array Value) (e : TypeId) (z : Nat × Nat), wr.heap[r]? = some (.cells c e z) → e = 121 ∨ e = 2 ∨ e = 158 ∨ e = 44 ∨ e = 47 → w'.heap[r]? = wr.heap[r]?) : RM W n ops opv B s tbs rt ovs en w' := by
 have hsz := h.size
 obtain ⟨cn, hn1, _⟩ := h.m.n
 obtain ⟨cv, hv1, _⟩ := h.m.v
 refine ⟨by omega, fun r hr => (hW r hr).trans (h.old r hr), h.m.same (hk _ _ _ _ h.m.o (by simp)) (hk _ _ _ _ hn1 (by simp)) (hk _ _ _ _ hv1 (by simp)), fun j hj => ?_, fun j hj => ?_, h.dt, h.dv, h.nm, h.nn, h.nv, h.nt, h.nw⟩
 ·refine (h.t j hj).same (hk _ _ _ _ (h.t j hj).o (by simp)) fun r hr => ?_
  obtain ⟨c, hc⟩ := own_row_ty (h.t j hj).row hr.symm
  exact hk _ _ _ _ hc (by simp)
 ·exact ownsRow_same2 (h.o j hj) fun b hb _ => by
   obtain ⟨c, hc⟩ := own_row_ty (h.o j hj) hb
   exact hk _ _ _ _ hc (by simp)
theorem RM.heap (h : RM W n ops opv B s tbs rt ovs en wr) (e : w'.heap = wr.heap) : RM W n ops opv B s tbs rt ovs en w' := h.same (by rw [e]; exact Nat.le_refl _) (fun r _ => by rw [e]) fun r _ _ _ _ _ => by rw [e]
theorem RM.more (h : RM W n ops opv B s tbs rt ovs en wr) (hs : wr.heap.size ≤ w'.heap.size) (e : ∀ r, r < wr.heap.size → w'.heap[r]? = wr.heap[r]?) : RM W n ops opv B s tbs rt ovs en w' :=
 h.same hs (fun r hr => e r (Nat.lt_of_lt_of_le hr h.size)) fun r c _ _ hr _ => e r (alt hr)
structure RG (n : Nat) (ops : Nat → List Op4) (m : Nat) (g : GS KPl) (s : KSt) (rt : Nat → RTh) (en : Nat → Bool) : Prop where
 q : g.q = s
 w : KWf s
 l : s.nx.length = m
 t : ∀ j, j < n → TRel m (ops j) (g.th j) (rt j)
 e : ∀ j, j < n → en j = endedOf g j
 ol : ∀ j, j < n → (ops j).length ≤ 65536
theorem put_eq {m : Pl} (g : GS m) (x : Nat) (r : m.S × GT m) : (g.put x r).th x = r.2 := by simp [GS.put]
theorem put_ne {m : Pl} (g : GS m) {x j : Nat} (r : m.S × GT m) (h : j ≠ x) : (g.put x r).th j = g.th j := by simp [GS.put, h]
theorem put_q {m : Pl} (g : GS m) (x : Nat) (r : m.S × GT m) : (g.put x r).q = r.1 := rfl
theorem RG.turn {m : Nat} {g : GS KPl} (h : RG n ops m g s rt en) {x : Nat} (hx : x < n) {c : KCl} (hc : (g.th x).call = some c) :
 RG n ops m (g.put x (stpG KPl (ops x) g.q (g.th x))) (rstep s (rt x) c.a).1 (updN rt x (rbeg (ops x) (rstep s (rt x) c.a).2)) (updN en x (decide ((ops x).length ≤ (rbeg (ops x) (rstep s (rt x) c.a).2).k))) := by
 obtain ⟨hq, hw, rfl, ht, he, ho⟩ := h
 obtain ⟨h1, h2, h3, h4⟩ := step_rel hw (ht x hx) hc
 rw [← hq] at h1 h2 h3 h4 ⊢
 refine ⟨by rw [put_q]; exact h1, by rw [← h1]; exact h3, by rw [← h1]; exact h4, fun j hj => ?_, fun j hj => ?_, ho⟩
 ·by_cases e : j = x
  ·subst e
   rw [put_eq, updN_eq]
   exact h2
  ·rw [put_ne _ _ e, updN_ne _ _ e, hq]
   exact ht j hj
 ·by_cases e : j = x
  ·subst e
   rw [updN_eq, h2.ended]
   simp only [endedOf, GS.live, put_eq]
  ·rw [updN_ne _ _ e, he j hj]
   simp only [endedOf, GS.live, put_ne _ _ e]
def t00 : RTh := ⟨0, 0, 0, 0, 0, 0, 0, []⟩
theorem RG.born {m i : Nat} {g : GS KPl} (h : RG i ops m g s rt en) (hl : (ops i).length ≤ 65536) (h0 : g.th i = ⟨0, none, []⟩) (ht0 : rt i = t00) :
 RG (i + 1) ops m (g.put i (advG KPl (ops i) g.q (g.th i))) s (updN rt i (rbeg (ops i) t00)) (updN en i (decide ((ops i).length ≤ (rbeg (ops i) t00).k))) := by
 obtain ⟨hq, hw, rfl, ht, he, ho⟩ := h
 have ha := adv_rel (m := s.nx.length) hw.n2 (ops := ops i) (ops i) 0 t00 s (by simp) rfl rfl (Nat.zero_le _) rfl
 have e0 : rbeg (ops i) t00 = rbegL (ops i) t00 := by
  unfold rbeg
  exact if_pos rfl
 have e1 : advG KPl (ops i) g.q (g.th i) = advG KPl (ops i) s ⟨0, none, t00.ans⟩ := by rw [h0, hq]; rfl
 rw [e0, e1]
 refine ⟨by rw [put_q]; exact ha.1, hw, rfl, fun j hj => ?_, fun j hj => ?_, fun j hj => ?_⟩
 ·by_cases e : j = i
  ·subst e
   rw [put_eq, updN_eq]
   exact ha.2
  ·rw [put_ne _ _ e, updN_ne _ _ e]
   exact ht j (by omega)
 ·by_cases e : j = i
  ·subst e
   rw [updN_eq, ha.2.ended]
   simp only [endedOf, GS.live, put_eq]
  ·rw [updN_ne _ _ e, he j (by omega)]
   simp only [endedOf, GS.live, put_ne _ _ e]
 ·by_cases e : j = i
  ·rw [e]; exact hl
  ·exact ho j (by omega)
end
section
variable {w w' : World}
structure TurnMem (w : World) (ub : Nat) (la : Option Addr) (ll lc M p rd : Nat) (ov : Value) (order : List Nat) : Prop where
 o : w.heap[ub]? = some (.cells #[.slice la ll lc, .int .i64 p, .int .i64 rd, .int .i64 M, ov, .bool false] 162 (0, 0))
 row : w.ownsRow 0 3 1 ov order.length (order.map fun i : Nat => Value.int .i64 i)
structure TurnAt (w wr : World) (ub : Nat) (la : Option Addr) (ll lc M p rd : Nat) (ov : Value) : Prop where
 o : wr.heap[ub]? = some (.cells #[.slice la ll lc, .int .i64 p, .int .i64 rd, .int .i64 M, ov, .bool false] 162 (0, 0))
 old : ∀ r, r ≠ ub → wr.heap[r]? = w.heap[r]?
 size : wr.heap.size = w.heap.size
theorem TurnAt.setP {wr : World} {ub : Nat} {la : Option Addr} {ll lc M p rd : Nat} {ov : Value} (h : TurnAt w wr ub la ll lc M p rd ov) {u : World} (p' : Nat) (hu : u.heap = (wr.setCell ⟨ub, 1, none⟩ (.int .i64 p')).heap) : TurnAt w u ub la ll lc M p' rd ov :=
 ⟨by rw [hu, heap_set_eq h.o]; rfl, fun r hr => by rw [hu, heap_setCell_ne _ _ _ hr]; exact h.old r hr, by rw [hu, World.size_setCell]; exact h.size⟩
theorem TurnAt.setR {wr : World} {ub : Nat} {la : Option Addr} {ll lc M p rd : Nat} {ov : Value} (h : TurnAt w wr ub la ll lc M p rd ov) {u : World} (r' : Nat) (hu : u.heap = (wr.setCell ⟨ub, 2, none⟩ (.int .i64 r')).heap) : TurnAt w u ub la ll lc M p r' ov :=
 ⟨by rw [hu, heap_set_eq h.o]; rfl, fun r hr => by rw [hu, heap_setCell_ne _ _ _ hr]; exact h.old r hr, by rw [hu, World.size_setCell]; exact h.size⟩
theorem TurnAt.heap {wr : World} {ub : Nat} {la : Option Addr} {ll lc M p rd : Nat} {ov : Value} (h : TurnAt w wr ub la ll lc M p rd ov) {u : World} (hu : u.heap = wr.heap) : TurnAt w u ub la ll lc M p rd ov :=
 ⟨by rw [hu]; exact h.o, fun r hr => by rw [hu]; exact h.old r hr, by rw [hu]; exact h.size⟩
structure PKept (w wr : World) (ub : Nat) (ov ov' : Value) : Prop where
 size : w.heap.size ≤ wr.heap.size
 old : ∀ r, r < w.heap.size → r ≠ ub → some r ≠ ov.ownBlock → wr.heap[r]? = w.heap[r]?
 fo : ov'.ownBlock = ov.ownBlock ∨ ∃ g, ov'.ownBlock = some g ∧ w.heap.size ≤ g
theorem turn_app {wr w1 u : World} {ub : Nat} {la : Option Addr} {ll lc M p0 rd0 p rd x : Nat} {order : List Nat} {ov v' : Value} (hT : TurnMem w ub la ll lc M p0 rd0 ov order) (h : TurnAt w wr ub la ll lc M p rd ov)
 (hown : w1.ownsRow 0 3 1 v' (order.length + 1) ((order.map fun i : Nat => Value.int .i64 i) ++ [.int .i64 x])) (hold : ∀ r, r < wr.heap.size → some r ≠ ov.ownBlock → w1.heap[r]? = wr.heap[r]?) (hsz : wr.heap.size ≤ w1.heap.size)
 (hfr : v'.ownBlock = ov.ownBlock ∨ ∃ g, v'.ownBlock = some g ∧ wr.heap.size ≤ g) (hu : u.heap = (w1.setCell ⟨ub, 4, none⟩ v').heap) :
 TurnMem u ub la ll lc M p rd v' (order ++ [x]) ∧ PKept w u ub ov v' := by
 have hub := (Array.getElem?_eq_some_iff.1 h.o).1
 have hne : some ub ≠ ov.ownBlock := own_type hT.row hT.o (by decide)
 have hs := h.size
 have hvt : v'.ownBlock ≠ some ub := by
  rcases hfr with e | ⟨g, e, hg⟩
  ·rw [e]; exact fun h => hne h.symm
  ·rw [e]; intro h; cases h; omega
 have hou : ∀ r, r ≠ ub → u.heap[r]? = w1.heap[r]? := fun r hr => by rw [hu, heap_setCell_ne _ _ _ hr]
 refine ⟨⟨?_, ?_⟩, ⟨?_, fun r h1 h2 h3 => ?_, ?_⟩⟩
 ·rw [hu, heap_set_eq ((hold ub hub hne).trans h.o)]; rfl
 ·rw [List.length_append, List.map_append]
  exact ownsRow_same2 hown fun b hb _ => hou b fun e => hvt (e ▸ hb)
 ·rw [hu, World.size_setCell]; omega
 ·exact (hou r h2).trans ((hold r (by omega) h3).trans (h.old r h2))
 ·rcases hfr with e | ⟨g, e, hg⟩
  ·exact .inl e
  ·exact .inr ⟨g, e, by omega⟩
structure PIn (w : World) (ub : Nat) (la : Option Addr) (n : Nat) (tbs : Nat → Nat) (e : Nat → Bool) : Prop where
 c : ∀ j, j < n → ∃ lb, la = some ⟨lb, 0, none⟩ ∧ lb ≠ ub ∧ w.cell? ⟨lb, j, none⟩ = some (.pointer (some ⟨tbs j, 0, none⟩)) ∧ tbs j ≠ ub ∧ w.cell? ⟨tbs j, 13, none⟩ = some (.bool (e j))
theorem PIn.at {wr : World} {ub : Nat} {la : Option Addr} {n : Nat} {tbs : Nat → Nat} {e : Nat → Bool} (h : PIn w ub la n tbs e) (hold : ∀ r, r ≠ ub → wr.heap[r]? = w.heap[r]?) : PIn wr ub la n tbs e := ⟨fun j hj => by
 obtain ⟨lb, h1, h2, h3, h4, h5⟩ := h.c j hj
 exact ⟨lb, h1, h2, (cell_heap (hold lb h2)).1.trans h3, h4, (cell_heap (hold _ h4)).1.trans h5⟩⟩
theorem pick_mod {S : List Int} {n p rd x p1 r1 : Nat} {e : Nat → Bool} (hn : 0 < n) (hr : rd ≤ n) (h : PickRel S n e p (rd % n) x p1 r1) : ∃ r2, PickRel S n e p rd x p1 r2 ∧ r2 % n = r1 % n ∧ r2 ≤ n := by
 rcases h with ⟨p', a1, a2, a3, a4, rfl, rfl⟩ | ⟨a1, rfl, r, b1, b2, b3, rfl, rfl⟩
 ·exact ⟨rd, .inl ⟨p', a1, a2, a3, a4, rfl, rfl⟩, (Nat.mod_mod _ _).symm, hr⟩
 ·refine ⟨r % n + 1, .inr ⟨a1, rfl, ?_⟩, rfl, Nat.mod_lt _ hn⟩
  rcases Nat.lt_or_ge rd n with h | h
  ·rw [Nat.mod_eq_of_lt h] at b1 b2
   exact ⟨r, b1, b2, b3, rfl, rfl⟩
  ·obtain rfl : rd = n := by omega
   rw [Nat.mod_self] at b2
   refine ⟨r + rd, by omega, fun j h1 h2 => ?_, by rw [Nat.add_mod_right]; exact b3, by rw [Nat.add_mod_right], rfl⟩
   have := b2 (j - rd) (by omega) (by omega)
   rwa [← Nat.add_mod_right, Nat.sub_add_cancel h1] at this
theorem pick_over {ub M p0 rd ll lc n ec : Nat} {la ea : Option Addr} {tbs : Nat → Nat} {e : Nat → Bool} {ov : Value} {order : List Nat} (hn : n ≤ 64) (hI : PIn w ub ea n tbs e) (hT : TurnMem w ub la ll lc M p0 rd ov order) (hall : ∀ j, j < n → e j = true) :
 Calls Try.prog 70 #[.pointer (some ⟨ub, 0, none⟩), .slice ea n ec] w fun x w' => x = .returned (.int .i64 (-1)) ∧ w' = w := by
 have A : Aside (PIn w ub ea n tbs e ∧ True) := ⟨hI, trivial⟩
 clear hI hT
 go_enter Try.func70, Try.ntmps70
 go_wp2
 go_loopg [5, 6] n (fun g l i wr => ∃ c k : Nat, l = .int .i64 c ∧ i = .int .i64 k ∧ k ≤ n ∧ g = n - k ∧ wr = w ∧ c ≤ k ∧ (0 < c ↔ ∃ j, j < k ∧ e j = false))
 case atStart => exact ⟨0, 0, rfl, rfl, Nat.zero_le _, rfl, rfl, Nat.le_refl _, fun h => by omega, fun ⟨j, h, _⟩ => by omega⟩
 case round =>
  obtain ⟨c, k, rfl, rfl, hk, rfl, rfl, hck, hcc⟩ := hrel
  rcases Nat.lt_or_ge k n with hlt | hge
  ·have CC : Aside (0 < c ↔ ∃ j, j < k ∧ e j = false) := hcc
   clear hcc
   have hlt2 : (k : Int) < (n : Int) := by omega
   have hwk : IntKind.i64.wrap ((k : Int) + 1) = ((k + 1 : Nat) : Int) := IntWalk.i64_in _ (by omega)
   obtain ⟨lb, rfl, _, f1, _, f2⟩ := A.out.1.c k hlt
   cases hek : e k with
   | true =>
     rw [hek] at f2
     go_wp2
     go_roundg (n - (k + 1))
     case measure => omega
     case rel =>
      refine ⟨c, k + 1, rfl, rfl, hlt, rfl, rfl, by omega, CC.out.trans ⟨fun ⟨j, h1, h2⟩ => ⟨j, by omega, h2⟩, fun ⟨j, h1, h2⟩ => ⟨j, ?_, h2⟩⟩⟩
      rcases Nat.lt_or_ge j k with h | h
      ·exact h
      ·obtain rfl : j = k := by omega
       rw [hek] at h2; cases h2
   | false =>
     rw [hek] at f2
     have hwc : IntKind.i64.wrap ((c : Int) + 1) = ((c + 1 : Nat) : Int) := IntWalk.i64_in _ (by omega)
     go_wp2
     go_roundg (n - (k + 1))
     case measure => omega
     case rel => exact ⟨c + 1, k + 1, rfl, rfl, hlt, rfl, rfl, by omega, fun _ => ⟨k, by omega, hek⟩, fun _ => by omega⟩
  ·obtain rfl : k = n := by omega
   have hge2 : ¬ (k : Int) < (k : Int) := by omega
   have hc0 : c = 0 := by
    rcases Nat.eq_zero_or_pos c with h | h
    ·exact h
    ·obtain ⟨j, h1, h2⟩ := hcc.1 h
     rw [hall j h1] at h2; cases h2
   subst hc0
   clear hcc
   go_wp2
   go_ret
   exact ⟨rfl, rfl⟩
theorem pick_full {ub M p0 rd ll lc n ec : Nat} {la ea : Option Addr} {tbs : Nat → Nat} {e : Nat → Bool} {ov : Value} {order : List Nat} (hn : n ≤ 64) (hI : PIn w ub ea n tbs e) (hT : TurnMem w ub la ll lc M p0 rd ov order) (hlive : ∃ j, j < n ∧ e j = false) (hM : order.length = M) :
 Calls Try.prog 70 #[.pointer (some ⟨ub, 0, none⟩), .slice ea n ec] w fun x w' => x = .returned (.int .i64 (-1)) ∧ w'.heap = (w.setCell ⟨ub, 5, none⟩ (.bool true)).heap := by
 obtain ⟨oa, oc, rfl⟩ : ∃ oa oc, ov = .slice oa order.length oc := by
  rcases hT.row.2 with ⟨h1, h2⟩ | ⟨g, cap, cur, h1, _⟩
  ·exact ⟨none, 0, by rw [h1, h2]⟩
  ·exact ⟨_, _, h1⟩
 have A : Aside (PIn w ub ea n tbs e ∧ TurnMem w ub la ll lc M p0 rd (.slice oa order.length oc) order ∧ (∃ j, j < n ∧ e j = false)) := ⟨hI, hT, hlive⟩
 clear hI hT hlive
 go_enter Try.func70, Try.ntmps70
 go_wp2
 go_loopg [5, 6] n (fun g l i wr => ∃ c k : Nat, l = .int .i64 c ∧ i = .int .i64 k ∧ k ≤ n ∧ g = n - k ∧ wr = w ∧ c ≤ k ∧ (0 < c ↔ ∃ j, j < k ∧ e j = false))
 case atStart => exact ⟨0, 0, rfl, rfl, Nat.zero_le _, rfl, rfl, Nat.le_refl _, fun h => by omega, fun ⟨j, h, _⟩ => by omega⟩
 case round =>
  obtain ⟨c, k, rfl, rfl, hk, rfl, rfl, hck, hcc⟩ := hrel
  rcases Nat.lt_or_ge k n with hlt | hge
  ·have CC : Aside (0 < c ↔ ∃ j, j < k ∧ e j = false) := hcc
   clear hcc
   have hlt2 : (k : Int) < (n : Int) := by omega
   have hwk : IntKind.i64.wrap ((k : Int) + 1) = ((k + 1 : Nat) : Int) := IntWalk.i64_in _ (by omega)
   obtain ⟨lb, rfl, _, f1, _, f2⟩ := A.out.1.c k hlt
   cases hek : e k with
   | true =>
     rw [hek] at f2
     go_wp2
     go_roundg (n - (k + 1))
     case measure => omega
     case rel =>
      refine ⟨c, k + 1, rfl, rfl, hlt, rfl, rfl, by omega, CC.out.trans ⟨fun ⟨j, h1, h2⟩ => ⟨j, by omega, h2⟩, fun ⟨j, h1, h2⟩ => ⟨j, ?_, h2⟩⟩⟩
      rcases Nat.lt_or_ge j k with h | h
      ·exact h
      ·obtain rfl : j = k := by omega
       rw [hek] at h2; cases h2
   | false =>
     rw [hek] at f2
     have hwc : IntKind.i64.wrap ((c : Int) + 1) = ((c + 1 : Nat) : Int) := IntWalk.i64_in _ (by omega)
     go_wp2
     go_roundg (n - (k + 1))
     case measure => omega
     case rel => exact ⟨c + 1, k + 1, rfl, rfl, hlt, rfl, rfl, by omega, fun _ => ⟨k, by omega, hek⟩, fun _ => by omega⟩
  ·obtain rfl : k = n := by omega
   have hge2 : ¬ (k : Int) < (k : Int) := by omega
   have hc0 : ¬ (c : Int) = 0 := by have := hcc.2 A.out.2.2; omega
   have u3 : wr.cell? ⟨ub, 3, none⟩ = some (.int .i64 M) := by simp [World.cell?, A.out.2.1.o]
   have u4 : wr.cell? ⟨ub, 4, none⟩ = some (.slice oa order.length oc) := by simp [World.cell?, A.out.2.1.o]
   have z5 : ∀ m, (wr.drewN m).frozen? ⟨ub, 5, none⟩ = false := fun m => by
    have e := A.out.2.1.o
    simp [World.frozen?, World.drewN, e]
   have u5 : ∀ m, (wr.drewN m).cell? ⟨ub, 5, none⟩ = some (.bool false) := fun m => by
    have e := A.out.2.1.o
    simp [World.cell?, World.drewN, e]
   have hMM : (M : Int) ≤ (order.length : Int) := by omega
   clear hcc
   go_wp2
   go_quiet (fail)
   go_wp2
   go_ret
   exact ⟨rfl, rfl⟩
theorem pick_some {ub M p0 rd lc n ec : Nat} {la ea : Option Addr} {S : List Int} {tbs : Nat → Nat} {e : Nat → Bool} {ov : Value} {order : List Nat} (hn : n ≤ 64) (hI : PIn w ub ea n tbs e) (hS : w.ownsRow 0 3 1 (.slice la S.length lc) S.length (S.map fun i : Int => Value.int .i64 i))
 (hT : TurnMem w ub la S.length lc M p0 rd ov order) (hub0 : some ub ≠ (Value.slice la S.length lc).ownBlock) (hp : p0 ≤ S.length) (hrd : rd < n) (hlive : ∃ j, j < n ∧ e j = false) (hM : M ≤ 1048576) (hol : order.length < M) (hSl : S.length < 10000000) :
 Calls Try.prog 70 #[.pointer (some ⟨ub, 0, none⟩), .slice ea n ec] w fun x w' => ∃ y p1 r1 ov', x = .returned (.int .i64 (y : Nat)) ∧ PickRel S n e p0 rd y p1 r1 ∧ TurnMem w' ub la S.length lc M p1 (r1 % n) ov' (order ++ [y]) ∧ PKept w w' ub ov ov' := by
 obtain ⟨i0, z0, hi, hz0, hz1, hz2, hz3⟩ := infoA3
 obtain ⟨oa, oc, rfl⟩ : ∃ oa oc, ov = .slice oa order.length oc := by
  rcases hT.row.2 with ⟨h1, h2⟩ | ⟨g, cap, cur, h1, _⟩
  ·exact ⟨none, 0, by rw [h1, h2]⟩
  ·exact ⟨_, _, h1⟩
 have A : Aside (PIn w ub ea n tbs e ∧ w.ownsRow 0 3 1 (.slice la S.length lc) S.length (S.map fun i : Int => Value.int .i64 i) ∧ TurnMem w ub la S.length lc M p0 rd (.slice oa order.length oc) order ∧ (∃ j, j < n ∧ e j = false) ∧ some ub ≠ (Value.slice la S.length lc).ownBlock) := ⟨hI, hS, hT, hlive, hub0⟩
 clear hI hS hT hlive hub0
 go_enter Try.func70, Try.ntmps70
 go_wp2
 go_loopg [5, 6] n (fun g l i wr => ∃ c k : Nat, l = .int .i64 c ∧ i = .int .i64 k ∧ k ≤ n ∧ g = n - k ∧ wr = w ∧ c ≤ k ∧ (0 < c ↔ ∃ j, j < k ∧ e j = false))
 case atStart => exact ⟨0, 0, rfl, rfl, Nat.zero_le _, rfl, rfl, Nat.le_refl _, fun h => by omega, fun ⟨j, h, _⟩ => by omega⟩
 case round =>
  obtain ⟨c, k, rfl, rfl, hk, rfl, rfl, hck, hcc⟩ := hrel
  rcases Nat.lt_or_ge k n with hlt | hge
  ·have CC : Aside (0 < c ↔ ∃ j, j < k ∧ e j = false) := hcc
   clear hcc
   have hlt2 : (k : Int) < (n : Int) := by omega
   have hwk : IntKind.i64.wrap ((k : Int) + 1) = ((k + 1 : Nat) : Int) := IntWalk.i64_in _ (by omega)
   obtain ⟨lb, rfl, _, f1, _, f2⟩ := A.out.1.c k hlt
   cases hek : e k with
   | true =>
     rw [hek] at f2
     go_wp2
     go_roundg (n - (k + 1))
     case measure => omega
     case rel =>
      refine ⟨c, k + 1, rfl, rfl, hlt, rfl, rfl, by omega, CC.out.trans ⟨fun ⟨j, h1, h2⟩ => ⟨j, by omega, h2⟩, fun ⟨j, h1, h2⟩ => ⟨j, ?_, h2⟩⟩⟩
      rcases Nat.lt_or_ge j k with h | h
      ·exact h
      ·obtain rfl : j = k := by omega
       rw [hek] at h2; cases h2
   | false =>
     rw [hek] at f2
     have hwc : IntKind.i64.wrap ((c : Int) + 1) = ((c + 1 : Nat) : Int) := IntWalk.i64_in _ (by omega)
     go_wp2
     go_roundg (n - (k + 1))
     case measure => omega
     case rel => exact ⟨c + 1, k + 1, rfl, rfl, hlt, rfl, rfl, by omega, fun _ => ⟨k, by omega, hek⟩, fun _ => by omega⟩
  ·obtain rfl : k = n := by omega
   have hge2 : ¬ (k : Int) < (k : Int) := by omega
   have hc0 : ¬ (c : Int) = 0 := by have := hcc.2 A.out.2.2.2.1; omega
   have u3 : wr.cell? ⟨ub, 3, none⟩ = some (.int .i64 M) := by simp [World.cell?, A.out.2.2.1.o]
   have u4 : wr.cell? ⟨ub, 4, none⟩ = some (.slice oa order.length oc) := by simp [World.cell?, A.out.2.2.1.o]
   have hMM : ¬ (M : Int) ≤ (order.length : Int) := by omega
   clear hcc
   rename World => w0
   go_wp2
   go_quiet (fail)
   go_wp2
   simp only [decide_eq_false (show ¬ M ≤ order.length by omega)]
   clear u3 u4 hMM hc0
   go_loopg [] (S.length - p0) (fun g wr => ∃ p, TurnAt w0 wr ub la S.length lc M p rd (.slice oa order.length oc) ∧ p0 ≤ p ∧ p ≤ S.length ∧ (∀ j y, p0 ≤ j → j < p → S[j]? = some y → ¬ okS k e y) ∧ g = S.length - p)
   case atStart => exact ⟨p0, ⟨A.out.2.2.1.o, fun _ _ => rfl, rfl⟩, Nat.le_refl _, hp, fun j y h1 h2 => by omega, rfl⟩
   case round =>
    obtain ⟨p, hW, hp1, hp2, hskip, rfl⟩ := hrel
    have B : Aside (TurnAt w0 wr ub la S.length lc M p rd (.slice oa order.length oc) ∧ (∀ j y, p0 ≤ j → j < p → S[j]? = some y → ¬ okS k e y)) := ⟨hW, hskip⟩
    have u0 : wr.cell? ⟨ub, 0, none⟩ = some (.slice la S.length lc) := by simp [World.cell?, hW.o]
    have u1 : wr.cell? ⟨ub, 1, none⟩ = some (.int .i64 p) := by simp [World.cell?, hW.o]
    clear hW hskip
    rcases Nat.lt_or_ge p S.length with hlt | hge
    ·have hlt3 : (p : Int) < (S.length : Int) := by omega
     go_wp2
     go_quiet (fail)
     have B2 : Aside (TurnAt w0 (wr.drewN nq) ub la S.length lc M p rd (.slice oa order.length oc)) := B.out.1.heap rfl
     generalize wr.drewN nq = wd at B2 ⊢
     obtain ⟨x, hx⟩ : ∃ x, S[p]? = some x := ⟨_, List.getElem?_eq_getElem hlt⟩
     obtain ⟨sb, scap, hsl, hsc⟩ := row_get (k := p) A.out.2.1 (x := .int .i64 x) (by simp [hx])
     simp only [Value.slice.injEq, Option.some.injEq, true_and] at hsl
     obtain ⟨rfl, rfl⟩ := hsl
     have hsu : sb ≠ ub := fun h => A.out.2.2.2.2 (by rw [← h]; rfl)
     clear u0 u1
     have u0 : wd.cell? ⟨ub, 0, none⟩ = some (.slice (some ⟨sb, 0, none⟩) S.length lc) := by simp [World.cell?, B2.out.o]
     have u1 : wd.cell? ⟨ub, 1, none⟩ = some (.int .i64 p) := by simp [World.cell?, B2.out.o]
     have ux : wd.cell? ⟨sb, p, none⟩ = some (.int .i64 x) := (cell_heap (B2.out.old sb hsu)).1.trans hsc.c
     go_wp2
     go_quiet (fail)
     have B3 : Aside (TurnAt w0 (wd.drewN nq) ub (some ⟨sb, 0, none⟩) S.length lc M p rd (.slice oa order.length oc)) := B2.out.heap rfl
     generalize wd.drewN nq = we at B3 ⊢
     clear u0 u1 ux B2
     have u1 : we.cell? ⟨ub, 1, none⟩ = some (.int .i64 p) := by simp [World.cell?, B3.out.o]
     have u4 : we.cell? ⟨ub, 4, none⟩ = some (.slice oa order.length oc) := by simp [World.cell?, B3.out.o]
     have z1 : we.frozen? ⟨ub, 1, none⟩ = false := by simp [World.frozen?, B3.out.o]
     have z4 : we.frozen? ⟨ub, 4, none⟩ = false := by simp [World.frozen?, B3.out.o]
     have hwr : IntKind.i64.wrap ((p : Int) + 1) = ((p + 1 : Nat) : Int) := IntWalk.i64_in _ (by omega)
     by_cases hx0 : 0 ≤ x
     ·obtain ⟨xn, rfl⟩ : ∃ xn : Nat, x = xn := ⟨x.toNat, by omega⟩
      by_cases hxn : xn < k
      ·have hxn3 : (xn : Int) < (k : Int) := by omega
       obtain ⟨lb, rfl, e1, f1, e2, f2⟩ := (A.out.1.at B3.out.old).c xn hxn
       have e1' : ¬ ub = lb := fun h => e1 h.symm
       have e2' : ¬ ub = tbs xn := fun h => e2 h.symm
       cases hek : e xn with
       | true =>
         rw [hek] at f2
         go_wp2
         go_roundg (S.length - (p + 1))
         case measure => omega
         case rel =>
          refine ⟨p + 1, B3.out.setP (p + 1) rfl, by omega, by omega, fun j y h1 h2 h3 => ?_, rfl⟩
          rcases Nat.lt_or_ge j p with h | h
          ·exact B.out.2 j y h1 h h3
          ·obtain rfl : j = p := by omega
           rw [hx] at h3
           cases h3
           exact fun h => by have := h.2.2; simp only [Int.toNat_natCast, hek] at this; cases this
       | false =>
         rw [hek] at f2
         have hub := (Array.getElem?_eq_some_iff.1 B3.out.o).1
         have hrow : we.ownsRow 0 3 1 (.slice oa order.length oc) order.length (order.map fun i : Nat => Value.int .i64 i) := ownsRow_same2 A.out.2.2.1.row fun b hb _ => B3.out.old b fun e => own_type A.out.2.2.1.row A.out.2.2.1.o (by decide) (by rw [← e, hb])
         have F0 : Aside (TurnAt w0 (we.setCell ⟨ub, 1, none⟩ (.int .i64 ((p + 1 : Nat) : Int))) ub (some ⟨sb, 0, none⟩) S.length lc M (p + 1) rd (.slice oa order.length oc)) := B3.out.setP (p + 1) rfl
         go_wp2_with (at_builtin; refine wpList_append_fresh rfl (.tmp 90) (.tmp 92) 24 rfl 3 i0 z0 1 8 Try.underlying24 hi hz0 hz1 hz2 hz3 (by decide) (.slice oa order.length oc) order.length (order.map fun i : Nat => Value.int .i64 i) rfl ?c0 ⟨we.heap.size, 0, none⟩ 1 1 [.int .i64 xn] rfl rfl ?c1 ?c2 ?c3 ?c4 ?_)
         case c0 => exact World.ownsRow.alloc (ownsRow_same2 hrow fun b hb _ => heap_setCell_ne _ _ _ fun e => own_type A.out.2.2.1.row A.out.2.2.1.o (by decide) (by rw [hb, e])) _
         case c1 => exact new_cells (X := we.setCell ⟨ub, 1, none⟩ (.int .i64 ((p + 1 : Nat) : Int))) (l := [.int .i64 xn]) (by simp)
         case c2 => intro u hu; simp at hu; subst hu; rfl
         case c3 => unfold maxLen; omega
         case c4 => omega
         ·intro v' w1 hown hgrow hfr
          obtain ⟨g, cap, rfl⟩ := own_slice hown
          have hold : ∀ r, r < (we.setCell ⟨ub, 1, none⟩ (.int .i64 ((p + 1 : Nat) : Int))).heap.size → some r ≠ (Value.slice oa order.length oc).ownBlock → w1.heap[r]? = (we.setCell ⟨ub, 1, none⟩ (.int .i64 ((p + 1 : Nat) : Int))).heap[r]? := fun r h1 h2 => grown_old hgrow h1 h2
          have hk1 := hold ub (by simpa using hub) (own_type A.out.2.2.1.row A.out.2.2.1.o (by decide))
          have hk2 := hk1.trans F0.out.o
          have k0 : w1.cell? ⟨ub, 4, none⟩ = some (.slice oa order.length oc) := by simp [World.cell?, hk2]
          have k1 : w1.frozen? ⟨ub, 4, none⟩ = false := by simp [World.frozen?, hk2]
          have G : Aside ((∀ r, r < (we.setCell ⟨ub, 1, none⟩ (.int .i64 ((p + 1 : Nat) : Int))).heap.size → some r ≠ (Value.slice oa order.length oc).ownBlock → w1.heap[r]? = (we.setCell ⟨ub, 1, none⟩ (.int .i64 ((p + 1 : Nat) : Int))).heap[r]?) ∧ (we.setCell ⟨ub, 1, none⟩ (.int .i64 ((p + 1 : Nat) : Int))).heap.size ≤ w1.heap.size ∧ ((Value.slice (some ⟨g, 0, none⟩) (order.length + 1) cap).ownBlock = (Value.slice oa order.length oc).ownBlock ∨ ∃ g', (Value.slice (some ⟨g, 0, none⟩) (order.length + 1) cap).ownBlock = some g' ∧ (we.setCell ⟨ub, 1, none⟩ (.int .i64 ((p + 1 : Nat) : Int))).heap.size ≤ g')) :=
           ⟨hold, Nat.le_trans (by simp) hgrow.size, hfr.imp id fun ⟨g', h1, h2⟩ => ⟨g', h1, by simp; omega⟩⟩
          clear hold hk1 hk2 hgrow hfr hrow
          go_wp2
          go_ret
          obtain ⟨g1, g2, g3⟩ := G.out
          have := turn_app A.out.2.2.1 F0.out hown g1 g2 g3 rfl
          exact ⟨xn, p + 1, rd, _, rfl, .inl ⟨p, hp1, B.out.2, hx, ⟨hx0, by omega, by simpa using hek⟩, rfl, rfl⟩, by rw [Nat.mod_eq_of_lt hrd]; exact this.1, this.2⟩
      ·have hxn2 : ¬ ((xn : Int) < (k : Int)) := by omega
       go_wp2
       go_roundg (S.length - (p + 1))
       case measure => omega
       case rel =>
        refine ⟨p + 1, B3.out.setP (p + 1) rfl, by omega, by omega, fun j y h1 h2 h3 => ?_, rfl⟩
        rcases Nat.lt_or_ge j p with h | h
        ·exact B.out.2 j y h1 h h3
        ·obtain rfl : j = p := by omega
         rw [hx] at h3
         cases h3
         exact fun h => by have := h.2.1; omega
     ·have hx1 : ¬ 0 ≤ x := hx0
      go_wp2
      go_roundg (S.length - (p + 1))
      case measure => omega
      case rel =>
       refine ⟨p + 1, B3.out.setP (p + 1) rfl, by omega, by omega, fun j y h1 h2 h3 => ?_, rfl⟩
       rcases Nat.lt_or_ge j p with h | h
       ·exact B.out.2 j y h1 h h3
       ·obtain rfl : j = p := by omega
        rw [hx] at h3
        cases h3
        exact fun h => by have := h.1; omega
    ·obtain rfl : p = S.length := by omega
     obtain ⟨yl, hyl, hyl2⟩ := A.out.2.2.2.1
     obtain ⟨r0, hr0, hr1, hr2⟩ : ∃ r0, rd ≤ r0 ∧ e (r0 % k) = false ∧ r0 ≤ 10000 := by
      refine ⟨yl + k * (rd + 1), ?_, ?_, ?_⟩
      ·have := Nat.mul_le_mul_right (rd + 1) (show 1 ≤ k by omega); omega
      ·rw [Nat.add_mul_mod_self_left, Nat.mod_eq_of_lt hyl]; exact hyl2
      ·have := Nat.mul_le_mul hn (show rd + 1 ≤ 65 by omega); omega
     have hlt3 : ¬ (S.length : Int) < (S.length : Int) := by omega
     go_wp2
     go_quiet (fail)
     have B2 : Aside (TurnAt w0 (wr.drewN nq) ub la S.length lc M S.length rd (.slice oa order.length oc)) := B.out.1.heap rfl
     generalize wr.drewN nq = wd at B2 ⊢
     clear u0 u1
     go_wp2
     go_loopg [] (r0 - rd) (fun g wr => ∃ r, TurnAt w0 wr ub la S.length lc M S.length (r % k) (.slice oa order.length oc) ∧ rd ≤ r ∧ r ≤ r0 ∧ (∀ j, rd ≤ j → j < r → e (j % k) = true) ∧ g = r0 - r)
     case atStart => exact ⟨rd, by rw [Nat.mod_eq_of_lt hrd]; exact B2.out, Nat.le_refl _, hr0, fun j h1 h2 => by omega, rfl⟩
     case round =>
      obtain ⟨r, hW, hra, hrb, hskip, rfl⟩ := hrel
      have C : Aside (TurnAt w0 wr ub la S.length lc M S.length (r % k) (.slice oa order.length oc) ∧ (∀ j, rd ≤ j → j < r → e (j % k) = true) ∧ (r + 1) % k = (r % k + 1) % k) := ⟨hW, hskip, by simp [Nat.add_mod]⟩
      have hmod : r % k < k := Nat.mod_lt _ (by omega)
      generalize hrk : r % k = rk at C hmod
      have u2 : wr.cell? ⟨ub, 2, none⟩ = some (.int .i64 rk) := by simp [World.cell?, C.out.1.o]
      have z2 : wr.frozen? ⟨ub, 2, none⟩ = false := by simp [World.frozen?, C.out.1.o]
      obtain ⟨lb, rfl, e1, f1, e2, f2⟩ := (A.out.1.at C.out.1.old).c rk hmod
      have e1' : ¬ ub = lb := fun h => e1 h.symm
      have e2' : ¬ ub = tbs rk := fun h => e2 h.symm
      have hwr : IntKind.i64.wrap ((rk : Int) + 1) = ((rk + 1 : Nat) : Int) := IntWalk.i64_in _ (by omega)
      have hmd : (rk : Int) < (k : Int) := by omega
      have hrm : IntKind.i64.wrap (Int.tmod ((rk + 1 : Nat) : Int) (k : Int)) = (((rk + 1) % k : Nat) : Int) := by
       rw [Int.tmod_eq_emod_of_nonneg (by omega), ← Int.natCast_emod]
       have := Nat.mod_lt (rk + 1) (show 0 < k by omega)
       exact IntWalk.i64_in _ (by omega)
      have hk0 : ¬ (k : Int) = 0 := by omega
      clear hW hskip
      cases hek : e rk with
      | true =>
        rw [hek] at f2
        go_wp2
        go_roundg (r0 - (r + 1))
        case measure =>
         rcases Nat.lt_or_ge r r0 with h | h
         ·omega
         ·obtain rfl : r = r0 := by omega
          rw [hrk, hek] at hr1; cases hr1
        case rel =>
         refine ⟨r + 1, by rw [C.out.2.2]; exact C.out.1.setR ((rk + 1) % k) rfl, by omega, ?_, fun j h1 h2 => ?_, rfl⟩
         ·rcases Nat.lt_or_ge r r0 with h | h
          ·omega
          ·obtain rfl : r = r0 := by omega
           rw [hrk, hek] at hr1; cases hr1
         ·rcases Nat.lt_or_ge j r with h | h
          ·exact C.out.2.1 j h1 h
          ·obtain rfl : j = r := by omega
           rw [hrk]; exact hek
      | false =>
        rw [hek] at f2
        have u4 : wr.cell? ⟨ub, 4, none⟩ = some (.slice oa order.length oc) := by simp [World.cell?, C.out.1.o]
        have z4 : wr.frozen? ⟨ub, 4, none⟩ = false := by simp [World.frozen?, C.out.1.o]
        have hub := (Array.getElem?_eq_some_iff.1 C.out.1.o).1
        have hrow : wr.ownsRow 0 3 1 (.slice oa order.length oc) order.length (order.map fun i : Nat => Value.int .i64 i) := ownsRow_same2 A.out.2.2.1.row fun b hb _ => C.out.1.old b fun e => own_type A.out.2.2.1.row A.out.2.2.1.o (by decide) (by rw [← e, hb])
        have F0 : Aside (TurnAt w0 (wr.setCell ⟨ub, 2, none⟩ (.int .i64 (((rk + 1) % k : Nat) : Int))) ub la S.length lc M S.length ((rk + 1) % k) (.slice oa order.length oc)) := C.out.1.setR ((rk + 1) % k) rfl
        go_wp2_with (at_builtin; refine wpList_append_fresh rfl (.tmp 137) (.tmp 139) 24 rfl 3 i0 z0 1 8 Try.underlying24 hi hz0 hz1 hz2 hz3 (by decide) (.slice oa order.length oc) order.length (order.map fun i : Nat => Value.int .i64 i) rfl ?c0 ⟨wr.heap.size, 0, none⟩ 1 1 [.int .i64 rk] rfl rfl ?c1 ?c2 ?c3 ?c4 ?_)
        case c0 => exact World.ownsRow.alloc (ownsRow_same2 hrow fun b hb _ => heap_setCell_ne _ _ _ fun e => own_type A.out.2.2.1.row A.out.2.2.1.o (by decide) (by rw [hb, e])) _
        case c1 => exact new_cells (X := wr.setCell ⟨ub, 2, none⟩ (.int .i64 (((rk + 1) % k : Nat) : Int))) (l := [.int .i64 rk]) (by simp)
        case c2 => intro u hu; simp at hu; subst hu; rfl
        case c3 => unfold maxLen; omega
        case c4 => omega
        ·intro v' w1 hown hgrow hfr
         obtain ⟨g, cap, rfl⟩ := own_slice hown
         have hold : ∀ b0, b0 < (wr.setCell ⟨ub, 2, none⟩ (.int .i64 (((rk + 1) % k : Nat) : Int))).heap.size → some b0 ≠ (Value.slice oa order.length oc).ownBlock → w1.heap[b0]? = (wr.setCell ⟨ub, 2, none⟩ (.int .i64 (((rk + 1) % k : Nat) : Int))).heap[b0]? := fun b0 h1 h2 => grown_old hgrow h1 h2
         have hk1 := hold ub (by simpa using hub) (own_type A.out.2.2.1.row A.out.2.2.1.o (by decide))
         have hk2 := hk1.trans F0.out.o
         have k0 : w1.cell? ⟨ub, 4, none⟩ = some (.slice oa order.length oc) := by simp [World.cell?, hk2]
         have k1 : w1.frozen? ⟨ub, 4, none⟩ = false := by simp [World.frozen?, hk2]
         have G : Aside ((∀ b0, b0 < (wr.setCell ⟨ub, 2, none⟩ (.int .i64 (((rk + 1) % k : Nat) : Int))).heap.size → some b0 ≠ (Value.slice oa order.length oc).ownBlock → w1.heap[b0]? = (wr.setCell ⟨ub, 2, none⟩ (.int .i64 (((rk + 1) % k : Nat) : Int))).heap[b0]?) ∧ (wr.setCell ⟨ub, 2, none⟩ (.int .i64 (((rk + 1) % k : Nat) : Int))).heap.size ≤ w1.heap.size ∧ ((Value.slice (some ⟨g, 0, none⟩) (order.length + 1) cap).ownBlock = (Value.slice oa order.length oc).ownBlock ∨ ∃ g', (Value.slice (some ⟨g, 0, none⟩) (order.length + 1) cap).ownBlock = some g' ∧ (wr.setCell ⟨ub, 2, none⟩ (.int .i64 (((rk + 1) % k : Nat) : Int))).heap.size ≤ g')) :=
          ⟨hold, Nat.le_trans (by simp) hgrow.size, hfr.imp id fun ⟨g', h1, h2⟩ => ⟨g', h1, by simp; omega⟩⟩
         clear hold hk1 hk2 hgrow hfr hrow
         go_wp2
         go_ret
         obtain ⟨g1, g2, g3⟩ := G.out
         have := turn_app (x := rk) A.out.2.2.1 F0.out hown g1 g2 g3 rfl
         subst hrk
         exact ⟨r % k, S.length, r % k + 1, _, rfl, .inr ⟨fun j y h1 h2 => B.out.2 j y h1 (List.getElem?_eq_some_iff.1 h2).1 h2, rfl, r, hra, C.out.2.1, hek, rfl, rfl⟩, this.1, this.2⟩
end
section
variable {W w wr w' : World} {n : Nat} {ops : Nat → List Op4} {opv : Nat → Value} {B : MK} {s : KSt} {tbs : Nat → Nat} {rt : Nat → RTh} {ovs : Nat → Value} {en : Nat → Bool}
theorem slice_row {v : Value} {e : TypeId} {sz n : Nat} {xs : List Value} (h : w.ownsRow 0 e sz v n xs) : ∃ a c, v = .slice a n c := by
 rcases h.2 with ⟨h1, h2⟩ | ⟨g, cap, cur, h1, _⟩
 ·exact ⟨none, 0, by rw [h1, h2]⟩
 ·exact ⟨_, _, h1⟩
theorem step_all {tb : Nat} {op ov : Value} {t : RTh} {en : Bool} {ops : List Op4} {g : GT KPl} {c : KCl} (hM : MAt w B s) (hT : TAt w tb op t ov en) (hr : w.ownsRow 0 47 4 op ops.length (opsC ops)) (hol : ops.length ≤ 65536) (hW : KWf s) (hR : TRel s.nx.length ops g t) (hc : g.call = some c) :
 Calls Try.prog 73 #[.pointer (some ⟨B.mb, 0, none⟩), .pointer (some ⟨tb, 0, none⟩)] w fun e w' => e = .returned (.tuple #[]) ∧ Out7 w B tb op ov en ops w' (rstep s t c.a) := by
 obtain ⟨oa, oc, rfl⟩ := slice_row hr
 obtain ⟨h1, h2, h3, h4⟩ := hR.some c hc
 have hal := hR.al
 obtain ⟨r1, r2⟩ := liv_step (s := s) h1 h2.pc
 have hkk : (rstep s t c.a).2.k ≤ ops.length ∧ (rstep s t c.a).2.ans.length = (rstep s t c.a).2.k := by
  revert r2
  cases (s.step c).2 with
  | inl c' => rintro ⟨_, e1, e2⟩; rw [e1, e2]; exact ⟨by omega, hal⟩
  | inr a => rintro ⟨_, e1, e2⟩; rw [e1, e2, List.length_append, List.length_singleton]; exact ⟨by omega, by omega⟩
 have hl1 : t.ans.length < 100000000 := by omega
 have hl2 : t.k < 100000000 := by omega
 obtain ⟨hp, hq⟩ := h1
 have g0 := h2.n0
 have g4 := h2.n4
 have gp := h2.pos
 have ha := h4
 obtain ⟨x, hx⟩ : ∃ x, ops[t.k]? = some x := ⟨_, List.getElem?_eq_getElem h3⟩
 have push := fun (hlt : t.pc < 20) C => st_push (a := c.a) hM hT hr hol h3 hal (by omega) C hkk.1 hkk.2
 have pop := fun (hlt : ¬ t.pc < 20) (hlt2 : t.pc < 30) C => st_pop (a := c.a) hM hT hr hol h3 hal (by omega) (by omega) C hkk.1 hkk.2
 have hpc := h2.pc
 simp only [List.mem_cons, List.not_mem_nil, or_false] at hpc
 rcases hpc with e | e | e | e | e | e | e | e | e | e | e | e | e | e | e | e | e | e <;> rw [e] at hp hq gp <;> simp only at hq
 ·refine push (by omega) ?_
  by_cases hn : s.fr.1 < 0
  ·exact pu10n hM hT hW hl1 hl2 hp hn
  ·exact pu10y hM hT hW hl1 hl2 hp hn
 ·have := gp (by simp)
  exact push (by omega) (pu11 hM hT hW hl1 hl2 hp (by rw [hq.1]; omega))
 ·exact push (by omega) (pu12 hM hT hW hl1 hl2 hp)
 ·exact push (by omega) (pu13 hM hT hW hl1 hl2 hp (by rw [hq]; omega) hr hx (h4 (by omega) x hx) (by omega))
 ·exact push (by omega) (pu14 hM hT hW hl1 hl2 hp)
 ·exact push (by omega) (pu15 hM hT hW hl1 hl2 hp (by rw [hq.2.2]; omega))
 ·exact push (by omega) (pu16 hM hT hW hl1 hl2 hp)
 ·refine pop (by omega) (by omega) ?_
  by_cases hn : s.hd.1 < 0
  ·exact po20n hM hT hW hl1 hl2 hp hn
  ·exact po20y hM hT hW hl1 hl2 hp hn
 ·have := gp (by simp)
  exact pop (by omega) (by omega) (po21 hM hT hW hl1 hl2 hp (by rw [hq.1]; omega))
 ·exact pop (by omega) (by omega) (po22 hM hT hW hl1 hl2 hp)
 ·exact pop (by omega) (by omega) (po23 hM hT hW hl1 hl2 hp (by rw [hq]; omega))
 ·exact pop (by omega) (by omega) (po24 hM hT hW hl1 hl2 hp)
 ·exact pop (by omega) (by omega) (po25 hM hT hW hl1 hl2 hp (by rw [hq.2.2.1]; omega))
 ·exact pop (by omega) (by omega) (po26 hM hT hW hl1 hl2 hp)
 ·by_cases hn : s.hd.1 < 0
  ·exact st30n hM hT hr hol h3 hal hp hn
  ·exact st30y hM hT hr hol h3 hal hp hn
 ·have := gp (by simp)
  exact st31 hM hT hr hol h3 hal hp (by rw [hq.1]; omega) hW.n1
 ·by_cases hq2 : s.hd = (t.n0, t.n1)
  ·exact st32e hM hT hr hol h3 hal hp hq2
  ·by_cases hn : s.hd.1 < 0
   ·exact st32n hM hT hr hol h3 hal hp hq2 hn
   ·exact st32y hM hT hr hol h3 hal hp hq2 hn
 ·exact st40 hM hT hr hol h3 hal hp
structure PMid (W : World) (ops : Nat → List Op4) (opv : Nat → Value) (m0 n M : Nat) (S : List Int) (B : MK) (tbs : Nat → Nat) (la : Option Addr) (lc ub : Nat) (ta : Option Addr) (tc : Nat) (g : GS KPl) (order : List Nat) (p rd : Nat) (s : KSt) (rt : Nat → RTh) (ovs : Nat → Value) (en : Nat → Bool) (ov : Value) (wr : World) : Prop where
 r : RM W n ops opv B s tbs rt ovs en wr
 g : RG n ops m0 g s rt en
 l : wr.ownsRow 0 123 1 (.slice la n lc) n ((List.range n).map fun j => .pointer (some ⟨tbs j, 0, none⟩))
 th : B.thr = .slice la n lc
 t : TurnMem wr ub ta S.length tc M p (rd % n) ov order
 s : wr.ownsRow 0 3 1 (.slice ta S.length tc) S.length (S.map fun i : Int => Value.int .i64 i)
 om : order.length ≤ M
 pl : p ≤ S.length
 rl : rd ≤ n
 nl : ∀ g, (Value.slice la n lc).ownBlock = some g → W.heap.size ≤ g
 nu : W.heap.size ≤ ub
 ns : ∀ g, (Value.slice ta S.length tc).ownBlock = some g → W.heap.size ≤ g
 no : ∀ g, ov.ownBlock = some g → W.heap.size ≤ g
 so : ∀ g, (Value.slice ta S.length tc).ownBlock = some g → ov.ownBlock ≠ some g
section
variable {m0 M : Nat} {S : List Int} {la : Option Addr} {lc ub : Nat} {ta : Option Addr} {tc : Nat} {g s0 : GS KPl} {order : List Nat} {p rd : Nat} {ov : Value}
theorem PMid.pin (h : PMid W ops opv m0 n M S B tbs la lc ub ta tc g order p rd s rt ovs en ov wr) : PIn wr ub la n tbs en := ⟨fun j hj => by
 obtain ⟨lb, cap, e1, h1⟩ := row_get (k := j) h.l (x := .pointer (some ⟨tbs j, 0, none⟩)) (by simp [hj])
 cases e1
 obtain ⟨c, hc⟩ := own_row_ty h.l rfl
 exact ⟨lb, rfl, heap_ty hc h.t.o (by decide), h1.c, heap_ty (h.r.t j hj).o h.t.o (by decide), (h.r.t j hj).fx.c13⟩⟩
theorem pick_congr {S : List Int} {n p r x p1 r1 : Nat} {e e' : Nat → Bool} (hn : 0 < n) (he : ∀ j, j < n → e j = e' j) (h : PickRel S n e p r x p1 r1) : PickRel S n e' p r x p1 r1 := by
 have ho : ∀ y, okS n e y ↔ okS n e' y := fun y => by
  unfold okS
  constructor
  ·rintro ⟨h1, h2, h3⟩; exact ⟨h1, h2, by rw [← he _ (by omega)]; exact h3⟩
  ·rintro ⟨h1, h2, h3⟩; exact ⟨h1, h2, by rw [he _ (by omega)]; exact h3⟩
 rcases h with ⟨p', a1, a2, a3, a4, a5, a6⟩ | ⟨a1, a2, r', b1, b2, b3, b4, b5⟩
 ·exact .inl ⟨p', a1, fun j y h1 h2 h3 h4 => a2 j y h1 h2 h3 ((ho y).2 h4), a3, (ho _).1 a4, a5, a6⟩
 ·exact .inr ⟨fun j y h1 h2 h4 => a1 j y h1 h2 ((ho y).2 h4), a2, r', b1, fun j h1 h2 => by rw [← he _ (Nat.mod_lt _ hn)]; exact b2 j h1 h2, by rw [← he _ (Nat.mod_lt _ hn)]; exact b3, b4, b5⟩
theorem PMid.kept (h : PMid W ops opv m0 n M S B tbs la lc ub ta tc g order p rd s rt ovs en ov wr) {p1 r1 y : Nat} {ov' : Value} (hT : TurnMem w' ub ta S.length tc M p1 (r1 % n) ov' (order ++ [y])) (hK : PKept wr w' ub ov ov') (ho : order.length < M) (hp : p1 ≤ S.length) (hr : r1 ≤ n) :
 PMid W ops opv m0 n M S B tbs la lc ub ta tc g (order ++ [y]) p1 r1 s rt ovs en ov' w' := by
 have hsz := h.r.size
 have keep : ∀ (r : Nat) (c : Array Value) (e : TypeId) (z : Nat × Nat), wr.heap[r]? = some (.cells c e z) → e ≠ 162 → e ≠ 3 → w'.heap[r]? = wr.heap[r]? := fun r c e z hr e1 e2 =>
  hK.old r (alt hr) (heap_ty hr h.t.o e1) (own_type h.t.row hr fun h => e2 h.symm)
 have hsb : ∀ g, (Value.slice ta S.length tc).ownBlock = some g → w'.heap[g]? = wr.heap[g]? := fun g hg => by
  obtain ⟨c, hc⟩ := own_row_ty h.s hg
  exact hK.old g (alt hc) (heap_ty hc h.t.o (by decide)) fun e => h.so g hg e.symm
 refine ⟨h.r.same hK.size (fun r hr => hK.old r (by omega) (by have := h.nu; omega) fun e => by have := h.no r e.symm; omega) (fun r c e z hr he => keep r c e z hr (by rcases he with rfl | rfl | rfl | rfl | rfl <;> decide) (by rcases he with rfl | rfl | rfl | rfl | rfl <;> decide)), h.g, ?_, h.th, hT, ownsRow_same2 h.s fun b hb _ => hsb b hb, by simp; omega, hp, hr, h.nl, h.nu, h.ns, fun g hg => ?_, fun g hg => ?_⟩
 ·exact ownsRow_same2 h.l fun b hb _ => by
   obtain ⟨c, hc⟩ := own_row_ty h.l hb
   exact keep _ _ _ _ hc (by decide) (by decide)
 ·rcases hK.fo with e | ⟨g', e, h2⟩
  ·exact h.no g (e ▸ hg)
  ·rw [e] at hg; cases hg; omega
 ·rcases hK.fo with e | ⟨g', e, h2⟩
  ·rw [e]; exact h.so g hg
  ·rw [e]; intro h3; cases h3
   obtain ⟨c, hc⟩ := own_row_ty h.s hg
   have := (alt hc)
   omega
theorem live_en (h : PMid W ops opv m0 n M S B tbs la lc ub ta tc g order p rd s rt ovs en ov wr) : cnt g.live n = 0 ↔ ∀ j, j < n → en j = true := by
 rw [cnt_zero]
 exact ⟨fun h1 j hj => by rw [h.g.e j hj, endedOf, h1 j hj]; rfl, fun h1 j hj => by have := h1 j hj; rw [h.g.e j hj, endedOf] at this; simpa using this⟩
theorem pick_go (h : PMid W ops opv m0 n M S B tbs la lc ub ta tc g order p rd s rt ovs en ov wr) (hI : RefI ops n M S s0 g order p rd) (hn : n ≤ 64) (hM : M ≤ 1048576) (hS : S.length < 10000000) (h1 : ¬ cnt g.live n = 0) (h2 : ¬ order.length = M) :
 Calls Try.prog 70 #[.pointer (some ⟨ub, 0, none⟩), .slice la n lc] wr fun x w' => ∃ y p1 r1 ov' c, x = .returned (.int .i64 (y : Nat)) ∧ y < n ∧ (g.th y).call = some c ∧ PMid W ops opv m0 n M S B tbs la lc ub ta tc g (order ++ [y]) p1 r1 s rt ovs en ov' w' ∧ RefI ops n M S s0 (g.put y (stpG KPl (ops y) g.q (g.th y))) (order ++ [y]) p1 r1 := by
 have hl : ∃ j, j < n ∧ en j = false := by
  rcases Classical.em (∃ j, j < n ∧ en j = false) with h' | h'
  ·exact h'
  ·exact absurd ((live_en h).2 fun j hj => by
    cases e : en j with
    | true => rfl
    | false => exact absurd ⟨j, hj, e⟩ h') h1
 have hn0 : 0 < n := by obtain ⟨j, hj, _⟩ := hl; omega
 have hub : some ub ≠ (Value.slice ta S.length tc).ownBlock := own_type h.s h.t.o (by decide)
 have hom := h.om
 refine (pick_some (rd := rd % n) hn h.pin h.s h.t hub h.pl (Nat.mod_lt _ hn0) hl hM (by omega) hS).mono ?_
 rintro x w2 ⟨y, p1, r1, ov', rfl, hpk, hT, hK⟩
 obtain ⟨r2, hp2, hr2, hr3⟩ := pick_mod hn0 h.rl hpk
 have hp3 := pick_congr hn0 (fun j hj => h.g.e j hj) hp2
 obtain ⟨q1, q2, q3, q4⟩ := refI_pick hI hp3 h2 h.om h.rl hn0
 have hy : y < n := by have := q2.2.1; omega
 obtain ⟨c, hc⟩ : ∃ c, (g.th y).call = some c := by
  have := q2.2.2
  simp only [Int.toNat_natCast, endedOf, GS.live, Bool.not_eq_false'] at this
  exact Option.isSome_iff_exists.1 this
 rw [← hr2] at hT
 exact ⟨y, p1, r2, ov', c, rfl, hy, hc, h.kept hT hK (by omega) q3 q4, q1⟩
structure PEnd (W : World) (ops : Nat → List Op4) (opv : Nat → Value) (m0 n M : Nat) (B : MK) (tbs : Nat → Nat) (la : Option Addr) (lc ub : Nat) (g : GS KPl) (order : List Nat) (s : KSt) (rt : Nat → RTh) (ovs : Nat → Value) (en : Nat → Bool) (ov : Value) (wr : World) : Prop where
 r : RM W n ops opv B s tbs rt ovs en wr
 gr : RG n ops m0 g s rt en
 l : wr.ownsRow 0 123 1 (.slice la n lc) n ((List.range n).map fun j => .pointer (some ⟨tbs j, 0, none⟩))
 th : B.thr = .slice la n lc
 u : ∃ a b c d e, wr.heap[ub]? = some (.cells #[.slice a b c, .int .i64 d, .int .i64 e, .int .i64 M, ov, .bool (decide (0 < cnt g.live n))] 162 (0, 0))
 o : wr.ownsRow 0 3 1 ov order.length (order.map fun i : Nat => Value.int .i64 i)
 nl : ∀ g, (Value.slice la n lc).ownBlock = some g → W.heap.size ≤ g
theorem pick_end (h : PMid W ops opv m0 n M S B tbs la lc ub ta tc g order p rd s rt ovs en ov wr) (hn : n ≤ 64) (h1 : cnt g.live n = 0 ∨ order.length = M) :
 Calls Try.prog 70 #[.pointer (some ⟨ub, 0, none⟩), .slice la n lc] wr fun x w' => x = .returned (.int .i64 (-1)) ∧ PEnd W ops opv m0 n M B tbs la lc ub g order s rt ovs en ov w' := by
 by_cases h2 : cnt g.live n = 0
 ·refine (pick_over hn h.pin h.t ((live_en h).1 h2)).mono ?_
  rintro x w2 ⟨rfl, rfl⟩
  exact ⟨rfl, h.r, h.g, h.l, h.th, ⟨_, _, _, _, _, by rw [h2]; exact h.t.o⟩, h.t.row, h.nl⟩
 ·have hl : ∃ j, j < n ∧ en j = false := by
   rcases Classical.em (∃ j, j < n ∧ en j = false) with h' | h'
   ·exact h'
   ·exact absurd ((live_en h).2 fun j hj => by
     cases e : en j with
     | true => rfl
     | false => exact absurd ⟨j, hj, e⟩ h') h2
  refine (pick_full hn h.pin h.t hl (h1.resolve_left h2)).mono ?_
  rintro x w2 ⟨rfl, hw⟩
  have hne : ∀ r, r ≠ ub → w2.heap[r]? = wr.heap[r]? := fun r hr => by rw [hw, heap_setCell_ne _ _ _ hr]
  have hty : ∀ (r : Nat) (c : Array Value) (e : TypeId) (z : Nat × Nat), wr.heap[r]? = some (.cells c e z) → e ≠ 162 → w2.heap[r]? = wr.heap[r]? := fun r c e z hr he => hne r (heap_ty hr h.t.o he)
  refine ⟨rfl, h.r.same (by rw [hw, World.size_setCell]; exact Nat.le_refl _) (fun r hr => hne r (by have := h.nu; omega)) (fun r c e z hr he => hty r c e z hr (by rcases he with rfl | rfl | rfl | rfl | rfl <;> decide)), h.g, ?_, h.th, ⟨ta, S.length, tc, p, (rd % n : Nat), ?_⟩, ?_, h.nl⟩
  ·exact ownsRow_same2 h.l fun b hb _ => by
    obtain ⟨c, hc⟩ := own_row_ty h.l hb
    exact hty _ _ _ _ hc (by decide)
  ·rw [hw, heap_set_eq h.t.o]
   have : decide (0 < cnt g.live n) = true := by simp; omega
   rw [this]; rfl
  ·exact ownsRow_same2 h.t.row fun b hb _ => by
    obtain ⟨c, hc⟩ := own_row_ty h.t.row hb
    exact hty _ _ _ _ hc (by decide)
theorem step_go (h : PMid W ops opv m0 n M S B tbs la lc ub ta tc g order p rd s rt ovs en ov wr) {y : Nat} (hy : y < n) {c : KCl} (hc : (g.th y).call = some c) :
 Calls Try.prog 73 #[.pointer (some ⟨B.mb, 0, none⟩), .pointer (some ⟨tbs y, 0, none⟩)] wr fun x w' => x = .returned (.tuple #[]) ∧ ∃ s' rt' ovs' en', PMid W ops opv m0 n M S B tbs la lc ub ta tc (g.put y (stpG KPl (ops y) g.q (g.th y))) order p rd s' rt' ovs' en' ov w' := by
 have hg := h.g.t y hy
 rw [← h.g.l] at hg
 refine (step_all h.r.m (h.r.t y hy) (h.r.o y hy) (h.g.ol y hy) h.g.w hg hc).mono ?_
 rintro x w2 ⟨rfl, hO⟩
 obtain ⟨ov', hR, hk⟩ := h.r.go hy hO
 refine ⟨rfl, _, _, _, _, hR, h.g.turn hy hc, ?_, h.th, ⟨(hk _ _ _ _ h.t.o (by decide) (by decide) (by decide) (by decide)).trans h.t.o, ?_⟩, ?_, h.om, h.pl, h.rl, h.nl, h.nu, h.ns, h.no, h.so⟩
 ·exact ownsRow_same2 h.l fun b hb _ => by
   obtain ⟨c, hc⟩ := own_row_ty h.l hb
   exact hk _ _ _ _ hc (by decide) (by decide) (by decide) (by decide)
 ·exact ownsRow_same2 h.t.row fun b hb _ => by
   obtain ⟨c, hc⟩ := own_row_ty h.t.row hb
   exact hk _ _ _ _ hc (by decide) (by decide) (by decide) (by decide)
 ·exact ownsRow_same2 h.s fun b hb _ => by
   obtain ⟨c, hc⟩ := own_row_ty h.s hb
   exact hk _ _ _ _ hc (by decide) (by decide) (by decide) (by decide)
structure PBorn (W : World) (ops : Nat → List Op4) (opv : Nat → Value) (m0 n : Nat) (B : MK) (tbs : Nat → Nat) (la : Option Addr) (lc : Nat) (s0 : GS KPl) (i : Nat) (s : KSt) (rt : Nat → RTh) (ovs : Nat → Value) (en : Nat → Bool) (wr : World) : Prop where
 r : RM W n ops opv B s tbs rt ovs en wr
 g : RG i ops m0 (gBorns KPl ops i s0) s rt en
 l : wr.ownsRow 0 123 1 (.slice la n lc) n ((List.range n).map fun j => .pointer (some ⟨tbs j, 0, none⟩))
 th : B.thr = .slice la n lc
 z : ∀ j, i ≤ j → j < n → rt j = t00
 ol : ∀ j, j < n → (ops j).length ≤ 65536
 nl : ∀ g, (Value.slice la n lc).ownBlock = some g → W.heap.size ≤ g
theorem gBorns_th {m : Pl} {ops : Nat → List Op4} {s0 : GS m} : ∀ (i j : Nat), i ≤ j → (gBorns m ops i s0).th j = s0.th j
 | 0, j, _ => rfl
 | i + 1, j, h => by
   simp only [gBorns]
   rw [put_ne _ _ (by omega)]
   exact gBorns_th i j (by omega)
theorem born_go {i : Nat} (h : PBorn W ops opv m0 n B tbs la lc s0 i s rt ovs en wr) (hi : i < n) (h0 : s0.th i = ⟨0, none, []⟩) :
 Calls Try.prog 68 #[.pointer (some ⟨B.mb, 0, none⟩), .pointer (some ⟨tbs i, 0, none⟩)] wr fun x w' => x = .returned (.tuple #[]) ∧ ∃ s' rt' ovs' en', PBorn W ops opv m0 n B tbs la lc s0 (i + 1) s' rt' ovs' en' w' := by
 have hz := h.z i (Nat.le_refl _) hi
 have hT := h.r.t i hi
 have hr := h.r.o i hi
 have hol := h.ol i hi
 rw [hz] at hT
 have hgo := fun ov' e (hO : Out6 wr B (tbs i) (opv i) (ovs i) e ov' (s, rbeg (ops i) t00)) => h.r.go hi hO
 obtain ⟨oa, oc, ho⟩ := slice_row hr
 rw [ho] at hT hr hgo
 refine (begin_out (s1 := s) (t1 := t00) (Mid.out (Mid.start h.r.m hT) rfl) hT h.r.m hr (Nat.zero_le _) hol rfl _).mono ?_
 rintro x w2 ⟨rfl, hO⟩
 obtain ⟨ov', hR, hk⟩ := hgo _ _ hO
 refine ⟨rfl, _, _, _, _, hR, ?_, ?_, h.th, fun j h1 h2 => ?_, h.ol, h.nl⟩
 ·exact h.g.born hol ((gBorns_th i i (Nat.le_refl _)).trans h0) hz
 ·exact ownsRow_same2 h.l fun b hb _ => by
   obtain ⟨c, hc⟩ := own_row_ty h.l hb
   exact hk _ _ _ _ hc (by decide) (by decide) (by decide) (by decide)
 ·rw [updN_ne _ _ (by omega)]
  exact h.z j (by omega) h2
end
end
section
variable {w w' : World} {B : MK} {s : KSt}
theorem rvalues_calls (hM : MAt w B s) (hW : KWf s) :
 Calls Try.prog 71 #[.pointer (some ⟨B.mb, 0, none⟩)] w fun x w' => ∃ ov, x = .returned ov ∧ ValsAt w w' ov s.vals ∧ (s.vals = [] → ov = .slice none 0 0) := by
 obtain ⟨i0, z0, hi, hz0, hz1, hz2, hz3⟩ := infoA2
 have A : Aside (MAt w B s ∧ KWf s) := ⟨hM, hW⟩
 have c2 := hM.fx.m2
 have W0 : Aside (Walks s s.nx.length s.hd.1 []) := ⟨rfl, by simp, hW.hd.1, hW.hd.2.1⟩
 have hm : s.nx.length ≤ 65536 := hW.n3
 clear hM hW
 go_enter Try.func71, Try.ntmps71
 go_wp2
 go_loopg [3, 4, 5] s.nx.length (fun g n i j wr => ∃ (d : List Int) (k : Int) (f : Nat) (oa : Option Addr) (oc : Nat), n = .slice oa d.length oc ∧ i = .int .i64 k ∧ j = .int .i64 (d.length : Nat) ∧ Walks s f k d ∧ g = f ∧ ValsAt w wr (.slice oa d.length oc) d ∧ (d = [] → Value.slice oa d.length oc = .slice none 0 0))
 case atStart => exact ⟨[], _, _, none, 0, rfl, rfl, rfl, W0.out, rfl, ⟨⟨rfl, .inl ⟨rfl, rfl⟩⟩, Nat.le_refl _, fun r _ => rfl, fun g h => by cases h⟩, fun _ => rfl⟩
 case round =>
  obtain ⟨d, k, f, oa, oc, rfl, rfl, rfl, ⟨hv, hl, k1, k2⟩, hgf, hV, hnil⟩ := hrel
  clear c2
  have hU := A.out.1.same (w' := wr) (hV.old _ A.out.1.mlt) (hV.old _ A.out.1.nlt) (hV.old _ A.out.1.vlt)
  have c0 := hU.fx.m0
  have c1 := hU.fx.m1
  by_cases hneg : k < 0
  ·have hn0 : ¬ (0 : Int) ≤ k := by omega
   have e : s.walk f k = [] := by
    cases f with
    | zero => rfl
    | succ f => unfold KSt.walk; rw [if_pos hneg]
   rw [e, List.append_nil] at hv
   have V : Aside (s.vals = d ∧ ValsAt w wr (.slice oa d.length oc) d ∧ (d = [] → Value.slice oa d.length oc = .slice none 0 0)) := ⟨hv, hV, hnil⟩
   by_cases hlt : (d.length : Int) < (s.nx.length : Int)
   ·clear hnil hU hV hv hl
    go_wp2
    go_ret
    rw [V.out.1]
    exact ⟨_, rfl, V.out.2⟩
   ·clear hnil hU hV hv hl
    go_wp2
    go_ret
    rw [V.out.1]
    exact ⟨_, rfl, V.out.2⟩
  ·have hn0 : (0 : Int) ≤ k := by omega
   cases f with
   | zero =>
     have e : d.length = s.nx.length := by omega
     have hlt : ¬ (d.length : Int) < (s.nx.length : Int) := by omega
     rw [show s.walk 0 k = [] from rfl, List.append_nil] at hv
     have V : Aside (s.vals = d ∧ ValsAt w wr (.slice oa d.length oc) d ∧ (d = [] → Value.slice oa d.length oc = .slice none 0 0)) := ⟨hv, hV, hnil⟩
     clear hnil hU hV hv e hl
     go_wp2
     go_ret
     rw [V.out.1]
     exact ⟨_, rfl, V.out.2⟩
   | succ f =>
     obtain ⟨i, rfl⟩ : ∃ i : Nat, k = i := ⟨k.toNat, by omega⟩
     have him : i < s.nx.length := by omega
     have hivm : i < s.vl.length := by have := A.out.2.n1; omega
     have hii : (i : Int) < (s.nx.length : Int) := by omega
     have hiv : (i : Int) < (s.vl.length : Int) := by omega
     have hlt : (d.length : Int) < (s.nx.length : Int) := by omega
     have n1 := (hU.nc him).1
     have n2 := (hU.vc hivm).1
     have hrow := hV.row
     have hsz := hV.size
     have V : Aside (Walks s f (s.nx.getD i 0) (d ++ [s.vl.getD i 0]) ∧ ValsAt w wr (.slice oa d.length oc) d ∧ MAt wr B s) := by
      refine ⟨⟨?_, by simp; omega, ?_⟩, hV, hU⟩
      ·rw [hv, walk_succ, if_neg hneg]
       simp [KSt.val, KSt.nxt]
      ·rw [List.getD_eq_getElem?_getD, List.getElem?_eq_getElem him]
       exact A.out.2.nx _ (List.getElem_mem _)
     have hd2 : d.length < 65536 := by omega
     obtain ⟨cur, hnb, _⟩ := hU.n
     have ho := hU.o
     have hwr : IntKind.i64.wrap ((d.length : Int) + 1) = (d.length : Int) + 1 := IntWalk.i64_in _ (by omega)
     clear hnil hU hV hv hl
     generalize hvv : s.vl.getD i 0 = vv at V n2
     generalize hxx : s.nx.getD i 0 = xx at V n1
     have V3 : Aside (B.mb < wr.heap.size ∧ B.nb < wr.heap.size) := ⟨V.out.2.2.mlt, V.out.2.2.nlt⟩
     go_wp2_with (at_builtin; refine wpList_append_fresh rfl (.tmp 24) (.tmp 32) 22 rfl 2 i0 z0 1 8 Try.underlying22 hi hz0 hz1 hz2 hz3 (by decide) (.slice oa d.length oc) d.length (d.map fun v => .int .i64 v) rfl (World.ownsRow.alloc hrow _) ⟨wr.heap.size, 0, none⟩ 1 1 [.int .i64 vv] rfl rfl (new_cells (X := wr) (l := [.int .i64 vv]) rfl) (by intro u hu; simp at hu; subst hu; rfl) (by unfold maxLen; omega) (by omega) ?_)
     ·intro v' w1 hown hgrow hfr
      obtain ⟨g, cap, rfl⟩ := own_slice hown
      have hkk : w1.heap[B.mb]? = wr.heap[B.mb]? := grown_old hgrow V3.out.1 (own_type V.out.2.1.row ho (by decide))
      have hkn : w1.heap[B.nb]? = wr.heap[B.nb]? := grown_old hgrow V3.out.2 (fun e => by
       have h1 := V.out.2.1.new B.nb e.symm
       have := A.out.1.nlt
       omega)
      have q0 := (cell_heap (j := 0) hkk).1.trans c0
      have q1 := (cell_heap (j := i) hkn).1.trans n1
      have hold : ∀ r, r < w.heap.size → w1.heap[r]? = wr.heap[r]? := fun r hr => by
       refine grown_old hgrow (by omega) fun e => ?_
       have := V.out.2.1.new r e.symm
       omega
      have hgs := hgrow.size
      simp only [World.size_alloc] at hgs
      have F : Aside (w1.ownsRow 0 2 1 (.slice (some ⟨g, 0, none⟩) (d.length + 1) cap) (d.length + 1) ((d.map (fun v => .int .i64 v)) ++ [.int .i64 vv]) ∧ (∀ r, r < w.heap.size → w1.heap[r]? = wr.heap[r]?) ∧ wr.heap.size ≤ w1.heap.size ∧ ((Value.slice (some ⟨g, 0, none⟩) (d.length + 1) cap).ownBlock = (Value.slice oa d.length oc).ownBlock ∨ ∃ g', (Value.slice (some ⟨g, 0, none⟩) (d.length + 1) cap).ownBlock = some g' ∧ wr.heap.size ≤ g')) :=
       ⟨hown, hold, by omega, hfr.imp id fun ⟨g', h1, h2⟩ => ⟨g', h1, by omega⟩⟩
      clear hown hgrow hfr hkk hkn hold hgs hnb ho hrow c0 c1 n1 n2
      go_wp2
      go_roundg f
      case measure => omega
      case rel =>
       obtain ⟨v1, v2, v3⟩ := V.out
       obtain ⟨f1, f2, f3, f4⟩ := F.out
       have e1 : (d ++ [vv]).length = d.length + 1 := by simp
       refine ⟨d ++ [vv], xx, f, some ⟨g, 0, none⟩, cap, by rw [e1], rfl, by rw [e1]; rfl, v1, rfl, ⟨?_, by have := v2.size; omega, fun r hr => (f2 r hr).trans (v2.old r hr), fun g' hg => ?_⟩, fun h => by simp at h⟩
       ·rw [e1]
        simpa using f1
       ·rw [e1] at hg
        rcases f4 with h | ⟨g2, h, h2⟩
        ·exact v2.new g' (h ▸ hg)
        ·rw [h] at hg; cases hg
         have := v2.size; omega
end
section
variable {w w' : World} {B : MK} {s : KSt}
structure RNew (w wr : World) (tg : Bool) (xs ys : List Int) (nv vv : Value) : Prop where
 o : wr.heap[w.heap.size]? = some (.cells #[nv, vv, .int .i64 (-1), .int .i64 0, .int .i64 0, .int .i64 0, .bool tg, .slice none 0 0] 121 (0, 0))
 n : wr.ownsRow 0 2 1 nv xs.length (xs.map fun v => .int .i64 v)
 v : wr.ownsRow 0 2 1 vv ys.length (ys.map fun v => .int .i64 v)
 ne : ∀ g, nv.ownBlock = some g → vv.ownBlock ≠ some g
 size : w.heap.size < wr.heap.size
 old : ∀ r, r < w.heap.size → wr.heap[r]? = w.heap[r]?
 nn : ∀ g, nv.ownBlock = some g → w.heap.size ≤ g
 nv : ∀ g, vv.ownBlock = some g → w.heap.size ≤ g
variable {wr w1 u : World} {tg : Bool} {xs ys : List Int} {nv vv v' : Value} {x : Int}
theorem RNew.heap (h : RNew w wr tg xs ys nv vv) (e : w'.heap = wr.heap) : RNew w w' tg xs ys nv vv :=
 ⟨by rw [e]; exact h.o, ownsRow_same2 h.n fun _ _ _ => by rw [e], ownsRow_same2 h.v fun _ _ _ => by rw [e], h.ne, by rw [e]; exact h.size, fun r hr => by rw [e]; exact h.old r hr, h.nn, h.nv⟩
theorem RNew.n1 (h : RNew w wr tg xs ys nv vv) (hown : w1.ownsRow 0 2 1 v' (xs.length + 1) ((xs.map fun v => .int .i64 v) ++ [.int .i64 x])) (hold : ∀ r, r < wr.heap.size → some r ≠ nv.ownBlock → w1.heap[r]? = wr.heap[r]?) (hsz : wr.heap.size ≤ w1.heap.size)
 (hfr : v'.ownBlock = nv.ownBlock ∨ ∃ g, v'.ownBlock = some g ∧ wr.heap.size ≤ g) (hu : u.heap = (w1.setCell ⟨w.heap.size, 0, none⟩ v').heap) : RNew w u tg (xs ++ [x]) ys v' vv := by
 have hs := h.size
 have hne : some w.heap.size ≠ nv.ownBlock := own_type h.n h.o (by decide)
 have ho1 := (hold _ h.size hne).trans h.o
 have hvb : ∀ g, vv.ownBlock = some g → g < wr.heap.size := fun g hg => by
  obtain ⟨c, hc⟩ := own_row_ty h.v hg
  exact (alt hc)
 have hvt : v'.ownBlock ≠ some w.heap.size := by
  rcases hfr with e | ⟨g, e, hg⟩
  ·rw [e]; exact fun h => hne h.symm
  ·rw [e]; intro h; cases h; omega
 have hou : ∀ r, r ≠ w.heap.size → u.heap[r]? = w1.heap[r]? := fun r hr => by rw [hu, heap_setCell_ne _ _ _ hr]
 refine ⟨?_, ?_, ?_, fun g hg => ?_, by rw [hu, World.size_setCell]; omega, fun r hr => ?_, fun g hg => ?_, h.nv⟩
 ·rw [hu, heap_set_eq ho1]; rfl
 ·rw [List.length_append, List.map_append]
  exact ownsRow_same2 hown fun b hb _ => hou b fun e => hvt (e ▸ hb)
 ·exact ownsRow_same2 h.v fun b hb _ => by
   obtain ⟨c, hc⟩ := own_row_ty h.v hb
   exact (hou b (heap_ty hc h.o (by decide))).trans (hold b (hvb b hb) fun e => h.ne b e.symm hb)
 ·intro hgv
  rcases hfr with e | ⟨g', e, hg'⟩
  ·exact h.ne g (e ▸ hg) hgv
  ·rw [e] at hg; cases hg
   have := hvb _ hgv; omega
 ·refine (hou r (by omega)).trans ((hold r (by omega) fun e => ?_).trans (h.old r hr))
  have := h.nn r e.symm; omega
 ·rcases hfr with e | ⟨g', e, hg'⟩
  ·exact h.nn g (e ▸ hg)
  ·rw [e] at hg; cases hg; omega
theorem RNew.v1 (h : RNew w wr tg xs ys nv vv) (hown : w1.ownsRow 0 2 1 v' (ys.length + 1) ((ys.map fun v => .int .i64 v) ++ [.int .i64 x])) (hold : ∀ r, r < wr.heap.size → some r ≠ vv.ownBlock → w1.heap[r]? = wr.heap[r]?) (hsz : wr.heap.size ≤ w1.heap.size)
 (hfr : v'.ownBlock = vv.ownBlock ∨ ∃ g, v'.ownBlock = some g ∧ wr.heap.size ≤ g) (hu : u.heap = (w1.setCell ⟨w.heap.size, 1, none⟩ v').heap) : RNew w u tg xs (ys ++ [x]) nv v' := by
 have hs := h.size
 have hne : some w.heap.size ≠ vv.ownBlock := own_type h.v h.o (by decide)
 have ho1 := (hold _ h.size hne).trans h.o
 have hvb : ∀ g, nv.ownBlock = some g → g < wr.heap.size := fun g hg => by
  obtain ⟨c, hc⟩ := own_row_ty h.n hg
  exact (alt hc)
 have hvt : v'.ownBlock ≠ some w.heap.size := by
  rcases hfr with e | ⟨g, e, hg⟩
  ·rw [e]; exact fun h => hne h.symm
  ·rw [e]; intro h; cases h; omega
 have hou : ∀ r, r ≠ w.heap.size → u.heap[r]? = w1.heap[r]? := fun r hr => by rw [hu, heap_setCell_ne _ _ _ hr]
 refine ⟨?_, ?_, ?_, fun g hg => ?_, by rw [hu, World.size_setCell]; omega, fun r hr => ?_, h.nn, fun g hg => ?_⟩
 ·rw [hu, heap_set_eq ho1]; rfl
 ·exact ownsRow_same2 h.n fun b hb _ => by
   obtain ⟨c, hc⟩ := own_row_ty h.n hb
   exact (hou b (heap_ty hc h.o (by decide))).trans (hold b (hvb b hb) fun e => h.ne b hb e.symm)
 ·rw [List.length_append, List.map_append]
  exact ownsRow_same2 hown fun b hb _ => hou b fun e => hvt (e ▸ hb)
 ·intro hgv
  rcases hfr with e | ⟨g', e, hg'⟩
  ·exact h.ne g hg (e ▸ hgv)
  ·rw [e] at hgv; cases hgv
   have := hvb _ hg; omega
 ·refine (hou r (by omega)).trans ((hold r (by omega) fun e => ?_).trans (h.old r hr))
  have := h.nv r e.symm; omega
 ·rcases hfr with e | ⟨g', e, hg'⟩
  ·exact h.nv g (e ▸ hg)
  ·rw [e] at hg; cases hg; omega
def upN (n : Nat) : List Int := (List.range n).map fun i => ((i + 1 : Nat) : Int)
theorem upN_succ (n : Nat) : upN (n + 1) = upN n ++ [((n + 1 : Nat) : Int)] := by simp [upN, List.range_succ]
theorem upN_len (n : Nat) : (upN n).length = n := by simp [upN]
theorem knew_nx {n : Nat} (tg : Bool) : (knew (n + 1) tg).nx = (upN (n + 1)).set n (-1) := by
 apply List.ext_getElem?
 intro i
 simp only [knew, upN, List.getElem?_map, List.getElem?_set, List.length_map, List.length_range]
 rcases Nat.lt_or_ge i (n + 1) with h | h
 ·rw [List.getElem?_range h]
  by_cases e : n = i
  ·subst e; simp
  ·simp only [Option.map_some, if_neg e, if_neg (show ¬ i + 1 = n + 1 by omega)]
 ·rw [List.getElem?_eq_none (by simpa using h)]
  rw [if_neg (by omega)]
  rfl
theorem row_is {l : List Int} {v : Value} (h : w.ownsRow 0 2 1 v (l.length) (l.map fun v => .int .i64 v)) (hl : 0 < l.length) : ∃ b cap c, v = .slice (some ⟨b, 0, none⟩) l.length cap ∧ w.heap[b]? = some (.cells c 2 (0, 0)) ∧ ∀ (i : Nat) (x : Int), l[i]? = some x → c[i]? = some (.int .i64 x) := by
 rcases h.2 with ⟨_, h0⟩ | ⟨b, cap, cur, rfl, _, h3, h4, h5, h6, h7⟩
 ·omega
 ·refine ⟨b, cap, cur, rfl, h3, fun i x hx => ?_⟩
  have hi := (List.getElem?_eq_some_iff.1 hx).1
  have e : (l.map fun v => Value.int .i64 v)[i]? = some (.int .i64 x) := by simp [hx]
  rw [← h7, List.getElem?_take_of_lt (by omega)] at e
  simpa using e
structure NewK (w w' : World) (B : MK) (s : KSt) : Prop where
 m : MAt w' B s
 thr : B.thr = .slice none 0 0
 size : w.heap.size ≤ w'.heap.size
 old : ∀ r, r < w.heap.size → w'.heap[r]? = w.heap[r]?
 nm : w.heap.size ≤ B.mb
 nn : w.heap.size ≤ B.nb
 nv : w.heap.size ≤ B.vb
theorem RNew.done {n : Nat} (h : RNew w wr tg (upN (n + 1)) (List.replicate (n + 1) 0) nv vv) : ∃ nb cn vb cv, nv = .slice (some ⟨nb, 0, none⟩) (n + 1) cn ∧ vv = .slice (some ⟨vb, 0, none⟩) (n + 1) cv ∧ (∃ c, wr.heap[nb]? = some (.cells c 2 (0, 0)) ∧ n < c.size) ∧ nb ≠ w.heap.size ∧
 ∀ u : World, u.heap = (wr.setCell ⟨nb, n, none⟩ (.int .i64 (-1))).heap → NewK w u ⟨w.heap.size, nb, vb, cn, cv, .slice none 0 0⟩ (knew (n + 1) tg) := by
 obtain ⟨nb, cn, c, rfl, h1, h2⟩ := row_is h.n (by rw [upN_len]; omega)
 obtain ⟨vb, cv, d, rfl, h3, h4⟩ := row_is h.v (by simp)
 have hne : nb ≠ vb := fun e => h.ne nb rfl (by rw [e]; rfl)
 have hnm : nb ≠ w.heap.size := heap_ty h1 h.o (by decide)
 have hnn := h.nn nb rfl
 have hsz := h.size
 have hcs : n < c.size := by
  have := h2 n _ (List.getElem?_eq_getElem (by rw [upN_len]; omega))
  exact (alt this)
 refine ⟨nb, cn, vb, cv, by rw [upN_len], by simp, ⟨c, h1, hcs⟩, hnm, fun u hu => ⟨⟨?_, ?_, ?_, hne⟩, rfl, ?_, fun r hr => ?_, Nat.le_refl _, hnn, h.nv vb rfl⟩⟩
 ·rw [hu, heap_setCell_ne _ _ _ (Ne.symm hnm), h.o]
  simp [knew, upN_len]
 ·refine ⟨_, by rw [hu]; exact heap_set_eq h1, ?_⟩
  rw [knew_nx]
  exact row_set h2 (by rw [upN_len]; omega)
 ·refine ⟨d, by rw [hu, heap_setCell_ne _ _ _ (Ne.symm hne)]; exact h3, ?_⟩
  simpa [knew] using h4
 ·rw [hu, World.size_setCell]; omega
 ·rw [hu, heap_setCell_ne _ _ _ (show r ≠ nb by omega)]; exact h.old r hr
end
section
variable {w w' : World} {B : MK} {s : KSt} {tg : Bool}
theorem b119 : Try.prog.built 119 [(0, .int .i64 (-1))] = some #[.int .i64 (-1), .int .i64 0] := by kernel_rfl
theorem b121 (tg : Bool) : Try.prog.built 121 [(4, .bool tg), (2, .agg #[.int .i64 (-1), .int .i64 0])] = some #[.slice none 0 0, .slice none 0 0, .int .i64 (-1), .int .i64 0, .int .i64 0, .int .i64 0, .bool tg, .slice none 0 0] := by kernel_rfl
@[go_sem] theorem run_b119 (w : World) : (Instr.build 119 #[(0, .int .i64 (-1))]).run Try.prog w = .ok (.agg #[.int .i64 (-1), .int .i64 0]) w := run_build w _ _ _ b119
@[go_sem] theorem run_b121 (w : World) (tg : Bool) : (Instr.build 121 #[(4, .bool tg), (2, .agg #[.int .i64 (-1), .int .i64 0])]).run Try.prog w = .ok (.agg #[.slice none 0 0, .slice none 0 0, .int .i64 (-1), .int .i64 0, .int .i64 0, .int .i64 0, .bool tg, .slice none 0 0]) w := run_build w _ _ _ (b121 tg)
theorem rnew_calls {size : Int} {n : Nat} (hn : min (max size 1) 65536 = ((n + 1 : Nat) : Int)) (tg : Bool) :
 Calls Try.prog 66 #[.int .i64 size, .bool tg] w fun x w' => ∃ B, x = .returned (.pointer (some ⟨B.mb, 0, none⟩)) ∧ NewK w w' B (knew (n + 1) tg) := by
 obtain ⟨i0, z0, hi, hz0, hz1, hz2, hz3⟩ := infoA2
 have H : Aside (∀ u, Calls Try.prog 91 #[.int .i64 size, .int .i64 1, .int .i64 65536] u fun e w' => e = .returned (.int .i64 ((n + 1 : Nat) : Int)) ∧ w' = u) := fun u => held_calls (by omega) hn
 have hn2 : n + 1 ≤ 65536 := by omega
 clear hn
 go_enter Try.func66, Try.ntmps66
 go_wp2_with (go_at_call 91; refine (H.out _).mono ?_; rintro e w ⟨rfl, rfl⟩)
 go_loopg [7] (n + 1) (fun g x wr => ∃ (k : Nat) (na va : Option Addr) (nc vc : Nat), x = .int .i64 k ∧ k ≤ n + 1 ∧ g = n + 1 - k ∧ RNew w wr tg (upN k) (List.replicate k 0) (.slice na k nc) (.slice va k vc))
 case atStart => exact ⟨0, none, none, 0, 0, rfl, Nat.zero_le _, rfl, ⟨heap_alloc_new _ _, ⟨rfl, .inl ⟨rfl, rfl⟩⟩, ⟨rfl, .inl ⟨rfl, rfl⟩⟩, fun g h => (by cases h), by simp, fun r hr => heap_alloc_lt _ _ hr, fun g h => (by cases h), fun g h => (by cases h)⟩⟩
 case round =>
  obtain ⟨k, na, va, nc, vc, rfl, hk, rfl, hN⟩ := hrel
  have N0 : Aside (RNew w wr tg (upN k) (List.replicate k 0) (.slice na k nc) (.slice va k vc)) := hN
  rcases Nat.lt_or_ge k (n + 1) with hlt | hge
  ·have hlt2 : (k : Int) < ((n + 1 : Nat) : Int) := by omega
   have hwr : IntKind.i64.wrap ((k : Int) + 1) = ((k + 1 : Nat) : Int) := IntWalk.i64_in _ (by omega)
   have f0 : wr.cell? ⟨w.heap.size, 0, none⟩ = some (.slice na k nc) := by simp [World.cell?, hN.o]
   have f1 : wr.cell? ⟨w.heap.size, 1, none⟩ = some (.slice va k vc) := by simp [World.cell?, hN.o]
   have y0 : wr.frozen? ⟨w.heap.size, 0, none⟩ = false := by simp [World.frozen?, hN.o]
   have y1 : wr.frozen? ⟨w.heap.size, 1, none⟩ = false := by simp [World.frozen?, hN.o]
   have hrow := hN.n
   rw [upN_len] at hrow
   clear hN
   go_wp2_with (first
    | (at_builtin; refine wpList_append_fresh rfl (.tmp 23) (.tmp 26) 22 rfl 2 i0 z0 1 8 Try.underlying22 hi hz0 hz1 hz2 hz3 (by decide) (.slice na k nc) k ((upN k).map fun v => .int .i64 v) rfl (hrow.alloc _) ⟨wr.heap.size, 0, none⟩ 1 1 [.int .i64 ((k + 1 : Nat) : Int)] rfl rfl (new_cells (X := wr) (l := [.int .i64 ((k + 1 : Nat) : Int)]) rfl) (by intro u hu; simp at hu; subst hu; rfl) (by unfold maxLen; omega) (by omega) ?_; intro v1 w1 hown hgrow hfr; obtain ⟨g1, c1, rfl⟩ := own_slice hown; have hold : ∀ r, r < wr.heap.size → some r ≠ (Value.slice na k nc).ownBlock → w1.heap[r]? = wr.heap[r]? := fun r hr hn => grown_old hgrow hr hn; have hk1 := hold w.heap.size N0.out.size (own_type N0.out.n N0.out.o (by decide)); have k0 := (cell_heap (j := 0) hk1).1.trans f0; have k1 := (cell_heap (j := 0) hk1).2.trans y0; have q0 := (cell_heap (j := 1) hk1).1.trans f1; have q1 := (cell_heap (j := 1) hk1).2.trans y1; have N1 : Aside (RNew w (w1.setCell ⟨w.heap.size, 0, none⟩ (.slice (some ⟨g1, 0, none⟩) (k + 1) c1)) tg (upN k ++ [((k + 1 : Nat) : Int)]) (List.replicate k 0) (.slice (some ⟨g1, 0, none⟩) (k + 1) c1) (.slice va k vc)) := N0.out.n1 (by rw [upN_len]; exact hown) hold (Nat.le_trans (by simp) hgrow.size) (hfr.imp id fun ⟨g', h1, h2⟩ => ⟨g', h1, Nat.le_trans (by simp) h2⟩) rfl; have hrow2 : World.ownsRow (w1.setCell ⟨w.heap.size, 0, none⟩ (.slice (some ⟨g1, 0, none⟩) (k + 1) c1)) 0 2 1 (.slice va k vc) k ((List.replicate k (0 : Int)).map fun v => .int .i64 v) := (by have := N1.out.v; rw [List.length_replicate] at this; exact this); clear hown hgrow hfr hk1 hold)
    | (at_builtin; refine wpList_append_fresh rfl (.tmp 34) (.tmp 35) 22 rfl 2 i0 z0 1 8 Try.underlying22 hi hz0 hz1 hz2 hz3 (by decide) (.slice va k vc) k ((List.replicate k (0 : Int)).map fun v => .int .i64 v) rfl (hrow2.alloc _) ⟨w1.heap.size, 0, none⟩ 1 1 [.int .i64 0] rfl rfl (new_cells (X := (w1.setCell ⟨w.heap.size, 0, none⟩ (.slice (some ⟨g1, 0, none⟩) (k + 1) c1))) (l := [.int .i64 0]) (by simp)) (by intro u hu; simp at hu; subst hu; rfl) (by unfold maxLen; omega) (by omega) ?_; intro v2 w2 hown hgrow hfr; obtain ⟨g2, c2, rfl⟩ := own_slice hown; have hold : ∀ r, r < (World.heap (w1.setCell ⟨w.heap.size, 0, none⟩ (.slice (some ⟨g1, 0, none⟩) (k + 1) c1))).size → some r ≠ (Value.slice va k vc).ownBlock → w2.heap[r]? = (World.heap (w1.setCell ⟨w.heap.size, 0, none⟩ (.slice (some ⟨g1, 0, none⟩) (k + 1) c1)))[r]? := fun r hr hn => grown_old hgrow hr hn; have hk1 := hold w.heap.size N1.out.size (own_type N1.out.v N1.out.o (by decide)); have ho2 := hk1.trans N1.out.o; have s0 : w2.cell? ⟨w.heap.size, 1, none⟩ = some (.slice va k vc) := (by simp [World.cell?, ho2]); have s1 : w2.frozen? ⟨w.heap.size, 1, none⟩ = false := (by simp [World.frozen?, ho2]); have N2 : Aside (RNew w (w2.setCell ⟨w.heap.size, 1, none⟩ (.slice (some ⟨g2, 0, none⟩) (k + 1) c2)) tg (upN k ++ [((k + 1 : Nat) : Int)]) (List.replicate k 0 ++ [0]) (.slice (some ⟨g1, 0, none⟩) (k + 1) c1) (.slice (some ⟨g2, 0, none⟩) (k + 1) c2)) := N1.out.v1 (by rw [List.length_replicate]; exact hown) hold (Nat.le_trans (by simp) hgrow.size) (hfr.imp id fun ⟨g', h1, h2⟩ => ⟨g', h1, Nat.le_trans (by simp) h2⟩) rfl; clear hown hgrow hfr hk1 hold ho2))
   go_roundg (n + 1 - (k + 1))
   case measure => omega
   case rel =>
    refine ⟨k + 1, some ⟨g1, 0, none⟩, some ⟨g2, 0, none⟩, c1, c2, rfl, hlt, rfl, ?_⟩
    rw [upN_succ, List.replicate_succ']
    exact N2.out
  ·obtain rfl : k = n + 1 := by omega
   obtain ⟨nb, cn, vb, cv, hv1, hv2, ⟨c, hc, hcs⟩, hnm, hfin⟩ := hN.done
   rw [hv1, hv2] at hN
   simp only [Value.slice.injEq] at hv1 hv2
   obtain ⟨rfl, _, rfl⟩ := hv1
   obtain ⟨rfl, _, rfl⟩ := hv2
   have ho := hN.o
   have f0 : wr.cell? ⟨w.heap.size, 0, none⟩ = some (.slice (some ⟨nb, 0, none⟩) (n + 1) nc) := by simp [World.cell?, ho]
   have yb : wr.frozen? ⟨nb, n, none⟩ = false := by simp [World.frozen?, hc]
   have fb : wr.cell? ⟨nb, n, none⟩ = some c[n] := by simp [World.cell?, hc, hcs]
   have hge2 : ¬ ((n + 1 : Nat) : Int) < ((n + 1 : Nat) : Int) := by omega
   have hwr : IntKind.i64.wrap (((n + 1 : Nat) : Int) - 1) = (n : Int) := by rw [IntWalk.i64_in _ (by omega)]; omega
   have hin : (n : Int) < ((n + 1 : Nat) : Int) := by omega
   have FN : Aside (∀ u : World, u.heap = (wr.setCell ⟨nb, n, none⟩ (.int .i64 (-1))).heap → NewK w u ⟨w.heap.size, nb, vb, nc, vc, .slice none 0 0⟩ (knew (n + 1) tg)) := hfin
   clear hN ho hc hfin
   go_wp2
   go_ret
   exact ⟨⟨w.heap.size, nb, vb, nc, vc, .slice none 0 0⟩, rfl, FN.out _ rfl⟩
end
section
variable {w wr w' w1 u : World} {i k : Nat} {ops : Nat → List Op4} {la : Option Addr} {lc tb : Nat} {tbs : Nat → Nat} {opv : Nat → Value} {ov v' : Value}
structure ThrNew (w wr : World) (i : Nat) (ops : Nat → List Op4) (la : Option Addr) (lc : Nat) (tbs : Nat → Nat) (opv : Nat → Value) : Prop where
 l : wr.ownsRow 0 123 1 (.slice la i lc) i ((List.range i).map fun j => .pointer (some ⟨tbs j, 0, none⟩))
 t : ∀ j, j < i → TAt wr (tbs j) (opv j) t00 (.slice none 0 0) false
 o : ∀ j, j < i → wr.ownsRow 0 47 4 (opv j) (ops j).length (opsC (ops j))
 dt : ∀ a b, a < i → b < i → a ≠ b → tbs a ≠ tbs b
 nt : ∀ j, j < i → w.heap.size ≤ tbs j
 no : ∀ j g, j < i → (opv j).ownBlock = some g → w.heap.size ≤ g
 nl : ∀ g, (Value.slice la i lc).ownBlock = some g → w.heap.size ≤ g
 size : w.heap.size ≤ wr.heap.size
 old : ∀ r, r < w.heap.size → wr.heap[r]? = w.heap[r]?
theorem TAt.nil {tb : Nat} {op : Value} {t : RTh} {en : Bool} (h : w.heap[tb]? = some (.cells (thC op t (.slice none 0 0) en) 158 (0, 0))) (ha : t.ans = []) : TAt w tb op t (.slice none 0 0) en := ⟨h, by rw [ha]; exact ⟨rfl, .inl ⟨rfl, rfl⟩⟩⟩
theorem ThrNew.same (h : ThrNew w wr i ops la lc tbs opv) (hs : wr.heap.size ≤ u.heap.size) (ho : ∀ r, r < w.heap.size → u.heap[r]? = wr.heap[r]?) (h1 : ∀ j, j < i → u.heap[tbs j]? = wr.heap[tbs j]?) (h2 : ∀ j g, j < i → (opv j).ownBlock = some g → u.heap[g]? = wr.heap[g]?)
 (h3 : ∀ g, (Value.slice la i lc).ownBlock = some g → u.heap[g]? = wr.heap[g]?) : ThrNew w u i ops la lc tbs opv :=
 ⟨ownsRow_same2 h.l fun b hb _ => h3 b hb, fun j hj => (h.t j hj).same (h1 j hj) fun r hr => by (cases hr), fun j hj => ownsRow_same2 (h.o j hj) fun b hb _ => h2 j b hj hb, h.dt, h.nt, h.no, h.nl, Nat.le_trans h.size hs, fun r hr => (ho r hr).trans (h.old r hr)⟩
structure ThI (w wr : World) (i : Nat) (ops : Nat → List Op4) (la : Option Addr) (lc : Nat) (tbs : Nat → Nat) (opv : Nat → Value) (tb : Nat) (ov : Value) (k : Nat) : Prop where
 b : ThrNew w wr i ops la lc tbs opv
 t : TAt wr tb ov t00 (.slice none 0 0) false
 o : wr.ownsRow 0 47 4 ov k (opsC ((ops i).take k))
 nt : w.heap.size ≤ tb
 dt : ∀ j, j < i → tbs j ≠ tb
 no : ∀ g, ov.ownBlock = some g → w.heap.size ≤ g
 dv : ∀ j g, j < i → ov.ownBlock = some g → (opv j).ownBlock ≠ some g
theorem ThrNew.begin (h : ThrNew w wr i ops la lc tbs opv) (hu : u.heap = (wr.alloc (.cells (thC (.slice none 0 0) t00 (.slice none 0 0) false) 158)).heap) : ThI w u i ops la lc tbs opv wr.heap.size (.slice none 0 0) 0 := by
 have ho : ∀ r, r < wr.heap.size → u.heap[r]? = wr.heap[r]? := fun r hr => by rw [hu]; exact heap_alloc_lt _ _ hr
 have hsz := h.size
 refine ⟨h.same (by rw [hu]; simp) (fun r hr => ho r (by omega)) (fun j hj => ho _ (h.t j hj).lt) (fun j g hj hg => ?_) (fun g hg => ?_), TAt.nil (by rw [hu]; exact heap_alloc_new _ _) rfl, ⟨rfl, .inl ⟨rfl, rfl⟩⟩, hsz, fun j hj => by have := (h.t j hj).lt; omega, fun g hg => (by cases hg), fun j g hj hg => (by cases hg)⟩
 ·obtain ⟨c, hc⟩ := own_row_ty (h.o j hj) hg
  exact ho _ (alt hc)
 ·obtain ⟨c, hc⟩ := own_row_ty h.l hg
  exact ho _ (alt hc)
theorem take_op {l : List Op4} {k : Nat} {x : Op4} (h : l[k]? = some x) : l.take (k + 1) = l.take k ++ [x] := by
 rw [List.take_add_one, h]; rfl
theorem ThI.more (h : ThI w wr i ops la lc tbs opv tb ov k) {x : Op4} (hx : (ops i)[k]? = some x) (hown : w1.ownsRow 0 47 4 v' (k + 1) (opsC ((ops i).take k) ++ [.int .i64 x.kd, .int .i64 x.a, .int .i64 x.b, .int .i64 x.c])) (hold : ∀ r, r < wr.heap.size → some r ≠ ov.ownBlock → w1.heap[r]? = wr.heap[r]?) (hsz : wr.heap.size ≤ w1.heap.size)
 (hfr : v'.ownBlock = ov.ownBlock ∨ ∃ g, v'.ownBlock = some g ∧ wr.heap.size ≤ g) (hu : u.heap = (w1.setCell ⟨tb, 0, none⟩ v').heap) : ThI w u i ops la lc tbs opv tb v' (k + 1) := by
 obtain ⟨hb, ht, ho, hnt, hdt, hno, hdv⟩ := h
 have hne : some tb ≠ ov.ownBlock := own_type ho ht.o (by decide)
 have ht1 := (hold tb ht.lt hne).trans ht.o
 have hvt : v'.ownBlock ≠ some tb := by
  have := ht.lt
  rcases hfr with e | ⟨g, e, hg⟩
  ·rw [e]; exact fun h => hne h.symm
  ·rw [e]; intro h; cases h; omega
 have hou : ∀ r, r ≠ tb → u.heap[r]? = w1.heap[r]? := fun r hr => by rw [hu, heap_setCell_ne _ _ _ hr]
 have hall : ∀ r, r < wr.heap.size → r ≠ tb → some r ≠ ov.ownBlock → u.heap[r]? = wr.heap[r]? := fun r h1 h2 h3 => (hou r h2).trans (hold r h1 h3)
 have hs := hb.size
 have hlto : ∀ j g, j < i → (opv j).ownBlock = some g → g < wr.heap.size := fun j g hj hg => by
  obtain ⟨c, hc⟩ := own_row_ty (hb.o j hj) hg
  exact (alt hc)
 refine ⟨hb.same (by rw [hu, World.size_setCell]; exact hsz) (fun r hr => hall r (by omega) (by omega) fun e => by have := hno r e.symm; omega) (fun j hj => hall _ (hb.t j hj).lt (hdt j hj) (own_type ho (hb.t j hj).o (by decide))) (fun j g hj hg => ?_) (fun g hg => ?_), ⟨?_, ⟨rfl, .inl ⟨rfl, rfl⟩⟩⟩, ?_, hnt, hdt, fun g hg => ?_, fun j g hj hg => ?_⟩
 ·obtain ⟨c, hc⟩ := own_row_ty (hb.o j hj) hg
  exact hall g (hlto j g hj hg) (heap_ty hc ht.o (by decide)) fun e => hdv j g hj e.symm hg
 ·obtain ⟨c, hc⟩ := own_row_ty hb.l hg
  exact hall g (alt hc) (heap_ty hc ht.o (by decide)) (own_type ho hc (by decide))
 ·rw [hu, heap_set_eq ht1]; rfl
 ·rw [take_op hx, opsC_app]
  exact ownsRow_same2 hown fun b hb _ => hou b fun e => hvt (e ▸ hb)
 ·rcases hfr with e | ⟨g', e, hg'⟩
  ·exact hno g (e ▸ hg)
  ·rw [e] at hg; cases hg; omega
 ·rcases hfr with e | ⟨g', e, hg'⟩
  ·exact hdv j g hj (e ▸ hg)
  ·rw [e] at hg; cases hg
   intro h; have := hlto j _ hj h; omega
theorem ThI.done (h : ThI w wr i ops la lc tbs opv tb ov (ops i).length) (hown : w1.ownsRow 0 123 1 v' (i + 1) (((List.range i).map fun j => .pointer (some ⟨tbs j, 0, none⟩)) ++ [.pointer (some ⟨tb, 0, none⟩)])) (hold : ∀ r, r < wr.heap.size → some r ≠ (Value.slice la i lc).ownBlock → w1.heap[r]? = wr.heap[r]?) (hsz : wr.heap.size ≤ w1.heap.size)
 (hfr : v'.ownBlock = (Value.slice la i lc).ownBlock ∨ ∃ g, v'.ownBlock = some g ∧ wr.heap.size ≤ g) (hu : u.heap = w1.heap) : ∃ la' lc', v' = .slice la' (i + 1) lc' ∧ ThrNew w u (i + 1) ops la' lc' (updN tbs i tb) (updN opv i ov) := by
 obtain ⟨hb, ht, ho, hnt, hdt, hno, hdv⟩ := h
 obtain ⟨g, cap, rfl⟩ := own_slice hown
 have hs := hb.size
 have hall : ∀ (r : Nat) (c : Array Value) (e : TypeId) (z : Nat × Nat), wr.heap[r]? = some (.cells c e z) → e ≠ 123 → u.heap[r]? = wr.heap[r]? := fun r c e z hr he => by
  rw [hu]; exact hold r (alt hr) (own_type hb.l hr fun h => he h.symm)
 refine ⟨some ⟨g, 0, none⟩, cap, rfl, ⟨?_, fun j hj => ?_, fun j hj => ?_, fun a b ha hb' hab => ?_, fun j hj => ?_, fun j g' hj hg => ?_, fun g' hg => ?_, by rw [hu]; omega, fun r hr => ?_⟩⟩
 ·have e1 : ((List.range (i + 1)).map fun j => Value.pointer (some ⟨updN tbs i tb j, 0, none⟩)) = ((List.range i).map fun j => .pointer (some ⟨tbs j, 0, none⟩)) ++ [.pointer (some ⟨tb, 0, none⟩)] := by
   rw [List.range_succ, List.map_append]
   congr 1
   ·exact List.map_congr_left fun j hj => by rw [updN_ne _ _ (by have := List.mem_range.1 hj; omega)]
   ·simp [updN_eq]
  rw [e1]
  exact ownsRow_same2 hown fun _ _ _ => by rw [hu]
 ·by_cases e : j = i
  ·subst e
   rw [updN_eq, updN_eq]
   exact ht.same (hall _ _ _ _ ht.o (by decide)) fun r hr => (by cases hr)
  ·rw [updN_ne _ _ e, updN_ne _ _ e]
   exact (hb.t j (by omega)).same (hall _ _ _ _ (hb.t j (by omega)).o (by decide)) fun r hr => (by cases hr)
 ·by_cases e : j = i
  ·subst e
   rw [updN_eq]
   rw [List.take_length] at ho
   exact ownsRow_same2 ho fun b hb _ => by
    obtain ⟨c, hc⟩ := own_row_ty ho hb
    exact hall _ _ _ _ hc (by decide)
  ·rw [updN_ne _ _ e]
   exact ownsRow_same2 (hb.o j (by omega)) fun b hb' _ => by
    obtain ⟨c, hc⟩ := own_row_ty (hb.o j (by omega)) hb'
    exact hall _ _ _ _ hc (by decide)
 ·by_cases ea : a = i
  ·have eb : b ≠ i := fun e => hab (ea.trans e.symm)
   rw [ea, updN_eq, updN_ne _ _ eb]
   exact (hdt b (by omega)).symm
  ·rw [updN_ne _ _ ea]
   by_cases eb : b = i
   ·rw [eb, updN_eq]; exact hdt a (by omega)
   ·rw [updN_ne _ _ eb]; exact hb.dt a b (by omega) (by omega) hab
 ·by_cases e : j = i
  ·rw [e, updN_eq]; exact hnt
  ·rw [updN_ne _ _ e]; exact hb.nt j (by omega)
 ·by_cases e : j = i
  ·rw [e, updN_eq] at hg; exact hno g' hg
  ·rw [updN_ne _ _ e] at hg; exact hb.no j g' (by omega) hg
 ·rcases hfr with e | ⟨g2, e, h2⟩
  ·exact hb.nl g' (e ▸ hg)
  ·rw [e] at hg; cases hg; omega
 ·rw [hu]
  refine (hold r (by omega) fun e => ?_).trans (hb.old r hr)
  have := hb.nl r e.symm; omega
theorem b158 : Try.prog.built 158 [] = some (thC (.slice none 0 0) t00 (.slice none 0 0) false) := by kernel_rfl
@[go_sem] theorem run_b158 (w : World) : (Instr.build 158 #[]).run Try.prog w = .ok (.agg (thC (.slice none 0 0) t00 (.slice none 0 0) false)) w := run_build w _ _ _ b158
theorem infoA123 : ∃ i z, Try.prog.info? 123 = some i ∧ i.zero = some z ∧ i.size = 1 ∧ i.bytes = 8 ∧ z.cells.size = 1 := infoOf (by kernel_rfl)
theorem infoA47 : ∃ i z, Try.prog.info? 47 = some i ∧ i.zero = some z ∧ i.size = 4 ∧ i.bytes = 32 ∧ z.cells.size = 4 := infoOf (by kernel_rfl)
theorem threads_calls {N : Nat → Prop} {n b0 o tl tc : Nat} {ta sa : Option Addr} {oa : Nat → Option Addr} {ol oc : Nat → Nat} {S : List Int} (hI : OpsIn w N n b0 o tl ta oa ol oc ops S sa) (htl : tl < 1000000000000) (hol : ∀ j, j < n → ol j < 1000000000000) :
 Calls Try.prog 67 #[.slice ta tl tc] w fun x w' => ∃ la lc tbs opv, x = .returned (.slice la n lc) ∧ ThrNew w w' n ops la lc tbs opv := by
 obtain ⟨i0, z0, hi, hz0, hz1, hz2, hz3⟩ := infoA123
 obtain ⟨j0, y0, hj, hy0, hy1, hy2, hy3⟩ := infoA47
 have A : Aside (OpsIn w N n b0 o tl ta oa ol oc ops S sa ∧ (∀ j, j < n → ol j < 1000000000000)) := ⟨hI, hol⟩
 have hn := hI.hn
 clear hI hol
 go_enter Try.func67, Try.ntmps67
 go_wp2
 go_loopg [3, 4] n (fun g l x wr => ∃ i la lc tbs opv, l = .slice la i lc ∧ x = .int .i64 (i : Nat) ∧ i ≤ n ∧ g = n - i ∧ ThrNew w wr i ops la lc tbs opv)
 case atStart => exact ⟨0, none, 0, fun _ => 0, fun _ => .slice none 0 0, rfl, rfl, Nat.zero_le _, rfl, ⟨⟨rfl, .inl ⟨rfl, rfl⟩⟩, fun j h => by omega, fun j h => by omega, fun a b h => by omega, fun j h => by omega, fun j g h => by omega, fun g h => (by cases h), Nat.le_refl _, fun r _ => rfl⟩⟩
 case round =>
  obtain ⟨i, la, lc, tbs, opv, rfl, rfl, hin, rfl, hT⟩ := hrel
  have T0 : Aside (ThrNew w wr i ops la lc tbs opv) := hT
  clear hT
  rcases Nat.lt_or_ge i n with hlt | hge
  ·have h1 : (i : Int) < (tl : Int) := by omega
   have h2 : (i : Int) < 64 := by omega
   obtain ⟨rfl⟩ := A.out.1.hta (by omega)
   obtain ⟨g1, g2, g3⟩ := A.out.1.hth i hlt
   have hlen := A.out.1.hlen i hlt
   have hol := A.out.2 i hlt
   go_wp2
   have I0 : Aside (ThI w (wr.alloc (.cells (thC (.slice none 0 0) t00 (.slice none 0 0) false) 158)) i ops la lc tbs opv wr.heap.size (.slice none 0 0) 0) := T0.out.begin rfl
   generalize hX : wr.alloc (.cells (thC (.slice none 0 0) t00 (.slice none 0 0) false) 158) = X at I0
   generalize hx0 : wr.heap.size = tb at I0 ⊢
   go_loopg [6] (ops i).length (fun g x wx => ∃ (k : Nat) (ov : Value), x = .int .i64 (k : Nat) ∧ k ≤ (ops i).length ∧ g = (ops i).length - k ∧ ThI w wx i ops la lc tbs opv tb ov k)
   case atStart => exact ⟨0, _, rfl, Nat.zero_le _, rfl, by first | exact I0.out | (subst hX; exact I0.out)⟩
   case round =>
    obtain ⟨k, ov, rfl, hk, rfl, hT⟩ := hrel
    have T1 : Aside (ThI w wr i ops la lc tbs opv tb ov k) := hT
    have hT1 := hT.b.old
    have hcell : ∀ {a : Addr} {v : Value}, w.cell? a = some v → wr.cell? a = some v := fun {a v} h => by
     obtain ⟨c, e, z, hb⟩ := cell_block h
     have e1 := hT1 _ (alt hb)
     rw [← h]; unfold World.cell?; simp only [e1]
    have f1 := hcell g1
    clear hT hT1 hX
    rcases Nat.lt_or_ge k (ops i).length with hkl | hkl
    ·have h3 : (k : Int) < (ol i : Int) := by omega
     have h4 : (k : Int) < 65536 := by omega
     obtain ⟨x, hx⟩ : ∃ x, (ops i)[k]? = some x := ⟨_, List.getElem?_eq_getElem hkl⟩
     obtain ⟨opb, oo, e1, _, p0, p1, p2, p3, _⟩ := A.out.1.hop i hlt k x hx
     rw [e1] at f1
     have p0 := hcell p0
     have p1 := hcell p1
     have p2 := hcell p2
     have p3 := hcell p3
     have X1 : Aside ((ops i)[k]? = some x) := hx
     have q0 : wr.cell? ⟨tb, 0, none⟩ = some ov := T1.out.t.fx.c0
     have y0' : wr.frozen? ⟨tb, 0, none⟩ = false := T1.out.t.fx.z 0
     have r0 := (cellB_alloc q0 (.cells #[.int .i64 x.kd, .int .i64 x.a, .int .i64 x.b, .int .i64 x.c] 47)).1
     have hrow := T1.out.o
     have htl := T1.out.t.lt
     have hwr : IntKind.i64.wrap ((k : Int) + 1) = ((k + 1 : Nat) : Int) := IntWalk.i64_in _ (by omega)
     clear hcell hx
     go_wp2
     go_region_law (refine step_append_fresh rfl (.tmp 36) (.tmp 44) 34 rfl 47 j0 y0 4 32 Try.underlying34 hj hy0 hy1 hy2 hy3 (by decide) ov k (opsC ((ops i).take k)) (by simp [Act.eval, Act.put]) ((show wr.drew.ownsRow 0 47 4 _ _ _ from hrow).alloc _) ⟨wr.heap.size, 0, none⟩ 1 1 [.int .i64 x.kd, .int .i64 x.a, .int .i64 x.b, .int .i64 x.c] (by simp [Act.eval, Act.put]) rfl (new_cells (X := wr.drew) (l := [.int .i64 x.kd, .int .i64 x.a, .int .i64 x.b, .int .i64 x.c]) rfl) (by intro u hu; simp at hu; rcases hu with rfl | rfl | rfl | rfl <;> rfl) (by unfold maxLen; omega) (by omega) ?_; intro v' w1 hown hgrow hfr; obtain ⟨vg, vcap, rfl⟩ := own_slice hown; have hk1 := grown_old (W := wr.drew) hgrow (r := tb) htl (own_type hrow T1.out.t.o (by decide)); have k0 := (cell_heap (j := 0) hk1).1.trans q0; have k1 := (cell_heap (j := 0) hk1).2.trans y0'; have F : Aside (w1.ownsRow 0 47 4 (Value.slice (some ⟨vg, 0, none⟩) (k + 1) vcap) (k + 1) (opsC ((ops i).take k) ++ [.int .i64 x.kd, .int .i64 x.a, .int .i64 x.b, .int .i64 x.c]) ∧ (∀ r, r < wr.heap.size → some r ≠ ov.ownBlock → w1.heap[r]? = wr.heap[r]?) ∧ wr.heap.size ≤ w1.heap.size ∧ ((Value.slice (some ⟨vg, 0, none⟩) (k + 1) vcap).ownBlock = ov.ownBlock ∨ ∃ g', (Value.slice (some ⟨vg, 0, none⟩) (k + 1) vcap).ownBlock = some g' ∧ wr.heap.size ≤ g')) := ⟨hown, fun r hr hn => grown_old (W := wr.drew) hgrow hr hn, Nat.le_trans (by simp [World.drew]) hgrow.size, hfr.imp id fun ⟨g', h1, h2⟩ => ⟨g', h1, Nat.le_trans (by simp [World.drew]) h2⟩⟩; clear hown hgrow hfr hk1)
     all_goals go_wp2
     all_goals (
      go_roundg ((ops i).length - (k + 1))
      case measure => omega
      case rel => exact ⟨k + 1, _, rfl, hkl, rfl, T1.out.more X1.out F.out.1 F.out.2.1 F.out.2.2.1 F.out.2.2.2 rfl⟩)
    ·obtain rfl : k = (ops i).length := by omega
     have hwr : IntKind.i64.wrap ((i : Int) + 1) = ((i + 1 : Nat) : Int) := IntWalk.i64_in _ (by omega)
     have hrow := T1.out.b.l
     clear hcell
     have cs : ¬ ((ops i).length : Int) < (ol i : Int) ∨ (((ops i).length : Int) < (ol i : Int) ∧ ¬ ((ops i).length : Int) < 65536) := by omega
     obtain ⟨gl, hgl⟩ : ∃ gl, gl = (ops i).length := ⟨_, rfl⟩
     rw [← hgl] at cs ⊢
     clear hlen hgl hol
     rcases cs with c1 | ⟨c1, c2⟩
     all_goals (
      go_wp2_with (at_builtin; refine wpList_append_fresh rfl (.tmp 48) (.tmp 50) 116 rfl 123 i0 z0 1 8 Try.underlying116 hi hz0 hz1 hz2 hz3 (by decide) (.slice la i lc) i ((List.range i).map fun j => .pointer (some ⟨tbs j, 0, none⟩)) rfl (hrow.alloc _) ⟨wr.heap.size, 0, none⟩ 1 1 [.pointer (some ⟨tb, 0, none⟩)] rfl rfl (new_cells (X := wr) (l := [.pointer (some ⟨tb, 0, none⟩)]) rfl) (by intro u hu; simp at hu; subst hu; rfl) (by unfold maxLen; omega) (by omega) ?_; intro v' w1 hown hgrow hfr; obtain ⟨la', lc', hv, hD⟩ := T1.out.done hown (fun r hr hn => grown_old hgrow hr hn) (Nat.le_trans (by simp) hgrow.size) (hfr.imp id fun ⟨g', h1, h2⟩ => ⟨g', h1, Nat.le_trans (by simp) h2⟩) (u := w1) rfl; subst hv; have D : Aside (ThrNew w w1 (i + 1) ops la' lc' (updN tbs i tb) (updN opv i ov)) := hD; clear hown hgrow hfr hD)
      go_roundg (n - (i + 1))
      case measure => omega
      case rel => exact ⟨i + 1, la', lc', _, _, rfl, rfl, hlt, rfl, D.out⟩)
  ·obtain rfl : i = n := by omega
   have cs : ¬ (i : Int) < (tl : Int) ∨ ((i : Int) < (tl : Int) ∧ ¬ (i : Int) < 64) := by omega
   rcases cs with c1 | ⟨c1, c2⟩
   all_goals (
    go_wp2
    go_ret
    first | exact ⟨la, lc, tbs, opv, rfl, T0.out⟩ | exact ⟨la, lc, rfl, tbs, opv, T0.out⟩)
end
section
variable {w w' : World}
def NTOut (w : World) (S : List Int) (M : Nat) (x : Ending) (w' : World) : Prop :=
 ∃ ub la lc, x = .returned (.pointer (some ⟨ub, 0, none⟩)) ∧ TurnMem w' ub la S.length lc M 0 0 (.slice none 0 0) [] ∧ w'.ownsRow 0 3 1 (.slice la S.length lc) S.length (S.map fun i : Int => Value.int .i64 i) ∧
   w.heap.size ≤ ub ∧ (∀ g, (Value.slice la S.length lc).ownBlock = some g → w.heap.size ≤ g) ∧ (∀ r, r < w.heap.size → w'.heap[r]? = w.heap[r]?) ∧ w.heap.size ≤ w'.heap.size
theorem b162 (m : Int) : Try.prog.built 162 [(3, .int .i64 m)] = some #[.slice none 0 0, .int .i64 0, .int .i64 0, .int .i64 m, .slice none 0 0, .bool false] := by kernel_rfl
@[go_sem] theorem run_b162 (w : World) (m : Int) : (Instr.build 162 #[(3, .int .i64 m)]).run Try.prog w = .ok (.agg #[.slice none 0 0, .int .i64 0, .int .i64 0, .int .i64 m, .slice none 0 0, .bool false]) w := run_build w _ _ _ (b162 m)
theorem newturn_nil {sa : Option Addr} {sc M : Nat} {mo : Int} (hM : min (max mo 0) 1048576 = (M : Int)) : Calls Try.prog 69 #[.slice sa 0 sc, .int .i64 mo] w fun x w' => NTOut w [] M x w' := by
 have hap : Sem.run Try.prog (pure (#[] : Array Value)) w = .ok #[] w := rfl
 have hap2 : Sem.run Try.prog (Sem.pure (#[] : Array Value)) w = .ok #[] w := rfl
 have key : ∀ (u : World) (m : Int), u.heap[w.heap.size]? = some (.cells #[.slice none 0 0, .int .i64 0, .int .i64 0, .int .i64 m, .slice none 0 0, .bool false] 162 (0, 0)) → m = M → w.heap.size < u.heap.size → (∀ r, r < w.heap.size → u.heap[r]? = w.heap[r]?) → NTOut w [] M (.returned (.pointer (some ⟨w.heap.size, 0, none⟩))) u := fun u m h1 h2 h3 h4 => by
  subst h2
  exact ⟨w.heap.size, none, 0, rfl, ⟨h1, ⟨rfl, .inl ⟨rfl, rfl⟩⟩⟩, ⟨rfl, .inl ⟨rfl, rfl⟩⟩, Nat.le_refl _, fun g h => (by cases h), h4, Nat.le_of_lt h3⟩
 have K : Aside (∀ (u : World) (m : Int), u.heap[w.heap.size]? = some (.cells #[.slice none 0 0, .int .i64 0, .int .i64 0, .int .i64 m, .slice none 0 0, .bool false] 162 (0, 0)) → m = M → w.heap.size < u.heap.size → (∀ r, r < w.heap.size → u.heap[r]? = w.heap[r]?) → NTOut w [] M (.returned (.pointer (some ⟨w.heap.size, 0, none⟩))) u) := key
 clear key
 have cs : mo < 0 ∨ (¬ mo < 0 ∧ (1048576 : Int) < mo) ∨ (¬ mo < 0 ∧ ¬ (1048576 : Int) < mo) := by omega
 rcases cs with c1 | ⟨c1, c2⟩ | ⟨c1, c2⟩
 all_goals rcases sa with _ | ad
 all_goals (
  go_enter Try.func69, Try.ntmps69
  go_wp2
  try (simp only [hap, hap2, Result.andThen_ok]; go_wp2)
  go_ret
  first
   | exact K.out _ _ (heap_alloc_new _ _) (by omega) (by simp) (fun r hr => heap_alloc_lt _ _ hr)
   | exact K.out _ 0 ((heap_set_eq (heap_alloc_new _ _)).trans rfl) (by omega) (by simp) (fun r hr => by rw [heap_setCell_ne _ _ _ (show r ≠ w.heap.size by omega)]; exact heap_alloc_lt _ _ hr)
   | exact K.out _ 1048576 ((heap_set_eq (heap_alloc_new _ _)).trans rfl) (by omega) (by simp) (fun r hr => by rw [heap_setCell_ne _ _ _ (show r ≠ w.heap.size by omega)]; exact heap_alloc_lt _ _ hr))
theorem newturn_some {S : List Int} {ad : Addr} {sc M : Nat} {mo : Int} (hM : min (max mo 0) 1048576 = (M : Int)) (hl : S.length < 10000000) (h0 : 0 < S.length) (hS : ∀ j u, (S.map fun i : Int => Value.int .i64 i)[j]? = some u → w.cell? (ad.add j) = some u) :
 Calls Try.prog 69 #[.slice (some ad) S.length sc, .int .i64 mo] w fun x w' => NTOut w S M x w' := by
 obtain ⟨i0, z0, hi, hz0, hz1, hz2, hz3⟩ := infoA3
 have key : ∀ (g cap : Nat) (u : World) (m : Int), u.heap[w.heap.size]? = some (.cells #[.slice (some ⟨g, 0, none⟩) S.length cap, .int .i64 0, .int .i64 0, .int .i64 m, .slice none 0 0, .bool false] 162 (0, 0)) → m = M → w.heap.size < u.heap.size → (∀ r, r < w.heap.size → u.heap[r]? = w.heap[r]?) → u.ownsRow 0 3 1 (.slice (some ⟨g, 0, none⟩) S.length cap) S.length (S.map fun i : Int => Value.int .i64 i) → w.heap.size ≤ g → NTOut w S M (.returned (.pointer (some ⟨w.heap.size, 0, none⟩))) u := fun g cap u m h1 h2 h3 h4 h5 h6 => by
  subst h2
  exact ⟨w.heap.size, some ⟨g, 0, none⟩, cap, rfl, ⟨h1, ⟨rfl, .inl ⟨rfl, rfl⟩⟩⟩, h5, Nat.le_refl _, fun g' h => (by simp only [Value.ownBlock, Option.some.injEq] at h; omega), h4, Nat.le_of_lt h3⟩
 have K : Aside (∀ (g cap : Nat) (u : World) (m : Int), u.heap[w.heap.size]? = some (.cells #[.slice (some ⟨g, 0, none⟩) S.length cap, .int .i64 0, .int .i64 0, .int .i64 m, .slice none 0 0, .bool false] 162 (0, 0)) → m = M → w.heap.size < u.heap.size → (∀ r, r < w.heap.size → u.heap[r]? = w.heap[r]?) → u.ownsRow 0 3 1 (.slice (some ⟨g, 0, none⟩) S.length cap) S.length (S.map fun i : Int => Value.int .i64 i) → w.heap.size ≤ g → NTOut w S M (.returned (.pointer (some ⟨w.heap.size, 0, none⟩))) u) := key
 have hS2 : ∀ j u, (S.map fun i : Int => Value.int .i64 i)[j]? = some u → (w.alloc (.cells #[.slice none 0 0, .int .i64 0, .int .i64 0, .int .i64 mo, .slice none 0 0, .bool false] 162)).cell? (ad.add j) = some u := fun j u h => (cellB_alloc (hS j u h) _).1
 have SS : Aside (∀ j u, (S.map fun i : Int => Value.int .i64 i)[j]? = some u → (w.alloc (.cells #[.slice none 0 0, .int .i64 0, .int .i64 0, .int .i64 mo, .slice none 0 0, .bool false] 162)).cell? (ad.add j) = some u) := hS2
 clear key hS hS2
 have cs : mo < 0 ∨ (¬ mo < 0 ∧ (1048576 : Int) < mo) ∨ (¬ mo < 0 ∧ ¬ (1048576 : Int) < mo) := by omega
 have hS : True := trivial
 rcases cs with c1 | ⟨c1, c2⟩ | ⟨c1, c2⟩
 all_goals (
  go_enter Try.func69, Try.ntmps69
  go_wp2_with (at_builtin; refine wpList_append_fresh rfl (.tmp 13) (.tmp 14) 24 rfl 3 i0 z0 1 8 Try.underlying24 hi hz0 hz1 hz2 hz3 (by decide) (.slice none 0 0) 0 [] rfl ⟨rfl, .inl ⟨rfl, rfl⟩⟩ ad S.length sc (S.map fun i : Int => Value.int .i64 i) rfl (by simp) SS.out (by intro u hu; obtain ⟨i, _, rfl⟩ := List.mem_map.1 hu; rfl) (by unfold maxLen; omega) (by omega) ?_; intro v' w1 hown hgrow hfr; have hown : w1.ownsRow 0 3 1 v' S.length (S.map fun i : Int => Value.int .i64 i) := (by simpa using hown); obtain ⟨g, cap, hv, hg0⟩ : ∃ g cap, v' = .slice (some ⟨g, 0, none⟩) S.length cap ∧ w.heap.size < g := (by
   have hb : ∃ g cap, v' = .slice (some ⟨g, 0, none⟩) S.length cap := by
    rcases hown.2 with ⟨_, h⟩ | ⟨g, cap, _, h, _⟩
    ·omega
    ·exact ⟨g, cap, h⟩
   obtain ⟨g, cap, rfl⟩ := hb
   refine ⟨g, cap, rfl, ?_⟩
   rcases hfr with h | ⟨g', h, hg⟩
   ·simp [Value.ownBlock] at h
   ·simp only [Value.ownBlock, Option.some.injEq] at h
    simp at hg; omega); subst hv; have ho : w1.heap[w.heap.size]? = some (.cells #[.slice none 0 0, .int .i64 0, .int .i64 0, .int .i64 mo, .slice none 0 0, .bool false] 162 (0, 0)) := (hgrow.block _ (by simp) (by simp [Value.ownBlock])).trans (heap_alloc_new _ _); have F : Aside (w1.heap[w.heap.size]? = some (.cells #[.slice none 0 0, .int .i64 0, .int .i64 0, .int .i64 mo, .slice none 0 0, .bool false] 162 (0, 0)) ∧ (∀ r, r < w.heap.size → w1.heap[r]? = w.heap[r]?) ∧ w.heap.size < w1.heap.size ∧ w1.ownsRow 0 3 1 (.slice (some ⟨g, 0, none⟩) S.length cap) S.length (S.map fun i : Int => Value.int .i64 i) ∧ w.heap.size < g) := ⟨ho, fun r hr => (hgrow.block _ (by simp; omega) (by simp [Value.ownBlock])).trans (heap_alloc_lt _ _ hr), (by have := hgrow.size; simp at this; omega), hown, hg0⟩; have q0 : w1.cell? ⟨w.heap.size, 0, none⟩ = some (.slice none 0 0) := (by simp [World.cell?, ho]); have q3 : w1.cell? ⟨w.heap.size, 3, none⟩ = some (.int .i64 mo) := (by simp [World.cell?, ho]); have y0 : w1.frozen? ⟨w.heap.size, 0, none⟩ = false := (by simp [World.frozen?, ho]); have y3 : w1.frozen? ⟨w.heap.size, 3, none⟩ = false := (by simp [World.frozen?, ho]); clear hown hgrow hfr ho hg0)
  go_ret
  obtain ⟨f1, f2, f3, f4, f5⟩ := F.out
  first
   | exact K.out g cap _ mo ((heap_set_eq f1).trans rfl) (by omega) (by simpa using f3) (fun r hr => by rw [heap_setCell_ne _ _ _ (show r ≠ w.heap.size by omega)]; exact f2 r hr) (ownsRow_same2 f4 fun b hb _ => heap_setCell_ne _ _ _ (by simp only [Value.ownBlock, Option.some.injEq] at hb; show b ≠ w.heap.size; omega)) (by omega)
   | exact K.out g cap _ 0 ((heap_set_eq (heap_set_eq f1)).trans rfl) (by omega) (by simpa using f3) (fun r hr => by rw [heap_setCell_ne _ _ _ (show r ≠ w.heap.size by omega), heap_setCell_ne _ _ _ (show r ≠ w.heap.size by omega)]; exact f2 r hr) (ownsRow_same2 f4 fun b hb _ => by simp only [Value.ownBlock, Option.some.injEq] at hb; rw [heap_setCell_ne _ _ _ (show b ≠ w.heap.size by omega), heap_setCell_ne _ _ _ (show b ≠ w.heap.size by omega)]) (by omega)
   | exact K.out g cap _ 1048576 ((heap_set_eq (heap_set_eq f1)).trans rfl) (by omega) (by simpa using f3) (fun r hr => by rw [heap_setCell_ne _ _ _ (show r ≠ w.heap.size by omega), heap_setCell_ne _ _ _ (show r ≠ w.heap.size by omega)]; exact f2 r hr) (ownsRow_same2 f4 fun b hb _ => by simp only [Value.ownBlock, Option.some.injEq] at hb; rw [heap_setCell_ne _ _ _ (show b ≠ w.heap.size by omega), heap_setCell_ne _ _ _ (show b ≠ w.heap.size by omega)]) (by omega))
end
section
variable {w w' : World}
structure AnsAt (w wr : World) (ob : Nat) (y1 y2 y3 : Value) (ovs : Nat → Value) (i : Nat) (xv : Value) : Prop where
 o : wr.heap[ob]? = some (.cells #[xv, y1, y2, y3] 31 (0, 0))
 z : wr.heap[w.heap.size]? = some (.cells #[.slice none 0 0, .slice none 0 0, .slice none 0 0, .bool false] 31 (0, 0))
 row : wr.ownsRow 0 42 1 xv i ((List.range i).map ovs)
 old : ∀ r, r < w.heap.size → wr.heap[r]? = w.heap[r]?
 size : w.heap.size < wr.heap.size
 new : ∀ g, xv.ownBlock = some g → w.heap.size ≤ g
 ne : w.heap.size < ob
theorem AnsAt.more {wr w1 u : World} {ob : Nat} {y1 y2 y3 : Value} {ovs : Nat → Value} {i : Nat} {xv v' : Value} (h : AnsAt w wr ob y1 y2 y3 ovs i xv) (hown : w1.ownsRow 0 42 1 v' (i + 1) ((List.range i).map ovs ++ [ovs i]))
 (hold : ∀ r, r < wr.heap.size → some r ≠ xv.ownBlock → w1.heap[r]? = wr.heap[r]?) (hsz : wr.heap.size ≤ w1.heap.size) (hfr : v'.ownBlock = xv.ownBlock ∨ ∃ g', v'.ownBlock = some g' ∧ wr.heap.size ≤ g')
 (hu : u.heap = (w1.setCell ⟨ob, 0, none⟩ v').heap) : AnsAt w u ob y1 y2 y3 ovs (i + 1) v' := by
 have hs := h.size
 have hobl := (Array.getElem?_eq_some_iff.1 h.o).1
 have hob2 : some ob ≠ xv.ownBlock := own_type h.row h.o (by decide)
 have ho1 : w1.heap[ob]? = _ := (hold ob hobl hob2).trans h.o
 have hne : v'.ownBlock ≠ some ob := by
  rcases hfr with e | ⟨g, e, hg⟩
  ·rw [e]; exact fun h => hob2 h.symm
  ·rw [e]; intro h; cases h; omega
 refine ⟨?_, ?_, ?_, fun r hr => ?_, by rw [hu, World.size_setCell]; omega, fun g hg => ?_, h.ne⟩
 ·rw [hu, heap_set_eq ho1]; rfl
 ·rw [hu, heap_setCell_ne _ _ _ (show w.heap.size ≠ ob by have := h.ne; omega), hold _ hs (own_type h.row h.z (by decide))]
  exact h.z
 ·rw [List.range_succ, List.map_append]
  exact ownsRow_same2 hown fun b hb _ => by
   rw [hu]
   exact heap_setCell_ne _ _ _ fun e => hne (by rw [← show b = ob from e]; exact hb)
 ·have hob3 := h.ne
  rw [hu, heap_setCell_ne _ _ _ (show r ≠ ob by omega), hold r (by omega) fun e => by have := h.new r e.symm; omega]
  exact h.old r hr
 ·rcases hfr with e | ⟨g2, e, h2⟩
  ·exact h.new g (e ▸ hg)
  ·rw [e] at hg; cases hg; omega
theorem infoB42 : ∃ i z, Try.prog.info? 42 = some i ∧ i.zero = some z ∧ i.size = 1 ∧ i.bytes = 24 ∧ z.cells.size = 1 := infoOf (by kernel_rfl)
theorem b31t (a b : Option Addr) (n m k l : Nat) (s : Bool) : Try.prog.built 31 [(1, .slice a n m), (2, .slice b k l), (3, .bool s)] = some #[.slice none 0 0, .slice a n m, .slice b k l, .bool s] := by kernel_rfl
@[go_sem] theorem run_b31t (w : World) (a b : Option Addr) (n m k l : Nat) (s : Bool) : (Instr.build 31 #[(1, .slice a n m), (2, .slice b k l), (3, .bool s)]).run Try.prog w = .ok (.agg #[.slice none 0 0, .slice a n m, .slice b k l, .bool s]) w := run_build w _ _ _ (b31t a b n m k l s)
structure TrOut (w : World) (n : Nat) (ovs : Nat → Value) (xa : Option Addr) (xc : Nat) (w' : World) : Prop where
 row : w'.ownsRow 0 42 1 (.slice xa n xc) n ((List.range n).map ovs)
 old : ∀ r, r < w.heap.size → w'.heap[r]? = w.heap[r]?
 size : w.heap.size ≤ w'.heap.size
 new : ∀ g, (Value.slice xa n xc).ownBlock = some g → w.heap.size ≤ g
theorem trace_calls {ub n ec ll lc ol oc sl sc : Nat} {la ea oa sa : Option Addr} {p r m : Int} {st : Bool} {tbs : Nat → Nat} {va : Nat → Option Addr} {vl vc : Nat → Nat} (hn : n ≤ 64) (hu : w.heap[ub]? = some (.cells #[.slice la ll lc, .int .i64 p, .int .i64 r, .int .i64 m, .slice oa ol oc, .bool st] 162 (0, 0)))
 (hT : ∀ j, j < n → ∃ lb, ea = some ⟨lb, 0, none⟩ ∧ w.cell? ⟨lb, j, none⟩ = some (.pointer (some ⟨tbs j, 0, none⟩)) ∧ w.cell? ⟨tbs j, 12, none⟩ = some (.slice (va j) (vl j) (vc j))) :
 Calls Try.prog 72 #[.pointer (some ⟨ub, 0, none⟩), .slice ea n ec, .slice sa sl sc] w fun x w' => ∃ xa xc, x = .returned (.agg #[.slice xa n xc, .slice oa ol oc, .slice sa sl sc, .bool st]) ∧ TrOut w n (fun j => .slice (va j) (vl j) (vc j)) xa xc w' := by
 obtain ⟨i0, z0, hi, hz0, hz1, hz2, hz3⟩ := infoB42
 have L : Aside (∀ j, j < n → ∃ lb, ea = some ⟨lb, 0, none⟩ ∧ w.cell? ⟨lb, j, none⟩ = some (.pointer (some ⟨tbs j, 0, none⟩)) ∧ w.cell? ⟨tbs j, 12, none⟩ = some (.slice (va j) (vl j) (vc j))) := hT
 have hlt := (alt hu)
 have u4 : (w.alloc (.cells #[.slice none 0 0, .slice none 0 0, .slice none 0 0, .bool false] 31)).cell? ⟨ub, 4, none⟩ = some (.slice oa ol oc) := (cellB_alloc (by simp [World.cell?, hu]) _).1
 have u5 : (w.alloc (.cells #[.slice none 0 0, .slice none 0 0, .slice none 0 0, .bool false] 31)).cell? ⟨ub, 5, none⟩ = some (.bool st) := (cellB_alloc (by simp [World.cell?, hu]) _).1
 clear hT hu
 go_enter Try.func72, Try.ntmps72
 go_wp2
 have hz := heap_alloc_new w (.cells #[.slice none 0 0, .slice none 0 0, .slice none 0 0, .bool false] 31)
 have hold : ∀ r, r < w.heap.size → (w.alloc (.cells #[.slice none 0 0, .slice none 0 0, .slice none 0 0, .bool false] 31)).heap[r]? = w.heap[r]? := fun r hr => heap_alloc_lt _ _ hr
 have hsz : (w.alloc (.cells #[.slice none 0 0, .slice none 0 0, .slice none 0 0, .bool false] 31)).heap.size = w.heap.size + 1 := by simp
 generalize w.alloc (.cells #[.slice none 0 0, .slice none 0 0, .slice none 0 0, .bool false] 31) = W at u4 u5 hz hold hsz ⊢
 have WW : Aside (W.heap[w.heap.size]? = some (.cells #[.slice none 0 0, .slice none 0 0, .slice none 0 0, .bool false] 31 (0, 0)) ∧ (∀ r, r < w.heap.size → W.heap[r]? = w.heap[r]?) ∧ W.heap.size = w.heap.size + 1) := ⟨hz, hold, hsz⟩
 have v4 := (cellB_alloc u4 (.cells #[.slice none 0 0, .slice none 0 0, .slice none 0 0, .bool false] 31)).1
 have v5 := (cellB_alloc u5 (.cells #[.slice none 0 0, .slice none 0 0, .slice none 0 0, .bool false] 31)).1
 have hub : ¬ ub = W.heap.size := by omega
 clear hz hold hsz
 go_region
 all_goals (
  go_wp2
  generalize hob : W.heap.size = ob
  go_loopg [8] n (fun g x wr => ∃ (i : Nat) (xv : Value), x = .int .i64 i ∧ i ≤ n ∧ g = n - i ∧ AnsAt w wr ob (.slice oa ol oc) (.slice sa sl sc) (.bool st) (fun j => .slice (va j) (vl j) (vc j)) i xv)
  case atStart =>
   obtain ⟨e1, e2, e3⟩ := WW.out
   subst hob
   exact ⟨0, .slice none 0 0, rfl, Nat.zero_le _, rfl, ⟨heap_alloc_new _ _, (heap_alloc_lt _ _ (by omega)).trans e1, ⟨rfl, .inl ⟨rfl, rfl⟩⟩, fun r hr => (heap_alloc_lt _ _ (by omega)).trans (e2 r hr), by show _ < (W.alloc _).heap.size; simp; omega, fun g h => (by cases h), by omega⟩⟩
  case round =>
   obtain ⟨i, xv, rfl, hin, rfl, hA⟩ := hrel
   clear u4 u5 v4 v5
   have R : Aside (AnsAt w wr ob (.slice oa ol oc) (.slice sa sl sc) (.bool st) (fun j => .slice (va j) (vl j) (vc j)) i xv) := hA
   have ho := hA.o
   have hrow := hA.row
   have hso := hA.size
   rcases Nat.lt_or_ge i n with hlt | hge
   ·obtain ⟨lb, rfl, e2, e4⟩ := L.out i hlt
    have hlt2 : (i : Int) < (n : Int) := by omega
    have f0 : wr.cell? ⟨ob, 0, none⟩ = some xv := by simp [World.cell?, ho]
    have z0' : wr.frozen? ⟨ob, 0, none⟩ = false := by simp [World.frozen?, ho]
    have hkeep : ∀ {a : Addr} {v : Value}, w.cell? a = some v → wr.cell? a = some v := fun {a v} h => by
     obtain ⟨c, e, z, hb⟩ := cell_block h
     have := hA.old a.block (alt hb)
     rw [← h]; unfold World.cell?; simp only [this]
    have f1 := hkeep e2
    have f2 := hkeep e4
    have p0 := (cellB_alloc f0 (.cells #[.slice (va i) (vl i) (vc i)] 42)).1
    have hwr : IntKind.i64.wrap ((i : Int) + 1) = ((i + 1 : Nat) : Int) := IntWalk.i64_in _ (by omega)
    have hoblt : ob < wr.heap.size := (alt ho)
    clear hkeep e2 e4 hA ho
    go_wp2
    go_region_law (refine step_append_fresh rfl (.tmp 26) (.tmp 34) 29 rfl 42 i0 z0 1 24 Try.underlying29 hi hz0 hz1 hz2 hz3 (by decide) xv i ((List.range i).map fun j => .slice (va j) (vl j) (vc j)) (by simp [Act.eval, Act.put]) ((show wr.drew.ownsRow 0 42 1 _ _ _ from hrow).alloc _) ⟨wr.heap.size, 0, none⟩ 1 1 [.slice (va i) (vl i) (vc i)] (by simp [Act.eval, Act.put]) rfl (new_cells (X := wr.drew) (l := [.slice (va i) (vl i) (vc i)]) rfl) (by intro u hu; simp at hu; subst hu; rfl) (by unfold maxLen; omega) (by omega) ?_; intro v' w1 hown hgrow hfr; obtain ⟨vg, vcap, rfl⟩ := own_slice hown; have hk1 := grown_old (W := wr.drew) hgrow (r := ob) hoblt (own_type hrow R.out.o (by decide)); have k0 := (cell_heap (j := 0) hk1).1.trans f0; have k1 := (cell_heap (j := 0) hk1).2.trans z0'; have F : Aside (w1.ownsRow 0 42 1 (Value.slice (some ⟨vg, 0, none⟩) (i + 1) vcap) (i + 1) ((List.range i).map (fun j => .slice (va j) (vl j) (vc j)) ++ [.slice (va i) (vl i) (vc i)]) ∧ (∀ r, r < wr.heap.size → some r ≠ xv.ownBlock → w1.heap[r]? = wr.heap[r]?) ∧ wr.heap.size ≤ w1.heap.size ∧ ((Value.slice (some ⟨vg, 0, none⟩) (i + 1) vcap).ownBlock = xv.ownBlock ∨ ∃ g', (Value.slice (some ⟨vg, 0, none⟩) (i + 1) vcap).ownBlock = some g' ∧ wr.heap.size ≤ g')) := ⟨hown, fun r hr hn => grown_old (W := wr.drew) hgrow hr hn, Nat.le_trans (by simp [World.drew]) hgrow.size, hfr.imp id fun ⟨g', h1, h2⟩ => ⟨g', h1, Nat.le_trans (by simp [World.drew]) h2⟩⟩; clear hown hgrow hfr hk1)
    all_goals go_wp2
    all_goals (
     go_roundg (n - (i + 1))
     case measure => omega
     case rel => exact ⟨i + 1, _, rfl, hlt, rfl, R.out.more F.out.1 F.out.2.1 F.out.2.2.1 F.out.2.2.2 rfl⟩)
   ·obtain rfl : i = n := by omega
    have hge2 : ¬ (i : Int) < (i : Int) := by omega
    obtain ⟨xa, xc, rfl⟩ : ∃ xa xc, xv = .slice xa i xc := by
     rcases hrow.2 with ⟨h1, h2⟩ | ⟨g, cap, cur, h1, _⟩
     ·exact ⟨none, 0, by rw [h1, h2]⟩
     ·exact ⟨_, _, h1⟩
    have f0 : wr.cell? ⟨ob, 0, none⟩ = some (.slice xa i xc) := by simp [World.cell?, ho]
    have f1 : wr.cell? ⟨ob, 1, none⟩ = some (.slice oa ol oc) := by simp [World.cell?, ho]
    have f2 : wr.cell? ⟨ob, 2, none⟩ = some (.slice sa sl sc) := by simp [World.cell?, ho]
    have f3 : wr.cell? ⟨ob, 3, none⟩ = some (.bool st) := by simp [World.cell?, ho]
    have hz := hA.z
    generalize hws : w.heap.size = t8 at hz
    have g0 : wr.cell? ⟨t8, 0, none⟩ = some (.slice none 0 0) := by simp [World.cell?, hz]
    have g1 : wr.cell? ⟨t8, 1, none⟩ = some (.slice none 0 0) := by simp [World.cell?, hz]
    have g2 : wr.cell? ⟨t8, 2, none⟩ = some (.slice none 0 0) := by simp [World.cell?, hz]
    have g3 : wr.cell? ⟨t8, 3, none⟩ = some (.bool false) := by simp [World.cell?, hz]
    have z : ∀ k, wr.frozen? ⟨t8, k, none⟩ = false := fun k => by simp [World.frozen?, hz]
    have z0 := z 0
    have z1 := z 1
    have z2 := z 2
    have z3 := z 3
    have H2 : Aside (wr.heap[t8]? = some (.cells #[.slice none 0 0, .slice none 0 0, .slice none 0 0, .bool false] 31 (0, 0)) ∧ w.heap.size = t8) := ⟨hz, hws⟩
    clear z hz hA ho hrow hws
    go_wp2
    have hb : ((((wr.setCell ⟨t8, 0, none⟩ (.slice xa i xc)).setCell ⟨t8, 1, none⟩ (.slice oa ol oc)).setCell ⟨t8, 2, none⟩ (.slice sa sl sc)).setCell ⟨t8, 3, none⟩ (.bool st)).heap[t8]? = some (.cells #[.slice xa i xc, .slice oa ol oc, .slice sa sl sc, .bool st] 31 (0, 0)) := by
     rw [heap_set_eq (heap_set_eq (heap_set_eq (heap_set_eq H2.out.1)))]; rfl
    have hne : ∀ r, r ≠ t8 → ((((wr.setCell ⟨t8, 0, none⟩ (.slice xa i xc)).setCell ⟨t8, 1, none⟩ (.slice oa ol oc)).setCell ⟨t8, 2, none⟩ (.slice sa sl sc)).setCell ⟨t8, 3, none⟩ (.bool st)).heap[r]? = wr.heap[r]? := fun r hr => by
     rw [heap_setCell_ne _ _ _ hr, heap_setCell_ne _ _ _ hr, heap_setCell_ne _ _ _ hr, heap_setCell_ne _ _ _ hr]
    have hO : TrOut w i (fun j => .slice (va j) (vl j) (vc j)) xa xc ((((wr.setCell ⟨t8, 0, none⟩ (.slice xa i xc)).setCell ⟨t8, 1, none⟩ (.slice oa ol oc)).setCell ⟨t8, 2, none⟩ (.slice sa sl sc)).setCell ⟨t8, 3, none⟩ (.bool st)) := by
     refine ⟨ownsRow_same2 R.out.row fun b hb' _ => hne b fun e => ?_, fun r hr => (hne r (by have := H2.out.2; omega)).trans (R.out.old r hr), by have := R.out.size; simp; omega, R.out.new⟩
     subst e
     exact own_type R.out.row H2.out.1 (by decide) hb'.symm
    clear hne f0 f1 f2 f3 g0 g1 g2 g3 z0 z1 z2 z3
    generalize (((wr.setCell ⟨t8, 0, none⟩ (.slice xa i xc)).setCell ⟨t8, 1, none⟩ (.slice oa ol oc)).setCell ⟨t8, 2, none⟩ (.slice sa sl sc)).setCell ⟨t8, 3, none⟩ (.bool st) = W3 at hb hO ⊢
    have q0 : W3.cell? ⟨t8, 0, none⟩ = some (.slice xa i xc) := by simp [World.cell?, hb]
    have q1 : W3.cell? ⟨t8, 1, none⟩ = some (.slice oa ol oc) := by simp [World.cell?, hb]
    have q2 : W3.cell? ⟨t8, 2, none⟩ = some (.slice sa sl sc) := by simp [World.cell?, hb]
    have q3 : W3.cell? ⟨t8, 3, none⟩ = some (.bool st) := by simp [World.cell?, hb]
    exact bodyPost_ret (v := .agg #[.slice xa i xc, .slice oa ol oc, .slice sa sl sc, .bool st]) (by simp [results, Try.f72, go_sem, q0, q1, q2, q3]) rfl ⟨xa, xc, rfl, hO⟩)
end
noncomputable section
variable {w w' : World}
def RefOut6 (w : World) (ops : Nat → List Op4) (n M : Nat) (S : List Int) (s0 : GS KPl) (v : Value) (w' : World) : Prop :=
 ∃ (s : GS KPl) (order : List Nat) (xa oa' sa' : Option Addr) (xc oc' sc' : Nat) (va : Nat → Option Addr) (vc : Nat → Nat),
   v = .agg #[.slice xa n xc, .slice oa' order.length oc', .slice sa' (KSt.state s.q).length sc', .bool (decide (0 < cnt s.live n))] ∧ (∃ k, ∀ f, k ≤ f → gOver ops n M S f s0 = (s, order)) ∧
   RRow w' oa' (order.map fun i : Nat => .int .i64 i) ∧ RRow w' sa' ((KSt.state s.q).map fun v => .int .i64 v) ∧ RRow w' xa ((List.range n).map fun i => .slice (va i) (s.th i).ans.length (vc i)) ∧ (∀ i, i < n → RRow w' (va i) (ansC (s.th i).ans)) ∧ (∀ r, r < w.heap.size → w'.heap[r]? = w.heap[r]?) ∧ w.heap.size ≤ w'.heap.size
theorem Addr.add_at (b o j : Nat) : (⟨b, o, none⟩ : Addr).add j = ⟨b, o + j, none⟩ := by
 unfold Addr.add
 split
 ·subst_vars; rfl
 ·rfl
theorem newturn_calls {S : List Int} {sa : Option Addr} {sc M : Nat} {mo : Int} (hM : min (max mo 0) 1048576 = (M : Int)) (hl : S.length < 10000000) (hS : 0 < S.length → ∃ sb so, sa = some ⟨sb, so, none⟩ ∧ ∀ (j : Nat) (u : Value), (S.map fun i : Int => Value.int .i64 i)[j]? = some u → w.cell? ⟨sb, so + j, none⟩ = some u) :
 Calls Try.prog 69 #[.slice sa S.length sc, .int .i64 mo] w fun x w' => NTOut w S M x w' := by
 rcases Nat.eq_zero_or_pos S.length with h0 | h0
 ·have : S = [] := List.eq_nil_of_length_eq_zero h0
  subst this
  exact newturn_nil hM
 ·obtain ⟨sb, so, rfl, h⟩ := hS h0
  exact newturn_some hM hl h0 fun j u hu => by rw [Addr.add_at]; exact h j u hu
def rp6Body : Code := Try.f35.body.getD .skip
theorem rp6_body : Try.f35.body = some rp6Body := by
 have h : ∃ c, Try.f35.body = some c := ⟨_, rfl⟩
 obtain ⟨c, h⟩ := h
 rw [rp6Body, h]
 rfl
def rp6T (s : Nat → Value) : Array Value := #[s 0, s 1, s 2, s 3, s 4, s 5, s 6, s 7, s 8, s 9, s 10, s 11, s 12, s 13, s 14, s 15, s 16, s 17, s 18, s 19, s 20, s 21, s 22, s 23, s 24, s 25, s 26, s 27, s 28, s 29, s 30, s 31, s 32, s 33, s 34, s 35, s 36, s 37, s 38, s 39, s 40, s 41, s 42, s 43, s 44, s 45, s 46, s 47, s 48, s 49, s 50, s 51, s 52, s 53, s 54, s 55, s 56, s 57, s 58, s 59, s 60, s 61, s 62, s 63, s 64, s 65, s 66, s 67, s 68, s 69, s 70, s 71, s 72, s 73, s 74, s 75, s 76, s 77, s 78, s 79, s 80, s 81, s 82, s 83, s 84, s 85, s 86, s 87, s 88, s 89, s 90, s 91, s 92, s 93, s 94, s 95]
theorem rp6T_of {A : Array Value} (h : A.size = 96) : ∃ s, A = rp6T s := by
 obtain ⟨s, hs, _⟩ := arr_lit A h
 exact ⟨s, hs⟩
theorem slots5 {n m : Nat} {a b c d e : Value} (h : 5 + m = n) : Slots n (#[a, b, c, d, e] ++ Array.replicate m undef) [(0, a), (1, b), (2, c), (3, d), (4, e)] := by
 refine ⟨by simp; omega, ?_, ?_, ?_, ?_, ?_, trivial⟩
 ·simp [Array.getD_eq_getD_getElem?, Array.getElem?_append]
 ·simp [Array.getD_eq_getD_getElem?, Array.getElem?_append]
 ·simp [Array.getD_eq_getD_getElem?, Array.getElem?_append]
 ·simp [Array.getD_eq_getD_getElem?, Array.getElem?_append]
 ·simp [Array.getD_eq_getD_getElem?, Array.getElem?_append]
theorem MAt.thrs {B : MK} {s : KSt} {v : Value} (h : MAt w B s) (hw : w'.heap = (w.setCell ⟨B.mb, 7, none⟩ v).heap) : MAt w' { B with thr := v } s := by
 obtain ⟨k1, k2⟩ := h.mn
 refine ⟨?_, ?_, ?_, h.ne⟩
 ·rw [hw, heap_set_eq h.o]; rfl
 ·rw [hw, heap_setCell_ne _ _ _ k1]; exact h.n
 ·rw [hw, heap_setCell_ne _ _ _ k2]; exact h.v
theorem born_start {W w1 w2 : World} {n m : Nat} {ops : Nat → List Op4} {opv : Nat → Value} {B : MK} {tbs : Nat → Nat} {la : Option Addr} {lc : Nat} {tg : Bool} (hN : NewK W w1 B (knew (m + 1) tg)) (hm : m + 1 ≤ 65536) (hT : ThrNew w1 w2 n ops la lc tbs opv) (hol : ∀ j, j < n → (ops j).length ≤ 65536)
 {u : World} (hu : u.heap = (w2.setCell ⟨B.mb, 7, none⟩ (.slice la n lc)).heap) :
 PBorn W ops opv (m + 1) n { B with thr := .slice la n lc } tbs la lc (ks0 (m + 1) tg) 0 (knew (m + 1) tg) (fun _ => t00) (fun _ => .slice none 0 0) (fun _ => false) u := by
 have hB := hN.m.same (hT.old _ hN.m.mlt) (hT.old _ hN.m.nlt) (hT.old _ hN.m.vlt)
 have hs1 := hN.size
 have hs2 := hT.size
 have hty : ∀ (r : Nat) (c : Array Value) (e : TypeId) (z : Nat × Nat), w2.heap[r]? = some (.cells c e z) → e ≠ 121 → u.heap[r]? = w2.heap[r]? := fun r c e z hr he => by
  rw [hu]; exact heap_setCell_ne _ _ _ (show r ≠ B.mb from heap_ty hr hB.o he)
 have hnm := hN.nm
 refine ⟨⟨by rw [hu, World.size_setCell]; omega, fun r hr => ?_, hB.thrs hu, fun j hj => ?_, fun j hj => ?_, hT.dt, fun a b g _ _ _ h => (by cases h), hN.nm, hN.nn, hN.nv, fun j hj => by have := hT.nt j hj; omega, fun j g _ h => (by cases h)⟩, ⟨rfl, knew_wf (by omega) hm tg, by simp [knew], fun j hj => by omega, fun j hj => by omega, fun j hj => by omega⟩, ?_, rfl, fun _ _ _ => rfl, hol, fun g hg => by have := hT.nl g hg; omega⟩
 ·rw [hu, heap_setCell_ne _ _ _ (show r ≠ B.mb by omega), hT.old r (by omega)]
  exact hN.old r hr
 ·exact (hT.t j hj).same (hty _ _ _ _ (hT.t j hj).o (by decide)) fun r hr => (by cases hr)
 ·exact ownsRow_same2 (hT.o j hj) fun b hb _ => by
   obtain ⟨c, hc⟩ := own_row_ty (hT.o j hj) hb
   exact hty _ _ _ _ hc (by decide)
 ·exact ownsRow_same2 hT.l fun b hb _ => by
   obtain ⟨c, hc⟩ := own_row_ty hT.l hb
   exact hty _ _ _ _ hc (by decide)
theorem mid_start {W w1 w2 : World} {n m M : Nat} {S : List Int} {ops : Nat → List Op4} {opv : Nat → Value} {B : MK} {tbs : Nat → Nat} {la ta : Option Addr} {lc ub tc : Nat} {s0 : GS KPl} {s : KSt} {rt : Nat → RTh} {ovs : Nat → Value} {en : Nat → Bool} (h : PBorn W ops opv m n B tbs la lc s0 n s rt ovs en w1)
 (h1 : TurnMem w2 ub ta S.length tc M 0 0 (.slice none 0 0) []) (h2 : w2.ownsRow 0 3 1 (.slice ta S.length tc) S.length (S.map fun i : Int => Value.int .i64 i)) (h3 : w1.heap.size ≤ ub) (h4 : ∀ g, (Value.slice ta S.length tc).ownBlock = some g → w1.heap.size ≤ g) (h5 : ∀ r, r < w1.heap.size → w2.heap[r]? = w1.heap[r]?) (h6 : w1.heap.size ≤ w2.heap.size) :
 PMid W ops opv m n M S B tbs la lc ub ta tc (gBorns KPl ops n s0) [] 0 0 s rt ovs en (.slice none 0 0) w2 := by
 have hs := h.r.size
 refine ⟨h.r.more h6 h5, h.g, ?_, h.th, by rw [Nat.zero_mod]; exact h1, h2, Nat.zero_le _, Nat.zero_le _, Nat.zero_le _, h.nl, by omega, fun g hg => by have := h4 g hg; omega, fun g hg => (by cases hg), fun g _ hg => (by cases hg)⟩
 exact ownsRow_same2 h.l fun b hb _ => by
  obtain ⟨c, hc⟩ := own_row_ty h.l hb
  exact h5 b (alt hc)
theorem end_out {W w1 w2 u : World} {n m M t10 : Nat} {S : List Int} {ops : Nat → List Op4} {opv : Nat → Value} {B : MK} {tbs : Nat → Nat} {la oa sa xa : Option Addr} {lc ub oc sc xc : Nat} {s0 g : GS KPl} {order : List Nat} {s : KSt} {rt : Nat → RTh} {ovs : Nat → Value} {en : Nat → Bool} (hW : ∀ r, r < w.heap.size → W.heap[r]? = w.heap[r]?) (ht10 : t10 = w.heap.size) (hWs : W.heap.size = w.heap.size + 1) (hz : W.heap[t10]? = some (.cells #[.slice none 0 0, .slice none 0 0, .slice none 0 0, .bool false] 31 (0, 0)))
 (h : PEnd W ops opv m n M B tbs la lc ub g order s rt ovs en (.slice oa order.length oc) w1) (hS : ValsAt w1 w2 (.slice sa (KSt.state s).length sc) (KSt.state s)) (hT : TrOut w2 n ovs xa xc u) (hO : ∃ k, ∀ f, k ≤ f → gOver ops n M S f s0 = (g, order))
 (hw : w'.heap = (((((u.setCell ⟨t10, 0, none⟩ (.slice xa n xc)).setCell ⟨t10, 1, none⟩ (.slice oa order.length oc)).setCell ⟨t10, 2, none⟩ (.slice sa (KSt.state s).length sc)).setCell ⟨t10, 3, none⟩ (.bool (decide (0 < cnt g.live n))))).heap) :
 RefOut6 w ops n M S s0 (.agg #[.slice xa n xc, .slice oa order.length oc, .slice sa (KSt.state s).length sc, .bool (decide (0 < cnt g.live n))]) w' ∧ w'.heap[t10]? = some (.cells #[.slice xa n xc, .slice oa order.length oc, .slice sa (KSt.state s).length sc, .bool (decide (0 < cnt g.live n))] 31 (0, 0)) := by
 subst ht10
 have hq : g.q = s := h.gr.q
 have hs1 := h.r.size
 have hs2 := hS.size
 have hs3 := hT.size
 have z1 : w1.heap[w.heap.size]? = _ := (h.r.old _ (by omega)).trans hz
 have zl := (alt z1)
 have z2 : w2.heap[w.heap.size]? = _ := (hS.old _ zl).trans z1
 have z3 : u.heap[w.heap.size]? = _ := (hT.old _ (by omega)).trans z2
 have hne : ∀ r, r ≠ w.heap.size → w'.heap[r]? = u.heap[r]? := fun r hr => by
  rw [hw, heap_setCell_ne _ _ _ hr, heap_setCell_ne _ _ _ hr, heap_setCell_ne _ _ _ hr, heap_setCell_ne _ _ _ hr]
 have k1 : ∀ (r : Nat) (c : Array Value) (e : TypeId) (z : Nat × Nat), w1.heap[r]? = some (.cells c e z) → e ≠ 31 → w'.heap[r]? = w1.heap[r]? := fun r c e z hr he => by
  have hl := (alt hr)
  rw [hne r (heap_ty hr z1 he), hT.old r (by omega), hS.old r hl]
 have k2 : ∀ (r : Nat) (c : Array Value) (e : TypeId) (z : Nat × Nat), w2.heap[r]? = some (.cells c e z) → e ≠ 31 → w'.heap[r]? = w2.heap[r]? := fun r c e z hr he => by
  have hl := (alt hr)
  rw [hne r (heap_ty hr z2 he), hT.old r hl]
 have hrow : ∀ j, j < n → ∃ a c, ovs j = .slice a (g.th j).ans.length c := fun j hj => by
  obtain ⟨a, c, e⟩ := slice_row (h.r.t j hj).row
  exact ⟨a, c, by rw [e, (h.gr.t j hj).ans]; rfl⟩
 have hex : ∀ j, ∃ p : Option Addr × Nat, j < n → ovs j = .slice p.1 (g.th j).ans.length p.2 := fun j => by
  by_cases hj : j < n
  ·obtain ⟨a, c, e⟩ := hrow j hj
   exact ⟨(a, c), fun _ => e⟩
  ·exact ⟨(none, 0), fun h => absurd h hj⟩
 obtain ⟨f, hf⟩ := Classical.axiomOfChoice hex
 refine ⟨⟨g, order, xa, oa, sa, xc, oc, sc, fun j => (f j).1, fun j => (f j).2, by rw [hq], hO, ?_, ?_, ?_, fun j hj => ?_, fun r hr => ?_, ?_⟩, ?_⟩
 ·exact rrow_of (ownsRow_same2 h.o fun b hb _ => by
   obtain ⟨c, hc⟩ := own_row_ty h.o hb
   exact k1 _ _ _ _ hc (by decide))
 ·rw [hq]
  exact rrow_of (ownsRow_same2 hS.row fun b hb _ => by
   obtain ⟨c, hc⟩ := own_row_ty hS.row hb
   exact k2 _ _ _ _ hc (by decide))
 ·have e : (List.range n).map ovs = (List.range n).map fun i => Value.slice (f i).1 (g.th i).ans.length (f i).2 := List.map_congr_left fun j hj => hf j (List.mem_range.1 hj)
  rw [← e]
  exact rrow_of (ownsRow_same2 hT.row fun b hb _ => by
   obtain ⟨c, hc⟩ := own_row_ty hT.row hb
   exact hne b (heap_ty hc z3 (by decide)))
 ·have ht := (h.r.t j hj).row
  have e := (h.gr.t j hj).ans
  rw [hf j hj, e] at ht
  exact rrow_of (ownsRow_same2 ht fun b hb _ => by
   obtain ⟨c, hc⟩ := own_row_ty ht hb
   exact k1 _ _ _ _ hc (by decide))
 ·rw [hne r (by omega), hT.old r (by omega), hS.old r (by omega), h.r.old r (by omega)]
  exact hW r hr
 ·rw [hw]; simp; omega
 ·rw [hw, heap_set_eq (heap_set_eq (heap_set_eq (heap_set_eq z3)))]; rfl
end
section
variable {w w' : World}
theorem four_at {w3 u : World} {k1 k2 k3 k4 : Int} (hu : u.heap = (w3.alloc (.cells #[.int .i64 k1, .int .i64 k2, .int .i64 k3, .int .i64 k4] 2)).heap) : ValsAt w3 u (.slice (some ⟨w3.heap.size, 0, none⟩) 4 4) [k1, k2, k3, k4] := by
 refine ⟨⟨rfl, .inr ⟨w3.heap.size, 4, _, rfl, Nat.zero_le _, by rw [hu]; exact heap_alloc_new _ _, by simp, by unfold maxLen; omega, by simp, by simp⟩⟩, by rw [hu]; simp, fun r hr => by rw [hu]; exact heap_alloc_lt _ _ hr, fun g hg => ?_⟩
 simp only [Value.ownBlock, Option.some.injEq] at hg
 omega
theorem vals_some {u w4 : World} {ov : Value} {xs : List Int} (h : ValsAt u w4 ov xs) (hx : xs ≠ []) : ∃ g cap, ov = .slice (some ⟨g, 0, none⟩) xs.length cap := by
 have := List.length_pos_iff.2 hx
 rcases h.row.2 with ⟨_, h⟩ | ⟨g, cap, _, rfl, _⟩
 ·omega
 ·exact ⟨g, cap, rfl⟩
theorem some_slice {v : Value} {n size : Nat} {e : TypeId} {xs : List Value} (h : w.ownsRow 0 e size v n xs) (hn : 0 < n) : ∃ g cap, v = .slice (some ⟨g, 0, none⟩) n cap := by
 rcases h.2 with ⟨_, h⟩ | ⟨g, cap, _, h, _⟩
 ·omega
 ·exact ⟨g, cap, h⟩
section
variable {W w3 w5 : World} {n m M t10 : Nat} {ops : Nat → List Op4} {opv : Nat → Value} {B : MK} {tbs : Nat → Nat} {la oa sa : Option Addr} {lc ub oc sl sc : Nat} {g : GS KPl} {order : List Nat} {s : KSt} {rt : Nat → RTh} {ovs : Nat → Value} {en : Nat → Bool} {xs : List Int}
theorem mach_end (E : PEnd W ops opv m n M B tbs la lc ub g order s rt ovs en (.slice oa order.length oc) w3) (Z : ValsAt w3 w5 (.slice sa sl sc) xs) : w5.cell? ⟨B.mb, 7, none⟩ = some (.slice la n lc) := by
 have := E.r.m.fx.m7
 rw [E.th] at this
 exact (cell_heap (Z.old _ E.r.m.mlt)).1.trans this
theorem trace_end (hn : n ≤ 64) (E : PEnd W ops opv m n M B tbs la lc ub g order s rt ovs en (.slice oa order.length oc) w3) (Z : ValsAt w3 w5 (.slice sa sl sc) xs) :
 Calls Try.prog 72 #[.pointer (some ⟨ub, 0, none⟩), .slice la n lc, .slice sa sl sc] w5 fun x w' => ∃ xa xc, x = .returned (.agg #[.slice xa n xc, .slice oa order.length oc, .slice sa sl sc, .bool (decide (0 < cnt g.live n))]) ∧ TrOut w5 n ovs xa xc w' := by
 obtain ⟨a, b, c, d, e, hu⟩ := E.u
 have hex : ∀ j, ∃ p : Option Addr × Nat × Nat, j < n → ovs j = .slice p.1 p.2.1 p.2.2 := fun j => by
  by_cases hj : j < n
  ·obtain ⟨a, c, e⟩ := slice_row (E.r.t j hj).row
   exact ⟨(a, _, c), fun _ => e⟩
  ·exact ⟨(none, 0, 0), fun h => absurd h hj⟩
 obtain ⟨f, hf⟩ := Classical.axiomOfChoice hex
 refine (trace_calls (va := fun j => (f j).1) (vl := fun j => (f j).2.1) (vc := fun j => (f j).2.2) (tbs := tbs) hn ((Z.old _ (alt hu)).trans hu) fun j hj => ?_).mono ?_
 ·obtain ⟨lb, cap, e1, h1⟩ := row_get (k := j) E.l (x := .pointer (some ⟨tbs j, 0, none⟩)) (by simp [hj])
  cases e1
  obtain ⟨cl, hcl⟩ := own_row_ty E.l rfl
  refine ⟨lb, rfl, (cell_heap (Z.old _ (alt hcl))).1.trans h1.c, ?_⟩
  rw [← hf j hj]
  exact (cell_heap (Z.old _ (E.r.t j hj).lt)).1.trans (E.r.t j hj).fx.c12
 ·rintro x w6 ⟨xa, xc, rfl, hT⟩
  refine ⟨xa, xc, rfl, ⟨?_, hT.old, hT.size, hT.new⟩⟩
  have e : (List.range n).map ovs = (List.range n).map fun i => Value.slice (f i).1 (f i).2.1 (f i).2.2 := List.map_congr_left fun j hj => hf j (List.mem_range.1 hj)
  rw [e]
  exact hT.row
theorem zero_end {w6 : World} {xa : Option Addr} {xc : Nat} (hz : W.heap[t10]? = some (.cells #[.slice none 0 0, .slice none 0 0, .slice none 0 0, .bool false] 31 (0, 0))) (ht : t10 < W.heap.size) (E : PEnd W ops opv m n M B tbs la lc ub g order s rt ovs en (.slice oa order.length oc) w3) (Z : ValsAt w3 w5 (.slice sa sl sc) xs) (T : TrOut w5 n ovs xa xc w6) :
 w6.heap[t10]? = some (.cells #[.slice none 0 0, .slice none 0 0, .slice none 0 0, .bool false] 31 (0, 0)) := by
 have h1 := E.r.size
 have h2 := Z.size
 rw [T.old _ (by omega), Z.old _ (by omega), E.r.old _ ht]
 exact hz
end
theorem play6_ref {size mo : Int} {tg : Bool} {m : Nat} (hm : min (max size 1) 65536 = ((m + 1 : Nat) : Int)) {N : Nat → Prop} {n tb o tl tc sc M : Nat} {ta sa : Option Addr} {oa : Nat → Option Addr} {ol oc : Nat → Nat} {ops : Nat → List Op4} {S : List Int} (hI : OpsIn w N n tb o tl ta oa ol oc ops S sa) (htl : tl < 1000000000000) (hol : ∀ j, j < n → ol j < 1000000000000) (hM : min (max mo 0) 1048576 = (M : Int)) (hSl : S.length < 10000000) :
 CallsB Try.prog Try.f35 #[.int .i64 size, .bool tg, .slice ta tl tc, .slice sa S.length sc, .int .i64 mo] w (RefOut6 w ops n M S (ks0 (m + 1) tg)) := by
 obtain ⟨i0, z00, hi, hz0, hz1, hz2, hz3⟩ := infoA2
 have hn64 : n ≤ 64 := by have := hI.hn; omega
 have hm2 : m + 1 ≤ 65536 := by omega
 have hopl : ∀ j, j < n → (ops j).length ≤ 65536 := fun j hj => by rw [hI.hlen j hj]; exact Nat.min_le_right _ _
 have HN : Aside (n ≤ 64 ∧ m + 1 ≤ 65536 ∧ M ≤ 1048576 ∧ S.length < 10000000 ∧ ∀ j, j < n → (ops j).length ≤ 65536) := ⟨hn64, hm2, by omega, hSl, hopl⟩
 have C66 : Aside (∀ u : World, Calls Try.prog 66 #[.int .i64 size, .bool tg] u fun x w' => ∃ B, x = .returned (.pointer (some ⟨B.mb, 0, none⟩)) ∧ NewK u w' B (knew (m + 1) tg)) := fun u => rnew_calls hm tg
 have C67 : Aside (∀ u : World, w.heap.size ≤ u.heap.size → (∀ r, r < w.heap.size → u.heap[r]? = w.heap[r]?) → Calls Try.prog 67 #[.slice ta tl tc] u fun x w' => ∃ la lc tbs opv, x = .returned (.slice la n lc) ∧ ThrNew u w' n ops la lc tbs opv) := fun u h1 h2 => threads_calls (hI.later (N' := fun _ => False) h1 h2 fun r h => h.elim) htl hol
 have C69 : Aside (∀ u : World, (∀ r, r < w.heap.size → u.heap[r]? = w.heap[r]?) → Calls Try.prog 69 #[.slice sa S.length sc, .int .i64 mo] u fun x w' => NTOut u S M x w') := fun u h2 => newturn_calls hM hSl fun hp => by
  obtain ⟨sb, so, c, e, z, h1, _, h3, h4⟩ := hI.hS hp
  refine ⟨sb, so, h1, fun j v hv => ?_⟩
  have := h2 sb (alt h3)
  simp only [World.cell?, this, h3]
  exact (h4 j v hv).1
 clear hm hI htl hol hM hSl hn64 hm2 hopl
 refine callsB_of rp6_body ?_
 have hA0 : Slots 96 (#[.int .i64 size, .bool tg, .slice ta tl tc, .slice sa S.length sc, .int .i64 mo] ++ Array.replicate 91 undef) [(0, .int .i64 size), (1, .bool tg), (2, .slice ta tl tc), (3, .slice sa S.length sc), (4, .int .i64 mo)] := slots5 rfl
 simp only [Try.ntmps35, List.size_toArray, List.length_cons, List.length_nil, Nat.reduceAdd, Nat.reduceSub]
 generalize #[Value.int .i64 size, .bool tg, .slice ta tl tc, .slice sa S.length sc, .int .i64 mo] ++ Array.replicate 91 undef = A0 at hA0 ⊢
 obtain ⟨hsz, h0, h1, h2, h3, h4, _⟩ := hA0
 obtain ⟨s, rfl⟩ := rp6T_of hsz
 change s 0 = _ at h0
 change s 1 = _ at h1
 change s 2 = _ at h2
 change s 3 = _ at h3
 change s 4 = _ at h4
 clear hsz
 have WF0 : Aside ((∀ r, r < w.heap.size → (w.alloc (.cells #[.slice none 0 0, .slice none 0 0, .slice none 0 0, .bool false] 31)).heap[r]? = w.heap[r]?) ∧ True ∧ (w.alloc (.cells #[.slice none 0 0, .slice none 0 0, .slice none 0 0, .bool false] 31)).heap.size = w.heap.size + 1 ∧ (w.alloc (.cells #[.slice none 0 0, .slice none 0 0, .slice none 0 0, .bool false] 31)).heap[w.heap.size]? = some (.cells #[.slice none 0 0, .slice none 0 0, .slice none 0 0, .bool false] 31 (0, 0))) := ⟨fun r hr => heap_alloc_lt _ _ hr, trivial, by simp, heap_alloc_new _ _⟩
 simp only [rp6Body, Try.f35, Option.getD_some, rp6T, h0, h1, h2, h3, h4]
 clear h0 h1 h2 h3 h4
 go_wp2_with (first
  | (go_at_call 66; generalize w.alloc (.cells #[.slice none 0 0, .slice none 0 0, .slice none 0 0, .bool false] 31) = W at WF0 ⊢; have WF := WF0; clear WF0; refine Calls.mono (C66.out _) ?_; rintro e w1 ⟨B, rfl, hN⟩; have N1 : Aside (NewK W w1 B (knew (m + 1) tg)) := hN; clear hN)
  | (go_at_call 67; refine Calls.mono (C67.out _ (by have := N1.out.size; have := WF.out.2.2.1; omega) (fun r hr => by have := WF.out.2.2.1; exact (N1.out.old r (by omega)).trans (WF.out.1 r hr))) ?_; rintro e w2 ⟨la, lc, tbs, opv, rfl, hT⟩; have T1 : Aside (ThrNew w1 w2 n ops la lc tbs opv) := hT; have hM2 := N1.out.m.same (hT.old _ N1.out.m.mlt) (hT.old _ N1.out.m.nlt) (hT.old _ N1.out.m.vlt); have m7 := hM2.fx.m7; have y7 := hM2.fx.z 7; clear hT hM2))
 obtain ⟨B2, hB2⟩ : ∃ B2 : MK, B2 = { B with thr := .slice la n lc } := ⟨_, rfl⟩
 have hmb : B2.mb = B.mb := by rw [hB2]
 have P0 : Aside (∃ u, u = w2.setCell ⟨B.mb, 7, none⟩ (.slice la n lc) ∧ PBorn W ops opv (m + 1) n B2 tbs la lc (ks0 (m + 1) tg) 0 (knew (m + 1) tg) (fun _ => t00) (fun _ => .slice none 0 0) (fun _ => false) u) := ⟨_, rfl, by rw [hB2]; exact born_start N1.out HN.out.2.1 T1.out HN.out.2.2.2.2 rfl⟩
 rw [← hmb] at P0 ⊢
 clear m7 y7 hB2 hmb
 go_loopg [12] n (fun g x wr => ∃ (i : Nat) (s' : KSt) (rt : Nat → RTh) (ovs : Nat → Value) (en : Nat → Bool), x = .int .i64 i ∧ i ≤ n ∧ g = n - i ∧ PBorn W ops opv (m + 1) n B2 tbs la lc (ks0 (m + 1) tg) i s' rt ovs en wr)
 case atStart =>
  obtain ⟨u, rfl, h⟩ := P0.out
  exact ⟨0, _, _, _, _, rfl, Nat.zero_le _, rfl, h⟩
 case round =>
  obtain ⟨i, s1, rt, ovs, en, rfl, hin, rfl, hP⟩ := hrel
  have P : Aside (PBorn W ops opv (m + 1) n B2 tbs la lc (ks0 (m + 1) tg) i s1 rt ovs en wr) := hP
  clear P0
  have m7 := hP.r.m.fx.m7
  rw [hP.th] at m7
  rcases Nat.lt_or_ge i n with hlt | hge
  ·have hlt2 : (i : Int) < (n : Int) := by omega
   have hwr : IntKind.i64.wrap ((i : Int) + 1) = ((i + 1 : Nat) : Int) := IntWalk.i64_in _ (by have := HN.out.1; omega)
   obtain ⟨lb, cap, e1, h1⟩ := row_get (k := i) hP.l (x := .pointer (some ⟨tbs i, 0, none⟩)) (by simp [hlt])
   simp only [Value.slice.injEq, true_and] at e1
   obtain ⟨rfl, rfl⟩ := e1
   have f1 := h1.c
   have C68 := born_go P.out hlt rfl
   have C68 : Aside (Calls Try.prog 68 #[.pointer (some ⟨B2.mb, 0, none⟩), .pointer (some ⟨tbs i, 0, none⟩)] wr fun x w' => x = .returned (.tuple #[]) ∧ ∃ s' rt' ovs' en', PBorn W ops opv (m + 1) n B2 tbs (some ⟨lb, 0, none⟩) lc (ks0 (m + 1) tg) (i + 1) s' rt' ovs' en' w') := C68
   clear hP h1
   go_wp2_with (go_at_call 68; refine Calls.mono C68.out ?_; rintro e w3 ⟨rfl, s3, rt3, ovs3, en3, hP⟩; have P3 : Aside (PBorn W ops opv (m + 1) n B2 tbs (some ⟨lb, 0, none⟩) lc (ks0 (m + 1) tg) (i + 1) s3 rt3 ovs3 en3 w3) := hP; clear hP)
   go_roundg (n - (i + 1))
   case measure => omega
   case rel => exact ⟨i + 1, s3, rt3, ovs3, en3, rfl, hlt, rfl, P3.out⟩
  ·obtain rfl : n = i := by omega
   have hge2 : ¬ (n : Int) < (n : Int) := by omega
   clear hP
   go_wp2_with (go_at_call 69; refine Calls.mono (C69.out _ (fun r hr => by have := WF.out.2.2.1; exact (P.out.r.old r (by omega)).trans (WF.out.1 r hr))) ?_; rintro e w3 ⟨ub, ta2, tc2, rfl, t1, t2, t3, t4, t5, t6⟩; have Q0 : Aside (PMid W ops opv (m + 1) n M S B2 tbs la lc ub ta2 tc2 (gBorns KPl ops n (ks0 (m + 1) tg)) [] 0 0 s1 rt ovs en (.slice none 0 0) w3) := mid_start P.out t1 t2 t3 t4 t5 t6; clear t1 t2 t3 t4 t5 t6)
   clear m7
   go_loopg [] M (fun g wr => ∃ (gs : GS KPl) (order : List Nat) (p rd : Nat) (s3 : KSt) (rt3 : Nat → RTh) (ovs3 : Nat → Value) (en3 : Nat → Bool) (ov : Value), PMid W ops opv (m + 1) n M S B2 tbs la lc ub ta2 tc2 gs order p rd s3 rt3 ovs3 en3 ov wr ∧ RefI ops n M S (ks0 (m + 1) tg) gs order p rd ∧ g = M - order.length)
   case atStart => exact ⟨_, _, _, _, _, _, _, _, _, Q0.out, refI_start _, rfl⟩
   case round =>
    obtain ⟨gs, order, p, rd, s3, rt3, ovs3, en3, ov, hMd, hRI, rfl⟩ := hrel
    have MM : Aside (PMid W ops opv (m + 1) n M S B2 tbs la lc ub ta2 tc2 gs order p rd s3 rt3 ovs3 en3 ov wr) := hMd
    have II : Aside (RefI ops n M S (ks0 (m + 1) tg) gs order p rd) := hRI
    have m7 := hMd.r.m.fx.m7
    rw [hMd.th] at m7
    clear hMd hRI
    by_cases hd : cnt gs.live n = 0 ∨ order.length = M
    ·have hdn : Aside (cnt gs.live n = 0 ∨ order.length = M) := hd
     clear hd
     obtain ⟨oo, ooc, ho⟩ := slice_row MM.out.t.row
     subst ho
     go_wp2_with (go_at_call 70; refine Calls.mono (pick_end MM.out HN.out.1 hdn.out) ?_; rintro e w3 ⟨rfl, hE⟩; have E : Aside (PEnd W ops opv (m + 1) n M B2 tbs la lc ub gs order s3 rt3 ovs3 en3 (.slice oo order.length ooc) w3) := hE; have m2 := hE.r.m.fx.m2; have m3 := hE.r.m.fx.m3; have m4 := hE.r.m.fx.m4; have m5 := hE.r.m.fx.m5; clear hE m7)
     have VL : Aside (s3.vals.length ≤ 65536) := Nat.le_trans (walk_len _ _ _) E.out.gr.w.n3
     obtain ⟨k1, hk1⟩ : ∃ k1, s3.hd.1 = k1 := ⟨_, rfl⟩
     obtain ⟨k2, hk2⟩ : ∃ k2, s3.hd.2 = k2 := ⟨_, rfl⟩
     obtain ⟨k3, hk3⟩ : ∃ k3, s3.fr.1 = k3 := ⟨_, rfl⟩
     obtain ⟨k4, hk4⟩ : ∃ k4, s3.fr.2 = k4 := ⟨_, rfl⟩
     have ST : Aside (KSt.state s3 = [k1, k2, k3, k4] ++ s3.vals) := by rw [← hk1, ← hk2, ← hk3, ← hk4]; rfl
     rw [hk1] at m2
     rw [hk2] at m3
     rw [hk3] at m4
     rw [hk4] at m5
     clear hk1 hk2 hk3 hk4
     go_region
     all_goals (
      by_cases hnn : s3.vals = []
      ·have NV : Aside (s3.vals = []) := hnn
       have ST2 : Aside ((KSt.state s3).length = 4) := by rw [ST.out, NV.out]; rfl
       clear hnn
       go_wp2_with (first
        | (go_at_call 71; refine Calls.mono (rvalues_calls (by exact E.out.r.m.same (heap_alloc_lt _ _ E.out.r.m.mlt) (heap_alloc_lt _ _ E.out.r.m.nlt) (heap_alloc_lt _ _ E.out.r.m.vlt)) E.out.gr.w) ?_; rintro e w4 ⟨ov4, rfl, hV, hV2⟩; obtain rfl := hV2 NV.out; have R1 : Aside (ValsAt w3 w4 (.slice (some ⟨w3.heap.size, 0, none⟩) 4 4) [k1, k2, k3, k4]) := (four_at (by rfl)).later hV; clear hV hV2)
        | (at_builtin; refine wpList_append_own_none rfl _ _ _ rfl 0 2 i0 1 Try.underlying22 hi (.slice (some ⟨w3.heap.size, 0, none⟩) 4 4) 4 _ rfl R1.out.row rfl ?_; have Z : Aside (ValsAt w3 w4 (.slice (some ⟨w3.heap.size, 0, none⟩) 4 4) (KSt.state s3)) := (by rw [ST.out, NV.out]; exact R1.out); have m7 := mach_end E.out Z.out)
        | (go_at_call 72; refine Calls.mono (trace_end HN.out.1 E.out Z.out) ?_; rintro e w6 ⟨xa, xc, rfl, hT⟩; have TR : Aside (TrOut w4 n ovs3 xa xc w6) := hT; have hz6 := zero_end WF.out.2.2.2 (by rw [WF.out.2.2.1]; omega) E.out Z.out hT; have ZZ : Aside (w6.heap[w.heap.size]? = some (.cells #[.slice none 0 0, .slice none 0 0, .slice none 0 0, .bool false] 31 (0, 0))) := hz6; have z0 : w6.cell? ⟨w.heap.size, 0, none⟩ = some (.slice none 0 0) := (by simp [World.cell?, hz6]); have z1 : w6.cell? ⟨w.heap.size, 1, none⟩ = some (.slice none 0 0) := (by simp [World.cell?, hz6]); have z2 : w6.cell? ⟨w.heap.size, 2, none⟩ = some (.slice none 0 0) := (by simp [World.cell?, hz6]); have z3 : w6.cell? ⟨w.heap.size, 3, none⟩ = some (.bool false) := (by simp [World.cell?, hz6]); have y0 : w6.frozen? ⟨w.heap.size, 0, none⟩ = false := (by simp [World.frozen?, hz6]); have y1 : w6.frozen? ⟨w.heap.size, 1, none⟩ = false := (by simp [World.frozen?, hz6]); have y2 : w6.frozen? ⟨w.heap.size, 2, none⟩ = false := (by simp [World.frozen?, hz6]); have y3 : w6.frozen? ⟨w.heap.size, 3, none⟩ = false := (by simp [World.frozen?, hz6]); clear hT hz6))
       obtain ⟨hR, hC⟩ := end_out (S := S) (s0 := ks0 (m + 1) tg) (sa := (some ⟨w3.heap.size, 0, none⟩)) (sc := 4) WF.out.1 rfl WF.out.2.2.1 WF.out.2.2.2 E.out (by first | exact Z.out | (rw [ST2.out]; exact Z.out)) TR.out (refI_end II.out hdn.out) (w' := (((w6.setCell ⟨w.heap.size, 0, none⟩ (.slice xa n xc)).setCell ⟨w.heap.size, 1, none⟩ (.slice oo order.length ooc)).setCell ⟨w.heap.size, 2, none⟩ (.slice (some ⟨w3.heap.size, 0, none⟩) 4 4)).setCell ⟨w.heap.size, 3, none⟩ (.bool (decide (0 < cnt gs.live n)))) (by first | rfl | (rw [ST2.out]))
       simp only [ST2.out] at hR hC
       clear z0 z1 z2 z3 y0 y1 y2 y3
       generalize (((w6.setCell ⟨w.heap.size, 0, none⟩ (.slice xa n xc)).setCell ⟨w.heap.size, 1, none⟩ (.slice oo order.length ooc)).setCell ⟨w.heap.size, 2, none⟩ (.slice (some ⟨w3.heap.size, 0, none⟩) 4 4)).setCell ⟨w.heap.size, 3, none⟩ (.bool (decide (0 < cnt gs.live n))) = W9 at hR hC ⊢
       have q0 : W9.cell? ⟨w.heap.size, 0, none⟩ = some (.slice xa n xc) := by simp [World.cell?, hC]
       have q1 : W9.cell? ⟨w.heap.size, 1, none⟩ = some (.slice oo order.length ooc) := by simp [World.cell?, hC]
       have q2 : W9.cell? ⟨w.heap.size, 2, none⟩ = some (.slice (some ⟨w3.heap.size, 0, none⟩) 4 4) := by simp [World.cell?, hC]
       have q3 : W9.cell? ⟨w.heap.size, 3, none⟩ = some (.bool (decide (0 < cnt gs.live n))) := by simp [World.cell?, hC]
       exact bodyPost_ret (v := .agg #[.slice xa n xc, .slice oo order.length ooc, .slice (some ⟨w3.heap.size, 0, none⟩) 4 4, .bool (decide (0 < cnt gs.live n))]) (by simp [results, Try.f35, go_sem, q0, q1, q2, q3]) rfl ⟨_, rfl, hR⟩
      ·have NV : Aside (s3.vals ≠ []) := hnn
       have ST2 : Aside ((KSt.state s3).length = 4 + s3.vals.length) := by rw [ST.out, List.length_append]; rfl
       clear hnn
       go_wp2_with (first
        | (go_at_call 71; refine Calls.mono (rvalues_calls (by exact E.out.r.m.same (heap_alloc_lt _ _ E.out.r.m.mlt) (heap_alloc_lt _ _ E.out.r.m.nlt) (heap_alloc_lt _ _ E.out.r.m.vlt)) E.out.gr.w) ?_; rintro e w4 ⟨ov4, rfl, hV, hV2⟩; obtain ⟨g4, cap4, rfl⟩ := vals_some hV NV.out; have R1 : Aside (ValsAt w3 w4 (.slice (some ⟨w3.heap.size, 0, none⟩) 4 4) [k1, k2, k3, k4]) := (four_at (by rfl)).later hV; have D : Aside (w4.ownsRow 0 2 1 (.slice (some ⟨g4, 0, none⟩) s3.vals.length cap4) s3.vals.length (s3.vals.map fun v => .int .i64 v)) := hV.row; clear hV hV2)
        | (at_builtin; refine wpList_append_fresh rfl (.tmp 77) (.tmp 78) 22 rfl 2 i0 z00 1 8 Try.underlying22 hi hz0 hz1 hz2 hz3 (by decide) (.slice (some ⟨w3.heap.size, 0, none⟩) 4 4) 4 ([k1, k2, k3, k4].map fun v => .int .i64 v) rfl R1.out.row ⟨g4, 0, none⟩ s3.vals.length cap4 (s3.vals.map fun v => .int .i64 v) rfl (by simp) (row_cells D.out) (by intro u hu; obtain ⟨x, _, rfl⟩ := List.mem_map.1 hu; rfl) (by have := VL.out; unfold maxLen; omega) (by have := VL.out; omega) ?_; intro v5 w5 hown hgrow hfr; obtain ⟨g5, cap5, rfl⟩ := some_slice hown (by omega); have Z : Aside (ValsAt w3 w5 (.slice (some ⟨g5, 0, none⟩) (4 + s3.vals.length) cap5) (KSt.state s3)) := (by rw [ST.out]; exact R1.out.more hown hgrow hfr); have m7 := mach_end E.out Z.out; clear hown hgrow hfr)
        | (go_at_call 72; refine Calls.mono (trace_end HN.out.1 E.out Z.out) ?_; rintro e w6 ⟨xa, xc, rfl, hT⟩; have TR : Aside (TrOut w5 n ovs3 xa xc w6) := hT; have hz6 := zero_end WF.out.2.2.2 (by rw [WF.out.2.2.1]; omega) E.out Z.out hT; have ZZ : Aside (w6.heap[w.heap.size]? = some (.cells #[.slice none 0 0, .slice none 0 0, .slice none 0 0, .bool false] 31 (0, 0))) := hz6; have z0 : w6.cell? ⟨w.heap.size, 0, none⟩ = some (.slice none 0 0) := (by simp [World.cell?, hz6]); have z1 : w6.cell? ⟨w.heap.size, 1, none⟩ = some (.slice none 0 0) := (by simp [World.cell?, hz6]); have z2 : w6.cell? ⟨w.heap.size, 2, none⟩ = some (.slice none 0 0) := (by simp [World.cell?, hz6]); have z3 : w6.cell? ⟨w.heap.size, 3, none⟩ = some (.bool false) := (by simp [World.cell?, hz6]); have y0 : w6.frozen? ⟨w.heap.size, 0, none⟩ = false := (by simp [World.frozen?, hz6]); have y1 : w6.frozen? ⟨w.heap.size, 1, none⟩ = false := (by simp [World.frozen?, hz6]); have y2 : w6.frozen? ⟨w.heap.size, 2, none⟩ = false := (by simp [World.frozen?, hz6]); have y3 : w6.frozen? ⟨w.heap.size, 3, none⟩ = false := (by simp [World.frozen?, hz6]); clear hT hz6))
       obtain ⟨hR, hC⟩ := end_out (S := S) (s0 := ks0 (m + 1) tg) (sa := (some ⟨g5, 0, none⟩)) (sc := cap5) WF.out.1 rfl WF.out.2.2.1 WF.out.2.2.2 E.out (by first | exact Z.out | (rw [ST2.out]; exact Z.out)) TR.out (refI_end II.out hdn.out) (w' := (((w6.setCell ⟨w.heap.size, 0, none⟩ (.slice xa n xc)).setCell ⟨w.heap.size, 1, none⟩ (.slice oo order.length ooc)).setCell ⟨w.heap.size, 2, none⟩ (.slice (some ⟨g5, 0, none⟩) (4 + s3.vals.length) cap5)).setCell ⟨w.heap.size, 3, none⟩ (.bool (decide (0 < cnt gs.live n)))) (by first | rfl | (rw [ST2.out]))
       simp only [ST2.out] at hR hC
       clear z0 z1 z2 z3 y0 y1 y2 y3
       generalize (((w6.setCell ⟨w.heap.size, 0, none⟩ (.slice xa n xc)).setCell ⟨w.heap.size, 1, none⟩ (.slice oo order.length ooc)).setCell ⟨w.heap.size, 2, none⟩ (.slice (some ⟨g5, 0, none⟩) (4 + s3.vals.length) cap5)).setCell ⟨w.heap.size, 3, none⟩ (.bool (decide (0 < cnt gs.live n))) = W9 at hR hC ⊢
       have q0 : W9.cell? ⟨w.heap.size, 0, none⟩ = some (.slice xa n xc) := by simp [World.cell?, hC]
       have q1 : W9.cell? ⟨w.heap.size, 1, none⟩ = some (.slice oo order.length ooc) := by simp [World.cell?, hC]
       have q2 : W9.cell? ⟨w.heap.size, 2, none⟩ = some (.slice (some ⟨g5, 0, none⟩) (4 + s3.vals.length) cap5) := by simp [World.cell?, hC]
       have q3 : W9.cell? ⟨w.heap.size, 3, none⟩ = some (.bool (decide (0 < cnt gs.live n))) := by simp [World.cell?, hC]
       exact bodyPost_ret (v := .agg #[.slice xa n xc, .slice oo order.length ooc, .slice (some ⟨g5, 0, none⟩) (4 + s3.vals.length) cap5, .bool (decide (0 < cnt gs.live n))]) (by simp [results, Try.f35, go_sem, q0, q1, q2, q3]) rfl ⟨_, rfl, hR⟩)
    ·have hdn : Aside (¬ (cnt gs.live n = 0 ∨ order.length = M)) := hd
     clear hd
     have h1 : ¬ cnt gs.live n = 0 := fun h => hdn.out (.inl h)
     have h2 : ¬ order.length = M := fun h => hdn.out (.inr h)
     have C70 : Aside (Calls Try.prog 70 #[.pointer (some ⟨ub, 0, none⟩), .slice la n lc] wr fun x w' => ∃ y p1 r1 ov' c, x = .returned (.int .i64 (y : Nat)) ∧ y < n ∧ (gs.th y).call = some c ∧ PMid W ops opv (m + 1) n M S B2 tbs la lc ub ta2 tc2 gs (order ++ [y]) p1 r1 s3 rt3 ovs3 en3 ov' w' ∧ RefI ops n M S (ks0 (m + 1) tg) (gs.put y (stpG KPl (ops y) gs.q (gs.th y))) (order ++ [y]) p1 r1) := pick_go MM.out II.out HN.out.1 HN.out.2.2.1 HN.out.2.2.2.1 h1 h2
     have hom : order.length < M := by have := MM.out.om; omega
     clear h1 h2
     go_wp2_with (first
      | (go_at_call 70; refine Calls.mono C70.out ?_; rintro e w3 ⟨y, p1, r1, ov', c, rfl, hy, hc, hMd, hRI⟩; have M3 : Aside (PMid W ops opv (m + 1) n M S B2 tbs la lc ub ta2 tc2 gs (order ++ [y]) p1 r1 s3 rt3 ovs3 en3 ov' w3 ∧ RefI ops n M S (ks0 (m + 1) tg) (gs.put y (stpG KPl (ops y) gs.q (gs.th y))) (order ++ [y]) p1 r1 ∧ y < n) := ⟨hMd, hRI, hy⟩; have C73 : Aside (Calls Try.prog 73 #[.pointer (some ⟨B2.mb, 0, none⟩), .pointer (some ⟨tbs y, 0, none⟩)] w3 fun x w' => x = .returned (.tuple #[]) ∧ ∃ s' rt' ovs' en', PMid W ops opv (m + 1) n M S B2 tbs la lc ub ta2 tc2 (gs.put y (stpG KPl (ops y) gs.q (gs.th y))) (order ++ [y]) p1 r1 s' rt' ovs' en' ov' w') := step_go hMd hy hc; have hy0 : ¬ ((y : Nat) : Int) < 0 := (by omega); have hy1 : ((y : Nat) : Int) < (n : Int) := (by omega); have m8 := hMd.r.m.fx.m7; rw [hMd.th] at m8; obtain ⟨lb, cap, e1, h1⟩ := row_get (k := y) hMd.l (x := .pointer (some ⟨tbs y, 0, none⟩)) (by simp [hy]); rw [e1] at m8; have f1 := h1.c; clear hMd hRI hc h1 m7 e1)
      | (go_at_call 73; refine Calls.mono C73.out ?_; rintro e w4 ⟨rfl, s', rt', ovs', en', hMd⟩; have M4 : Aside (PMid W ops opv (m + 1) n M S B2 tbs la lc ub ta2 tc2 (gs.put y (stpG KPl (ops y) gs.q (gs.th y))) (order ++ [y]) p1 r1 s' rt' ovs' en' ov' w4) := hMd; clear hMd))
     go_roundg (M - (order ++ [y]).length)
     case measure => simp; omega
     case rel => exact ⟨_, _, _, _, _, _, _, _, _, M4.out, M3.out.2.1, rfl⟩
end
section
theorem bes_good {An : Anchor} {P : Program} {Post : Value → World → Prop} {fr : Frame} {W : World} (hA : An.Holds W)
 (hB : Bes An P (fun g w => g.status = .running ∧ ∀ d, ∃ v, stepG P true g (w.at d) = .ended (.done v) (w.at d) #[] ∧ (An.Holds (w.at d) → Post v (w.at d))) (G fr []) W) :
 ∃ M last o w' t', runNT P (M + 1) (solo (G fr []) W) #[] = (.ended o w', t') ∧ runN P M (solo (G fr []) W) = .next last ∧ step P last = .ended o w' ∧ Go.Conc.Good P Post last o w' t' := by
 rw [solo_eq_crowd]
 obtain ⟨N, gs', g', w', sl', T', q', B', hr, h0', ⟨hrun, hS⟩, hL', hP', hA'⟩ := hB #[G fr []] none #[] (fun _ => 0) 0 rfl (leavers_one _ _) past_nil hA
 obtain ⟨K, last, o, w2, t', e1, e2, e3, e4⟩ := beside_ends (P := P) (Post := Post) (D := fun _ _ es => ∀ e ∈ es, EvL NoShun B' e) (sl := sl') (n := 0) (fun _ _ _ h => h) h0' hL' hP' (Goes.stop fun w₂ r₂ => by
  obtain ⟨d, rfl⟩ := r₂
  obtain ⟨v, h1, h2⟩ := hS d
  exact ⟨hrun, v, #[], h1, by simp, h2 (hA'.at d)⟩)
 refine ⟨N + K, last, o, w2, t', ?_, ?_, e3, e4⟩
 ·rw [Nat.add_assoc, runNT_add, hr]; exact e1
 ·rw [runN_add, ← runNT_fst P _ _ #[], hr]; exact e2
theorem below_of {W w' : World} (h : (⟨W.heap.size, W⟩ : Anchor).Holds w') (hc : ∀ (r : Nat) (c : Array Value) (e : TypeId) (z : Nat × Nat), W.heap[r]? = some (.cells c e z) → w'.heap[r]? = some (.cells c e z)) : Below W.heap.size W w' := by
 refine ⟨h.os, h.tape, h.output, h.low, fun r hr => ?_⟩
 obtain ⟨o, ho⟩ : ∃ o, W.heap[r]? = some o := ⟨_, Array.getElem?_eq_getElem hr⟩
 by_cases e : ∃ c e z, o = .cells c e z
 ·obtain ⟨c, e, z, rfl⟩ := e
  rw [hc r c e z ho, ho]
 ·rw [h.obj r o hr ho fun c e1 z e2 => e ⟨c, e1, z, e2⟩, ho]
theorem law_ends {f k : Nat} {fn : Func} {A : Array Value} (h2 : ¬ 2 = f) (hf : Try.prog.funcs[f]? = some fn) (hr : fn.results = #[.tmp k]) {v : Value} (hA : A.getD k undef = v) (w : World) :
 stepG Try.prog true (G { (base f).at ⟨A, []⟩ [.code .ret] with mode := .returning } []) w = .ended (.done v) w #[] := by
 subst hA
 simp [G, stepG, unwind, doReturn, results, Frame.at, base, hf, hr, seen, GStep.after, h2]
section
variable {An : Anchor} {W : World}
def LawPost (W : World) (v : Value) (w' : World) : Prop := v = .bool true ∧ ∀ (r : Nat) (c : Array Value) (e : TypeId) (z : Nat × Nat), W.heap[r]? = some (.cells c e z) → w'.heap[r]? = some (.cells c e z)
def LawStop (An : Anchor) (Post : Value → World → Prop) (g : Goroutine) (w : World) : Prop := g.status = .running ∧ ∀ d, ∃ v, stepG Try.prog true g (w.at d) = .ended (.done v) (w.at d) #[] ∧ (An.Holds (w.at d) → Post v (w.at d))
theorem law_stop {f k : Nat} {fn : Func} {A : Array Value} (hf : Try.prog.funcs[f]? = some fn) (hr : fn.results = #[.tmp k]) (h2 : ¬ 2 = f) (hA : A.getD k undef = .bool true) {w : World} (h : ∀ (r : Nat) (c : Array Value) (e : TypeId) (z : Nat × Nat), W.heap[r]? = some (.cells c e z) → w.heap[r]? = some (.cells c e z)) :
 LawStop An (LawPost W) (G { (base f).at ⟨A, []⟩ [.code .ret] with mode := .returning } []) w :=
 ⟨rfl, fun d => ⟨_, law_ends h2 hf hr hA _, fun _ => ⟨rfl, h⟩⟩⟩
end
theorem Try.own : ownKnob Try.prog.godebug = none := by kernel_rfl
theorem Try.laidOut : laidOutB Try.prog = true := by kernel_rfl
end
end Go.Proofs.Ytlcgkpapnpdfpaa
