/-
  StackPlays (law 06), seat Ytlcgkpapnpdfpaa: the whole trace of any threads by any schedule, with tags and without
  Part 6 of 6.
-/
import Derived.Test.YtlcgkpapnpdfpaaZE
import Derived.Test.YtlcgkpapnpdfpaaRows
import Derived.ProofKit
import Derived.Carry
import Derived.Deep.Slices
import Derived.ChangeSlices
import Derived.JoinedCond
import Derived.Conc.Holds
import Derived.Conc.LeavingOf
import Derived.ChangeSame
set_option linter.unusedSimpArgs false
set_option linter.unusedVariables false
set_option maxRecDepth 100000
set_option maxHeartbeats 8000000
namespace Go.Proofs.Ytlcgkpapnpdfpaa
open Go Go.Conc Go.RowKit Go.Proofs
section
variable {An : Anchor} {W w w' : World}
def S6l : List Nat := [32, 33, 35, 63, 66, 67, 68, 69, 70, 71, 72, 73, 91, 92, 93, 94, 95, 109]
theorem closed6 : Closed Try.prog (fun f => S6l.contains f) true := closed_ofX (x := []) (fun f h => by cases h) (by kernel_rfl)
theorem OpsIn.kept {N : Nat → Prop} {n tb o tl : Nat} {ta : Option Addr} {oa : Nat → Option Addr} {ol oc : Nat → Nat} {ops : Nat → List Op4} {S : List Int} {sa : Option Addr} (h : OpsIn w N n tb o tl ta oa ol oc ops S sa) (hs : w.heap.size ≤ w'.heap.size)
 (hold : ∀ (r : Nat) (c : Array Value) (e : TypeId) (z : Nat × Nat), w.heap[r]? = some (.cells c e z) → w'.heap[r]? = some (.cells c e z)) : OpsIn w' N n tb o tl ta oa ol oc ops S sa := by
 have hc : ∀ {a : Addr} {v : Value}, w.cell? a = some v → w'.cell? a = some v ∧ w'.frozen? a = w.frozen? a := fun {a v} h => by
  obtain ⟨c, e, z, ho⟩ := cell_block h
  have e1 : w'.heap[a.block]? = w.heap[a.block]? := (hold _ _ _ _ ho).trans ho.symm
  exact ⟨by rw [← h]; unfold World.cell?; simp only [e1], by unfold World.frozen?; simp only [e1]⟩
 refine ⟨h.hn, h.hta, fun hp => by have := h.htb hp; omega, fun j hj => ?_, h.hlen, fun j hj k x hx => ?_, h.hsl, fun hp => ?_⟩
 ·obtain ⟨h1, h2, h3⟩ := h.hth j hj
  exact ⟨(hc h1).1, (hc h1).2.trans h2, h3⟩
 ·obtain ⟨opb, oo, h1, h2, f0, f1, f2, f3, g0, g1, g2, g3⟩ := h.hop j hj k x hx
  exact ⟨opb, oo, h1, h2, (hc f0).1, (hc f1).1, (hc f2).1, (hc f3).1, (hc f0).2.trans g0, (hc f1).2.trans g1, (hc f2).2.trans g2, (hc f3).2.trans g3⟩
 ·obtain ⟨sb, so, c, e, z, h1, h2, h3, h4⟩ := h.hS hp
  exact ⟨sb, so, c, e, z, h1, h2, hold _ _ _ _ h3, h4⟩
section
variable {m : Pl} {ops : Nat → List Op4} {n M : Nat}
theorem gTurn_le {s : GS m × List Nat} (h : s.2.length ≤ M) (i : Int) : (gTurn ops n M s i).2.length ≤ M := by
 unfold gTurn
 split
 ·rename_i hc
  have := hc.2.2.2
  simp only [List.length_append, List.length_cons, List.length_nil]
  omega
 ·exact h
theorem gTurns_le : ∀ (l : List Int) (s : GS m × List Nat), s.2.length ≤ M → (gTurns ops n M l s).2.length ≤ M
 | [], _, h => h
 | i :: l, _, h => gTurns_le l _ (gTurn_le h i)
theorem gRounds_le : ∀ (f : Nat) (s : GS m × List Nat), s.2.length ≤ M → (gRounds ops n M f s).2.length ≤ M
 | 0, _, h => h
 | f + 1, s, h => by
   unfold gRounds
   split
   ·exact h
   ·exact gRounds_le f _ (gTurns_le _ _ h)
theorem gOver_le {S : List Int} {f : Nat} {s : GS m} : (gOver ops n M S f s).2.length ≤ M := gRounds_le _ _ (gTurns_le _ _ (Nat.zero_le _))
variable {I : m.S → Prop} (hb : ∀ s o, I s → I (m.beg s o).1) (hs : ∀ s c, I s → I (m.stp s c).1)
include hb in
theorem advG_inv : ∀ (l : List Op4) (q : m.S) (t : GT m), I q → I (advG m l q t).1
 | [], q, t, h => h
 | o :: l, q, t, h => by
   have h1 := hb q o h
   simp only [advG]
   cases e : m.beg q o with
   | mk q' r =>
     rw [e] at h1
     cases r with
     | inl c => exact h1
     | inr a => exact advG_inv l q' _ h1
include hb hs in
theorem stpG_inv (l : List Op4) (q : m.S) (t : GT m) (h : I q) : I (stpG m l q t).1 := by
 unfold stpG
 cases ht : t.call with
 | none => exact h
 | some c =>
   have h1 := hs q c h
   simp only
   cases e : m.stp q c with
   | mk q' r =>
     rw [e] at h1
     cases r with
     | inl c => exact h1
     | inr a => exact advG_inv hb _ q' _ h1
include hb in
theorem gBorns_inv (s : GS m) (h : I s.q) : ∀ i, I (gBorns m ops i s).q
 | 0 => h
 | i + 1 => by
   simp only [gBorns]
   exact advG_inv hb _ _ _ (gBorns_inv s h i)
include hb hs in
theorem gTurn_inv {s : GS m × List Nat} (h : I s.1.q) (i : Int) : I (gTurn ops n M s i).1.q := by
 unfold gTurn
 split
 ·exact stpG_inv hb hs _ _ _ h
 ·exact h
include hb hs in
theorem gTurns_inv : ∀ (l : List Int) (s : GS m × List Nat), I s.1.q → I (gTurns ops n M l s).1.q
 | [], _, h => h
 | i :: l, _, h => gTurns_inv l _ (gTurn_inv hb hs h i)
include hb hs in
theorem gRounds_inv : ∀ (f : Nat) (s : GS m × List Nat), I s.1.q → I (gRounds ops n M f s).1.q
 | 0, _, h => h
 | f + 1, s, h => by
   unfold gRounds
   split
   ·exact h
   ·exact gRounds_inv f _ (gTurns_inv hb hs _ _ h)
include hb hs in
theorem gOver_inv {S : List Int} {f : Nat} {s : GS m} (h : I s.q) : I (gOver ops n M S f s).1.q := gRounds_inv hb hs _ _ (gTurns_inv hb hs _ _ (gBorns_inv hb s h n))
end
theorem begin_s (s : KSt) (o : Op4) : (s.begin o).1 = s := by
 unfold KSt.begin
 repeat' split
 all_goals rfl
theorem over_len {ops : Nat → List Op4} {n M m0 : Nat} {S : List Int} {f : Nat} {tg : Bool} : (gOver ops n M S f (ks0 m0 tg)).1.q.nx.length = m0 :=
 gOver_inv (m := KPl) (I := fun s : KSt => s.nx.length = m0) (fun (s : KSt) (o : Op4) (h : s.nx.length = m0) => (by rw [begin_s]; exact h : (KSt.begin s o).1.nx.length = m0)) (fun (s : KSt) (c : KCl) (h : s.nx.length = m0) => (by rw [step_len]; exact h : (KSt.step s c).1.nx.length = m0)) (by simp [ks0, knew])
theorem bes_kplays {size : Int} {tg : Bool} {m : Nat} (hm : min (max size 1) 65536 = ((m + 1 : Nat) : Int))
 {n tb o tl tc sc M : Nat} {mo : Int} {ta sa : Option Addr} {oa : Nat → Option Addr} {ol oc : Nat → Nat} {ops : Nat → List Op4} {S : List Int} (hI : OpsIn W (fun _ => False) n tb o tl ta oa ol oc ops S sa) (htl : tl < 1000000000000) (hol : ∀ j, j < n → ol j < 1000000000000) (hM : min (max mo 0) 1048576 = (M : Int)) (hSl : S.length < 10000000) :
 Bes An Try.prog (LawStop An (LawPost W)) (G (Frame.enter Try.prog 9 #[.int .i64 size, .bool tg, .slice ta tl tc, .slice sa S.length sc, .int .i64 mo] .normal) []) W := by
 have hn64 : n ≤ 64 := by have := hI.hn; omega
 refine bes_own (F := F0) (Stop := fun a u => ∃ A d, Slots 26 A [(0, .int .i64 size), (1, .bool tg), (2, .slice ta tl tc), (3, .slice sa S.length sc), (4, .int .i64 mo)] ∧ u = W.at d ∧ a = G (Frame.enter Try.prog 30 #[] .normal) [(Go.Conc.base 9).at ⟨A, []⟩ [.inRegion (oC kspr1) [0, 1], .code kspc12, .code ksps4]])
  (ksp_0 fun A hA => .stop fun d => ⟨A, d, hA, rfl, rfl⟩) fun a u ⟨A, d, hA, hu, ha⟩ => ?_
 subst ha
 refine bes_turns fun w1 hs hold => ?_
 have hold1 : ∀ (r : Nat) (c : Array Value) (e : TypeId) (z : Nat × Nat), W.heap[r]? = some (.cells c e z) → w1.heap[r]? = some (.cells c e z) := fun r c e z h => hold r c e z (by rw [hu]; exact h)
 have hs1 : W.heap.size ≤ w1.heap.size := by rw [hu] at hs; exact hs
 refine bes_own (F := F0) (Stop := fun a u => ∃ A d, Slots 26 A [(0, .int .i64 size), (1, .bool tg), (2, .slice ta tl tc), (3, .slice sa S.length sc), (4, .int .i64 mo)] ∧ u = w1.at d ∧ a = G (Frame.enter Try.prog 34 #[.int .i64 size, .bool tg, .slice ta tl tc, .slice sa S.length sc, .int .i64 mo] .normal) [(Go.Conc.base 9).at ⟨A, []⟩ [.inRegion (oC kspr3) [5, 6, 7, 8, 9, 10, 11, 12, 13], .code .ret]])
  (ksp_1 hA fun A hA => .stop fun d => ⟨A, d, hA, rfl, rfl⟩) fun a u ⟨A2, d2, hA2, hu2, ha⟩ => ?_
 subst ha
 subst hu2
 have hI1 : OpsIn w1 (fun _ => False) n tb o tl ta oa ol oc ops S sa := hI.kept hs1 hold1
 refine bes_kplay (w := w1.at d2) hm (hI1.kept (w' := w1.at d2) (Nat.le_refl _) fun r c e z h => h) hM fun s order hd hover aa oa' oc' xa xc w2 hU => ?_
 refine bes_own (F := F0) (Stop := LawStop An (LawPost W)) ?_ fun a u h => Bes.stop h
 refine ksp_2 hA2 fun A3 hA3 => ?_
 have hs2 : w1.heap.size ≤ w2.heap.size := hU.size
 have hold2 : ∀ (r : Nat) (c : Array Value) (e : TypeId) (z : Nat × Nat), w1.heap[r]? = some (.cells c e z) → w2.heap[r]? = some (.cells c e z) := hU.old
 have hI2 := hI1.kept hs2 hold2
 refine own_callB closed6 prog_late Try.func35 rfl (by kernel_rfl) (R := RefOut6 w2 ops n M S (ks0 (m + 1) tg)) (fun τ e => show CallsB Try.prog Try.f35 _ (retape w2 τ e) (RefOut6 (retape w2 τ e) ops n M S (ks0 (m + 1) tg)) from play6_ref (w := retape w2 τ e) hm (hI2.kept (w' := retape w2 τ e) (Nat.le_refl _) fun r c e z h => h) htl hol hM hSl) fun v w3 τ e hR hg => ?_
 obtain ⟨s2, order2, xa2, oa2, sa2, xc2, oc2, sc2, va2, vc2, rfl, hov2, r1, r2, r3, r4, hk, _⟩ := hR
 have e12 : (s2, order2) = (s, order) := by
  obtain ⟨k1, hk1⟩ := hover
  obtain ⟨k2, hk2⟩ := hov2
  exact (hk2 (max k1 k2) (Nat.le_max_right _ _)).symm.trans (hk1 (max k1 k2) (Nat.le_max_left _ _))
 cases e12
 have hk3 : ∀ r, r < w2.heap.size → w3.heap[r]? = w2.heap[r]? := hk
 refine ksp_3 hA3 fun A4 hA4 => ?_
 obtain ⟨ca, hca, hcs, hci⟩ := hU.arr
 have hci2 : ∀ i, i < n → ca[i]? = some (.slice (vaOf (ca.getD i undef)) (s.th i).ans.length (vcOf (ca.getD i undef))) ∧ (s.th i).ans.length ≤ 65536 ∧ RRow w2 (vaOf (ca.getD i undef)) (ansC (s.th i).ans) := fun i hi => by
  obtain ⟨v, h1, h2, h3⟩ := hci i hi
  have hv : ca.getD i undef = v := by simp [Array.getD_eq_getD_getElem?, h1]
  have h4 := slice_of h3
  rw [hv]
  exact ⟨by rw [h1]; exact congrArg some h4, h2, rrow_of (h4 ▸ h3)⟩
 have el : (order.map fun i : Nat => (i : Int)).length = order.length := List.length_map _
 have eo : ((order.map fun i : Nat => (i : Int)).map fun v => Value.int .i64 v) = order.map fun i : Nat => .int .i64 i := by rw [List.map_map]; rfl
 obtain ⟨hol1, hsl1⟩ : order.length < 10000000 ∧ (KSt.state s.q).length < 20000000 := by
  obtain ⟨k, hk⟩ := hover
  have e := hk k (Nat.le_refl _)
  have h1 := gOver_le (ops := ops) (n := n) (M := M) (S := S) (f := k) (s := ks0 (m + 1) tg)
  have h2 := over_len (ops := ops) (n := n) (M := M) (S := S) (f := k) (m0 := m + 1) (tg := tg)
  rw [e] at h1 h2
  have h3 := walk_len s.q (KSt.nx s.q).length (KSt.hd s.q).1
  have h4 : (KSt.state s.q).length = 4 + (KSt.vals s.q).length := by simp only [KSt.state, List.length_append, List.length_cons, List.length_nil]
  have h5 : (KSt.vals s.q).length ≤ (KSt.nx s.q).length := h3
  simp only at h1 h2
  have h6 : (KSt.nx s.q).length = m + 1 := h2
  exact ⟨by omega, by omega⟩
 refine own_callB closed6 prog_late Try.func33 rfl (by kernel_rfl) (R := fun v w' => v = .bool true ∧ ∀ r, r < w3.heap.size → w'.heap[r]? = w3.heap[r]?) (fun τ e => ?_) fun v w4 τ e ⟨hv, hk4⟩ hg => ?_
 ·rw [← el]
  refine same33 (w := retape w3 τ e) (X := fun i => (s.th i).ans) (va := fun i => vaOf (ca.getD i undef)) (ca := fun i => vcOf (ca.getD i undef)) hn64 (by rw [el]; exact hol1) hsl1 (fun i hi => Nat.lt_of_le_of_lt (hci2 i hi).2.1 (by decide)) ?_ ?_ ?_ ?_ ?_ (r3.heap rfl) (fun i hi => (hci2 i hi).2.2.olds hk3) (fun i hi => (r4 i hi).heap rfl)
  ·rw [eo]; exact (rrow_of hU.ord).olds hk3
  ·rw [eo]; exact r1.heap rfl
  ·exact (rrow_of hU.st).olds hk3
  ·exact r2.heap rfl
  ·refine RRow.olds (w := w2) ⟨fun k x hx => ?_⟩ hk3
   obtain ⟨hkn, rfl⟩ : k < n ∧ Value.slice (vaOf (ca.getD k undef)) (s.th k).ans.length (vcOf (ca.getD k undef)) = x := by
    rw [List.getElem?_map, Option.map_eq_some_iff] at hx
    obtain ⟨j, hj, rfl⟩ := hx
    have hjn := (List.getElem?_eq_some_iff.1 hj).1
    rw [List.length_range] at hjn
    rw [List.getElem?_range hjn] at hj
    cases hj
    exact ⟨hjn, rfl⟩
   exact ⟨aa, 0, rfl, by rw [Nat.zero_add]; simpa [World.cell?, hca] using (hci2 k hkn).1⟩
 ·subst hv
  refine ksp_4 hA4 fun A5 hA5 => .stop fun d => law_stop Try.func9 rfl (by decide) hA5.2.1 fun r c e z h => ?_
  have h2 := hold2 _ _ _ _ (hold1 _ _ _ _ h)
  have hlt := (alt h2)
  have h3 := (hk3 r hlt).trans h2
  exact (hk4 r (alt h3)).trans h3
end
section
open Go.ChangeShapes Go.WideShapes Go.ChangeAt
theorem bulk_one {H : Type} (d : DataW H) : 1 ≤ Rows.uptoBulk d := by
 cases d with
 | lit l => cases l <;> simp [Rows.uptoBulk]
 | nil => simp [Rows.uptoBulk]
 | ptr d => simp [Rows.uptoBulk]
 | slice elems spare => simp [Rows.uptoBulk]
 | agg parts => simp [Rows.uptoBulk]
 | iface t d => simp [Rows.uptoBulk]
 | map entries => simp [Rows.uptoBulk]
 | held h => simp [Rows.uptoBulk]
theorem bulk_part {H : Type} {d : DataW H} {l : List (DataW H)} (h : d ∈ l) : Rows.uptoBulk d ≤ Rows.uptoBulkAll l := by
 induction l with
 | nil => cases h
 | cons x r ih =>
   simp only [Rows.uptoBulkAll]
   cases List.mem_cons.1 h with
   | inl e => subst e; omega
   | inr e => have := ih e; omega
theorem bulk_length {H : Type} (l : List (DataW H)) : l.length ≤ Rows.uptoBulkAll l := by
 induction l with
 | nil => simp [Rows.uptoBulkAll]
 | cons x r ih => have := bulk_one x; simp only [Rows.uptoBulkAll, List.length_cons]; omega
theorem bulk_slice {H : Type} (elems spare : List (DataW H)) : elems.length ≤ Rows.uptoBulk (.slice elems spare) ∧ ∀ d ∈ elems, Rows.uptoBulk d ≤ Rows.uptoBulk (.slice elems spare) := by
 have h1 := bulk_length elems
 simp only [Rows.uptoBulk]
 exact ⟨by omega, fun d hd => by have := bulk_part hd; omega⟩
section
variable {H : Type} {enc : TypeId × Value → H} {W : World}
theorem cell_in {a : Addr} {v : Value} (h : W.cell? a = some v) : ∃ c e z, W.heap[a.block]? = some (.cells c e z) ∧ c[a.off]? = some v := by
 unfold World.cell? at h
 split at h
 ·rename_i c e z ho
  split at h
  ·cases h
  ·exact ⟨c, e, z, ho, h⟩
 ·cases h
theorem frozen_in {b o : Nat} {c : Array Value} {e : TypeId} {z : Nat × Nat} (h : W.heap[b]? = some (.cells c e z)) (hf : W.frozen? ⟨b, o, none⟩ = false) : (decide (z.1 ≤ o) && decide (o < z.2)) = false := by
 simpa [World.frozen?, h] using hf
theorem ints_in {t e : TypeId} (ht : Try.prog.underlying t = some (.slice e)) (he : Try.prog.underlying e = some (.int .i64)) (hc : Try.prog.cellsOf e = 1) {v : Value} {d : DataW H} {p : List MemPlace} (hv : Value.okWide Try.prog W .any W.heap.size t v)
 (h : DataW.Trod enc Try.prog W 0 (fun _ => true) true t v d p) (hz : W.noneFrozen p) (hl : ∀ x ∈ p, x.block < W.heap.size) :
 ∃ (a : Option Addr) (vs : List Int) (c b o : Nat), v = .slice a vs.length c ∧ vs.length ≤ Rows.uptoBulk d ∧ (0 < vs.length → a = some ⟨b, o, none⟩ ∧ b < W.heap.size ∧ ∃ c e z, W.heap[b]? = some (.cells c e z) ∧ ∀ (k : Nat) (u : Int), vs[k]? = some u →
   c[o + k]? = some (.int .i64 u) ∧ (decide (z.1 ≤ o + k) && decide (o + k < z.2)) = false ∧ W.cell? ⟨b, o + k, none⟩ = some (.int .i64 u) ∧ W.frozen? ⟨b, o + k, none⟩ = false) := by
 obtain ⟨fuel, hf⟩ := h
 obtain ⟨a0, l0, c0, rfl⟩ := okWide_slice ht hv
 rcases open_ints ht he hc hf with ⟨h1, h2⟩ | ⟨a, len, cap, zs, h1, hb, hlc, _, hzl, h2, h3, _⟩
 ·simp [Value.cells] at h1
  obtain ⟨rfl, rfl, rfl⟩ := h1
  exact ⟨none, [], 0, 0, 0, rfl, Nat.zero_le _, fun h => by simp at h⟩
 ·simp only [if_true] at hzl
  simp [Value.cells] at h1
  obtain ⟨rfl, rfl, rfl⟩ := h1
  simp only [Prod.mk.injEq] at h2
  obtain ⟨rfl, rfl⟩ := h2
  have el : (zs.take l0).length = l0 := by simp; omega
  refine ⟨some a, zs.take l0, c0, a.block, a.off, by rw [el], ?_, fun hp => ?_⟩
  ·have := (bulk_slice (H := H) (lits .i64 (zs.take l0)) (lits .i64 (zs.drop l0))).1
   simpa [lits] using this
  ·rw [el] at hp
   obtain ⟨b, o, spot⟩ := a
   have hs : spot = none := by
    have := World.cell?_spot (h3 0 (by omega))
    simpa [Addr.add] using this
   subst hs
   have hc0 := h3 0 (by omega)
   rw [add_plain] at hc0
   obtain ⟨c, e', z, ho, _⟩ := cell_in hc0
   have hfr : ∀ k, k < zs.length → W.frozen? ⟨b, o + k, none⟩ = false := fun k hk => hz b (o + k) (by simp only [MemPlace.row, List.mem_map, List.mem_range]; exact ⟨k, hk, rfl⟩)
   refine ⟨rfl, (alt ho), c, e', z, ho, fun k u hk => ?_⟩
   have hkl := (List.getElem?_eq_some_iff.1 hk).1
   rw [el] at hkl
   have hu : zs.getD k 0 = u := by
    rw [List.getElem?_take_of_lt hkl] at hk
    simp [List.getD, hk]
   have hck := h3 k (by omega)
   rw [add_plain, hu] at hck
   obtain ⟨c', e2, z', ho', hcc⟩ := cell_in hck
   rw [ho] at ho'
   cases ho'
   exact ⟨hcc, frozen_in ho (hfr k (by omega)), hck, hfr k (by omega)⟩
theorem cells47 : Try.prog.cellsOf 47 = 4 := by kernel_rfl
theorem cells34 : Try.prog.cellsOf 34 = 1 := by kernel_rfl
theorem cells2 : Try.prog.cellsOf 2 = 1 := by kernel_rfl
theorem cells3 : Try.prog.cellsOf 3 = 1 := by kernel_rfl
structure OpLies (W : World) (b o : Nat) (x : Op4) : Prop where
 f0 : W.cell? ⟨b, o, none⟩ = some (.int .i64 x.kd)
 f1 : W.cell? ⟨b, o + 1, none⟩ = some (.int .i64 x.a)
 f2 : W.cell? ⟨b, o + 2, none⟩ = some (.int .i64 x.b)
 f3 : W.cell? ⟨b, o + 3, none⟩ = some (.int .i64 x.c)
 g0 : W.frozen? ⟨b, o, none⟩ = false
 g1 : W.frozen? ⟨b, o + 1, none⟩ = false
 g2 : W.frozen? ⟨b, o + 2, none⟩ = false
 g3 : W.frozen? ⟨b, o + 3, none⟩ = false
instance : Inhabited Op4 := ⟨⟨0, 0, 0, 0⟩⟩
theorem ops_in {v : Value} {fuel : Nat} {d : DataW H} {p : List MemPlace} (h : DataW.trod enc Try.prog W 0 (fun _ => true) true fuel 34 [v] = some (d, p)) (hz : W.noneFrozen p) :
 ∃ (a : Option Addr) (l c b o : Nat) (X : Nat → Op4), v = .slice a l c ∧ l ≤ c ∧ l ≤ Rows.uptoBulk d ∧ ∀ k, k < l → a = some ⟨b, o, none⟩ ∧ OpLies W b (o + k * 4) (X k) := by
 rcases Deep.open_slice Try.underlying34 h with ⟨h1, h2⟩ | ⟨a, len, cap, m, n, D, Pl, h1, hb, hlc, _, hm, h2, hx⟩
 ·cases h1
  exact ⟨none, 0, 0, 0, 0, fun _ => default, rfl, Nat.le_refl _, Nat.zero_le _, fun k hk => by omega⟩
 ·simp only [if_true] at hm
  subst hm
  cases h1
  simp only [Prod.mk.injEq] at h2
  obtain ⟨rfl, rfl⟩ := h2
  rw [cells47] at hx hz
  have hsp : 0 < len → a.spot = none := fun hp => by
   obtain ⟨cs', e1, _⟩ := hx 0 (by omega)
   obtain ⟨_, _, hcell⟩ := World.cells?_some e1
   have h0 := hcell 0 (by omega)
   rw [List.getElem?_eq_getElem (by omega)] at h0
   have := World.cell?_spot h0
   simpa [Addr.add] using this
  have each : ∀ k, k < len → ∃ x : Op4, ∃ b o, a = ⟨b, o, none⟩ ∧ OpLies W b (o + k * 4) x := fun k hk => by
   obtain ⟨cs', e1, e2⟩ := hx k (by omega)
   obtain ⟨_, hlen, hcell⟩ := World.cells?_some e1
   obtain ⟨xs, n', hk', hxy, _, hxl, hf⟩ := DataW.trod_struct Try.underlying47 e2
   match xs, hxl, cs', hlen with
   | [y0, y1, y2, y3], _, [v0, v1, v2, v3], _ =>
     have q0 := hf 0 _ rfl
     have q1 := hf 1 _ rfl
     have q2 := hf 2 _ rfl
     have q3 := hf 3 _ rfl
     simp [cells2, cells3] at q0 q1 q2 q3
     obtain ⟨n0, r0, _, _⟩ := DataW.trod_int Try.underlying3 q0
     obtain ⟨n1, r1, _, _⟩ := DataW.trod_int Try.underlying2 q1
     obtain ⟨n2, r2, _, _⟩ := DataW.trod_int Try.underlying2 q2
     obtain ⟨n3, r3, _, _⟩ := DataW.trod_int Try.underlying2 q3
     cases r0
     cases r1
     cases r2
     cases r3
     obtain ⟨b, o, spot⟩ := a
     have c0 := hcell 0 (by omega)
     have c1 := hcell 1 (by omega)
     have c2 := hcell 2 (by omega)
     have c3 := hcell 3 (by omega)
     have hs : spot = none := hsp (by omega)
     subst hs
     rw [add_plain, add_plain] at c0 c1 c2 c3
     have hfr : ∀ j, j < m * 4 → W.frozen? ⟨b, o + j, none⟩ = false := fun j hj => hz b (o + j) (List.mem_append_left _ (by simp only [MemPlace.row, List.mem_map, List.mem_range]; exact ⟨j, hj, rfl⟩))
     exact ⟨⟨n0, n1, n2, n3⟩, b, o, rfl, c0, c1, c2, c3, hfr _ (by omega), by rw [Nat.add_assoc]; exact hfr _ (by omega), by rw [Nat.add_assoc]; exact hfr _ (by omega), by rw [Nat.add_assoc]; exact hfr _ (by omega)⟩
  obtain ⟨X, hX⟩ := Deep.choose_lt each
  refine ⟨some a, len, m, a.block, a.off, X, rfl, hlc, ?_, fun k hk => ?_⟩
  ·have := (bulk_slice (H := H) ((List.range len).map D) ((List.range (m - len)).map fun j => D (len + j))).1
   simpa using this
  ·obtain ⟨b, o, rfl, hh⟩ := hX k hk
   exact ⟨rfl, hh⟩
theorem threads_in {v : Value} {d : DataW H} {p : List MemPlace} (hv : Value.okWide Try.prog W .any W.heap.size 23 v) (h : DataW.Trod enc Try.prog W 0 (fun _ => true) true 23 v d p) (hz : W.noneFrozen p) :
 ∃ (a : Option Addr) (tl tc b o : Nat) (oa : Nat → Option Addr) (ol oc : Nat → Nat) (ops : Nat → List Op4), v = .slice a tl tc ∧ tl ≤ Rows.uptoBulk d ∧ (∀ j, j < tl → ol j ≤ Rows.uptoBulk d) ∧
   ∀ (S : List Int) (sa : Option Addr), S.length < 9223372036854775808 → (0 < S.length → ∃ sb so c e z, sa = some ⟨sb, so, none⟩ ∧ W.heap[sb]? = some (.cells c e z) ∧ ∀ (k : Nat) (u : Value), (S.map fun i : Int => Value.int .i64 i)[k]? = some u → c[so + k]? = some u ∧ (decide (z.1 ≤ so + k) && decide (so + k < z.2)) = false) →
     OpsIn W (fun _ => False) (min tl 64) b o tl a oa ol oc ops S sa := by
 obtain ⟨fuel, hf⟩ := h
 obtain ⟨a0, l0, c0, rfl⟩ := okWide_slice Try.underlying23 hv
 rcases Deep.open_slice1 Try.underlying23 cells34 hf with ⟨h1, h2⟩ | ⟨a, len, cap, m, n, V, D, Pl, h1, hb, hlc, _, hm, h2, hx⟩
 ·simp [Value.cells] at h1
  obtain ⟨rfl, rfl, rfl⟩ := h1
  refine ⟨none, 0, 0, 0, 0, fun _ => none, fun _ => 0, fun _ => 0, fun _ => [], rfl, Nat.zero_le _, fun j hj => by omega, fun S sa hl hS => ⟨rfl, fun h => by simp at h, fun h => by simp at h, fun j hj => by simp at hj, fun j hj => by simp at hj, fun j hj => by simp at hj, hl, fun hp => ?_⟩⟩
  obtain ⟨sb, so, c, e, z, e1, e2, e3⟩ := hS hp
  exact ⟨sb, so, c, e, z, e1, fun h => h, e2, e3⟩
 ·simp only [if_true] at hm
  subst hm
  simp [Value.cells] at h1
  obtain ⟨rfl, rfl, rfl⟩ := h1
  simp only [Prod.mk.injEq] at h2
  obtain ⟨rfl, rfl⟩ := h2
  have each : ∀ j, j < l0 → ∃ q : Option Addr × Nat × Nat × Nat × Nat × (Nat → Op4), V j = .slice q.1 q.2.1 q.2.2.1 ∧ q.2.1 ≤ q.2.2.1 ∧ q.2.1 ≤ Rows.uptoBulk (D j) ∧ ∀ k, k < q.2.1 → q.1 = some ⟨q.2.2.2.1, q.2.2.2.2.1, none⟩ ∧ OpLies W q.2.2.2.1 (q.2.2.2.2.1 + k * 4) (q.2.2.2.2.2 k) := fun j hj => by
   obtain ⟨x1, x2, x3, x4, x5, x6, e1, e2, e3, e4⟩ := ops_in (hx j (by omega)).2 (fun b o hm => hz b o (List.mem_append_right _ (List.mem_flatMap.2 ⟨j, List.mem_range.2 (by omega), hm⟩)))
   exact ⟨⟨x1, x2, x3, x4, x5, x6⟩, e1, e2, e3, e4⟩
  obtain ⟨q, hq⟩ := Deep.choose_lt each
  have hbs := bulk_slice (H := H) ((List.range l0).map D) ((List.range (c0 - l0)).map fun j => D (l0 + j))
  refine ⟨some a, l0, c0, a.block, a.off, fun j => (q j).1, fun j => (q j).2.1, fun j => (q j).2.2.1, fun j => (List.range (min (q j).2.1 65536)).map (q j).2.2.2.2.2, rfl, by simpa using hbs.1, fun j hj => Nat.le_trans (hq j hj).2.2.1 (hbs.2 _ (List.mem_map.2 ⟨j, List.mem_range.2 hj, rfl⟩)), fun S sa hl hS => ?_⟩
  have hsp : 0 < l0 → a = ⟨a.block, a.off, none⟩ := fun hp => by
   obtain ⟨b, o, spot⟩ := a
   have hs : spot = none := by
    have := World.cell?_spot (hx 0 (by omega)).1
    simpa [Addr.add] using this
   subst hs
   rfl
  have hcell : ∀ j, j < l0 → W.cell? ⟨a.block, a.off + j, none⟩ = some (.slice (q j).1 (q j).2.1 (q j).2.2.1) := fun j hj => by
   have := (hx j (by omega)).1
   rw [hsp (by omega), add_plain, (hq j hj).1] at this
   exact this
  refine ⟨rfl, fun hp => by rw [← hsp (by omega)], fun hp => ?_, fun j hj => ⟨hcell j (by omega), ?_, (hq j (by omega)).2.1⟩, fun j hj => by simp, fun j hj k x hk => ?_, hl, fun hp => ?_⟩
  ·obtain ⟨c, e, z, ho, _⟩ := cell_in (hcell 0 (by omega))
   exact (alt ho)
  ·exact hz a.block (a.off + j) (List.mem_append_left _ (by simp only [MemPlace.row, List.mem_map, List.mem_range]; exact ⟨j, by omega, rfl⟩))
  ·have hkl := (List.getElem?_eq_some_iff.1 hk).1
   simp only [List.length_map, List.length_range] at hkl
   have hx' : (q j).2.2.2.2.2 k = x := by
    rw [List.getElem?_map, List.getElem?_range hkl] at hk
    simpa using hk
   obtain ⟨e1, e2⟩ := (hq j (by omega)).2.2.2 k (by omega)
   rw [hx'] at e2
   exact ⟨_, _, e1, fun h => h, e2.f0, e2.f1, e2.f2, e2.f3, e2.g0, e2.g1, e2.g2, e2.g3⟩
  ·obtain ⟨sb, so, c, e, z, e1, e2, e3⟩ := hS hp
   exact ⟨sb, so, c, e, z, e1, fun h => h, e2, e3⟩
end
end
section
open Go Go.Conc Go.ChangeShapes
section
variable {H : Type} {enc : TypeId × Value → H}
theorem leaving_of_cond {a : Assume} {C : Checked} {os : Os} {f : FuncId} {fn : Func} {s : OpenSpec} {k : (H : Type) → List (DataW H) → Bool} (hk : s.cond = some k) {F : Stop.Interp} {conds : List PathCond} {apart fresh handsOn again : Bool}
 (own : ownKnob C.prog.godebug = none) (started : os.Started) (hfn : C.prog.funcs[f]? = some fn)
 (witness : ∃ (w : World) (tape : Tape) (i : Input), w.os = os ∧ (w.forCall tape i).Shaped C.prog ∧ i.vars = [] ∧ Input.okWide C.prog (w.forCall tape i) .any w.heap.size f i ∧
   s.pre6 enc C.prog fn conds apart (w.forCall tape i).memory i.args ∧ a.holds C.prog (lone (Frame.enter C.prog f i.args .normal) [] (w.forCall tape i)))
 (runs : ∀ (W : World) (base : Nat) (args : Array Value) (ds gs : List (DataW H)) (before : List MemPlace),
   (∀ (j : Nat) t v, fn.params[j]? = some t → args[j]? = some v → Value.okWide C.prog W .any base t v) →
   DataW.Whole enc C.prog fn.params.toList s.vars apart W args.toList ds gs before →
   conds.all (PathCond.test C.prog ⟨fn.params.toList, ds, s.bare.plain.varTypes C.prog, gs⟩) = true → k H (ds ++ gs) = true →
   a.holds C.prog (lone (Frame.enter C.prog f args .normal) [] W) →
   ∃ M last o w' t', runNT C.prog (M + 1) (solo (G (Frame.enter C.prog f args .normal) []) W) #[] = (.ended o w', t') ∧ runN C.prog M (solo (G (Frame.enter C.prog f args .normal) []) W) = .next last ∧
     step C.prog last = .ended o w' ∧ Conc.Good C.prog (fun v W' => (s.at F).post enc C.prog fn apart fresh handsOn again W args v W') last o w' t') :
 ReturnsInLeavingWide a C os f .any (s.pre6 enc C.prog fn conds apart) ((s.at F).post enc C.prog fn apart fresh handsOn again) := by
 refine returnsInLeavingWide_of_good own started witness ?_
 intro w tape i _ _ _ hok hpre hholds
 obtain ⟨_, _, _, fn', hfn', _, _, _, _, hval⟩ := hok
 have e : fn' = fn := Option.some.inj (hfn'.symm.trans hfn)
 subst e
 obtain ⟨ds, gs, before, hw, hc, hkk⟩ := (OpenSpec.pre_some hk conds apart _ _).1 hpre.1
 have hw' := DataW.Whole.of_heap (w' := w.forCall tape i) (by rfl) hw
 obtain ⟨M, last, o, w', t', h1, h2, h3, h4⟩ := runs (w.forCall tape i) w.heap.size i.args ds gs before hval hw' hc hkk hholds
 exact ⟨M, last, o, w', t', h1, h2, h3, h4.mono fun v hp => ChangeSpec.post_blind hp⟩
end
theorem holds_cond_leaving {p : Pinned} {s : OpenSpec} {c : OpenClaim} (f : FuncId) (fn : Func)
 (hn : c.program = p.name) (hs : c.sum = p.sum) (hsp : c.spec = s.name)
 (hstart : c.start = .entering) (hout : c.outside = []) (hin : c.inits = []) (hun : c.under = none) (hi4 : c.initsInPlace = [] ∧ c.initsUnfollowed = false ∧ c.initsRecurse = false ∧ c.initsNamed = [] ∧ c.initsPassed = []) (hnb : c.noBlocks = false) (hlv : c.leaving = true) (hfo : c.followed = none) (hnar : c.narrowed = s.cond.isSome) (hstill : c.still = false)
 (hfn : p.checked.prog.funcNamed c.func = some f) (hf : p.checked.prog.funcs[f]? = some fn)
 (closed : joinedFacts p.checked.prog f fn s.bare c = true)
 (hinst : fn.isInstance p.checked.prog c.origin c.targs) (hwrap : fn.isWrapper p.checked.prog c.wrapper c.mainSum)
 (h : ∀ os : Os, os.Started → ∀ (H : Type) (enc : TypeId × Value → H), (∀ a b, enc a = enc b → a = b) → ∀ F : Stop.Interp,
   ReturnsInLeavingWide c.assume p.checked os f .any (c.pre enc p.checked.prog fn s) ((s.at F).post enc p.checked.prog fn c.apart c.fresh c.handsOn c.again)) : c.holds p s := by
 simp only [joinedFacts, Bool.and_eq_true, beq_iff_eq, Array.all_eq_true_iff_forall_mem, List.all_eq_true, decide_eq_true_eq] at closed
 obtain ⟨⟨⟨⟨⟨⟨⟨⟨⟨⟨⟨⟨⟨⟨⟨⟨⟨⟨⟨⟨⟨⟨⟨⟨⟨⟨⟨⟨⟨⟨⟨k1, k2⟩, k3⟩, k4⟩, k5⟩, k6⟩, k7⟩, k8⟩, k9⟩, k10⟩, k11⟩, k12⟩, k13⟩, k14⟩, k15⟩, k16⟩, k17⟩, k17b⟩, k18⟩, k19⟩, k20⟩, k21⟩, k22⟩, k23⟩, k23b⟩, k24⟩, k24b⟩, k24c⟩, k25⟩, k26⟩, k27⟩, k28⟩ := closed
 have hq : ∀ os : Os, Stop.quiet p.checked.prog os := fun os k hk => by rw [k9] at hk; cases hk
 refine ⟨k1, hn, hs, hsp, k2, k3, by unfold OpenClaim.startFits; rw [hstart]; exact k24, by unfold OpenClaim.startTold; rw [hstart]; exact ⟨hin, hun, hi4⟩, f, fn, hfn, hf, ⟨k4, k19⟩, (fun hb => by rw [hnb] at hb; cases hb), by unfold OpenClaim.namedList; rw [hfo]; exact k5, hinst, hwrap,
  k6.trans k7.symm, ⟨k8.trans k9.symm, by unfold Program.envWorded; rw [k9]; rfl, k23b⟩, k10, k11, k12, k13, k14, ⟨k15, k27, k28⟩, ⟨k16, k20⟩, ⟨k17, k21, k25, k26⟩, ⟨k22, k24b, k24c, k17b⟩, (by rw [hout, hnar]; cases hsh : c.shortTexts with | none => simp | some _ => rw [hsh] at k23; cases k23), fun n hn' => varReadable_some (k18 n hn'),
  ⟨_, by unfold OpenClaim.world; rw [hout, hstart]; exact WideRow.started_initial, hq _⟩, [], by unfold OpenClaim.lists; rw [hfo], fun os st _ H enc inj => ?_⟩
 have st' : os.Started := by unfold OpenClaim.world at st; rw [hout, hstart] at st; exact st
 rw [OpenClaim.post_not_still hstill]
 unfold OpenClaim.form
 rw [hstart, k6]
 intro F
 have e1 : c.okInput = Input.okWide := by unfold OpenClaim.okInput; rw [hnb]
 have e2 : c.atReturn p.checked.prog = leavingAtReturn p.checked.prog := by unfold OpenClaim.atReturn; rw [hlv]
 have e3 : c.always p.checked.prog [] = nothingAlways := by unfold OpenClaim.always; rw [hfo]
 have e4 : s.post enc p.checked.prog fn F c.outside c.apart c.fresh c.handsOn c.again = (s.at F).post enc p.checked.prog fn c.apart c.fresh c.handsOn c.again := by rw [hout]; rfl
 rw [e1, e2, e3]
 show ReturnsInOpen _ _ _ _ _ _ _ _ (s.post enc p.checked.prog fn F c.outside c.apart c.fresh c.handsOn c.again) _ _
 rw [e4]
 exact h os st' H enc inj F k24
end
section
open Go.ChangeShapes Go.WideShapes Go.ChangeAt
section
variable {H : Type} {enc : TypeId × Value → H} {P : Program} {w : World} {base : Nat} {spare : Nat → Bool} {held : Bool}
theorem trodAll_5 {t t' t'' t3 t4 : TypeId} {args : Array Value} {ds : List (DataW H)} {ps : List MemPlace} (h : DataW.TrodAll enc P w base spare held [t, t', t'', t3, t4] args.toList ds ps) :
 ∃ v v' v'' v3 v4 d d' d'' d3 d4 p p' p'' p3 p4, args = #[v, v', v'', v3, v4] ∧ ds = [d, d', d'', d3, d4] ∧ ps = p ++ p' ++ p'' ++ p3 ++ p4 ∧ DataW.Trod enc P w base spare held t v d p ∧ DataW.Trod enc P w base spare held t' v' d' p' ∧ DataW.Trod enc P w base spare held t'' v'' d'' p'' ∧ DataW.Trod enc P w base spare held t3 v3 d3 p3 ∧ DataW.Trod enc P w base spare held t4 v4 d4 p4 := by
 obtain ⟨v, vs, d, ds', p, q, hargs, rfl, rfl, hd, hrest⟩ := trodAll_cons h
 obtain ⟨v', vs', d', ds'', p', q', rfl, rfl, rfl, hd', hrest'⟩ := trodAll_cons hrest
 obtain ⟨v'', vs'', d'', ds''', p'', q'', rfl, rfl, rfl, hd'', hrest''⟩ := trodAll_cons hrest'
 obtain ⟨v3, vs3, d3, ds3, p3, q3, rfl, rfl, rfl, hd3, hrest3⟩ := trodAll_cons hrest''
 obtain ⟨v4, vs4, d4, ds4, p4, q4, rfl, rfl, rfl, hd4, hrest4⟩ := trodAll_cons hrest3
 obtain ⟨rfl, rfl, rfl⟩ := trodAll_nil hrest4
 exact ⟨v, v', v'', v3, v4, d, d', d'', d3, d4, p, p', p'', p3, p4, by cases args; simp_all, rfl, by simp, hd, hd', hd'', hd3, hd4⟩
theorem trodAll_m5 {t t' t'' t3 t4 : TypeId} {v v' v'' v3 v4 : Value} {d d' d'' d3 d4 : DataW H} {p p' p'' p3 p4 : List MemPlace} (h : DataW.Trod enc P w base spare held t v d p) (h' : DataW.Trod enc P w base spare held t' v' d' p')
 (h'' : DataW.Trod enc P w base spare held t'' v'' d'' p'') (h3 : DataW.Trod enc P w base spare held t3 v3 d3 p3) (h4 : DataW.Trod enc P w base spare held t4 v4 d4 p4) : DataW.TrodAll enc P w base spare held [t, t', t'', t3, t4] [v, v', v'', v3, v4] [d, d', d'', d3, d4] (p ++ (p' ++ (p'' ++ (p3 ++ p4)))) := ⟨p, p' ++ (p'' ++ (p3 ++ p4)), h, trodAll_mk4 h' h'' h3 h4, rfl⟩
end
theorem kplays_lifted (os : Os) (started : os.Started) (H : Type) (enc : TypeId × Value → H) (F : Stop.Interp) :
 ReturnsInLeavingWide {} Try.checked os 9 .any ((Rows.OpenSpec.upto Rows.stackPlaysSpec).pre6 enc Try.prog Try.f9 Rows.stackPlaysUptoRow.domain false) (((Rows.OpenSpec.upto Rows.stackPlaysSpec).at F).post enc Try.prog Try.f9 false true false false) := by
 refine leaving_of_cond (C := Try.checked) (s := Rows.OpenSpec.upto Rows.stackPlaysSpec) (k := Rows.uptoSmall) rfl Try.own started Try.func9
  (OpenSpec.witness (enc := enc) (C := Try.checked) (s := Rows.OpenSpec.upto Rows.stackPlaysSpec) (k := Rows.uptoSmall) rfl false ⟨#[], #[.int .i64 0, .bool false, .slice none 0 0, .slice none 0 0, .int .i64 0], []⟩ 8 (by kernel_rfl) (by kernel_rfl) (by kernel_rfl)
    (x := ([.lit (.int .i64 0), .lit (.bool false), .nil, .nil, .lit (.int .i64 0)], [], [])) (by kernel_rfl) rfl (by kernel_rfl)) ?_
 intro W base args ds gs before hval0 hW _ hkk _
 have hval : ∀ (j : Nat) t v, Try.f9.params[j]? = some t → args[j]? = some v → Value.okWide Try.prog W .any base t v := hval0
 have hW' := hW
 obtain ⟨p, q, hA0, hV, rfl, hfz, _⟩ := hW
 have hA : DataW.TrodAll enc Try.prog W 0 (fun _ => true) true Try.f9.params.toList args.toList ds p := hA0
 rw [Try.params9] at hA hval
 obtain ⟨v0, v1, v2, v3, v4, d0, d1, d2, d3, d4, p0, p1, p2, p3, p4, rfl, rfl, rfl, h0, h1, h2, h3, h4⟩ := trodAll_5 hA
 obtain ⟨rfl, rfl⟩ := trodVars_none hV
 obtain ⟨sz, rfl, rfl, rfl, wsz⟩ := open_int Try.underlying3 (hval 0 3 v0 rfl rfl) h0
 obtain ⟨tg, rfl, rfl, rfl⟩ := open_bool Try.underlying4 (hval 1 4 v1 rfl rfl) h1
 obtain ⟨mo, rfl, rfl, rfl, wmo⟩ := open_int Try.underlying3 (hval 4 3 v4 rfl rfl) h4
 clear hA0 hval0
 simp only [List.append_nil, List.nil_append] at hW' hfz hkk
 have hlt : ∀ x ∈ p2 ++ p3, x.block < W.heap.size := fun x hx => by simpa using hW'.lt x hx
 have hb : Rows.uptoBulkAll [DataW.lit (.int .i64 sz), DataW.lit (.bool tg), d2, d3, DataW.lit (.int .i64 mo)] ≤ 1048576 := by simpa [Rows.uptoSmall] using hkk
 have b2 : Rows.uptoBulk d2 ≤ 1048576 := Nat.le_trans (bulk_part (by simp)) hb
 have b3 : Rows.uptoBulk d3 ≤ 1048576 := Nat.le_trans (bulk_part (by simp)) hb
 obtain ⟨ta, tl, tc, tb, o, oa, ol, oc, ops, rfl, l1, l1', hI⟩ := threads_in (hval 2 23 v2 rfl rfl) h2 (fun b o h => hfz b o (by simp [h]))
 obtain ⟨sa, S, sc, sb, so, rfl, l2, hS⟩ := ints_in Try.underlying24 Try.underlying3 cells3 (hval 3 24 v3 rfl rfl) h3 (fun b o h => hfz b o (by simp [h])) (fun x hx => hlt x (by simp [hx]))
 have hI := hI S sa (by omega) fun hp => by
  obtain ⟨e1, e2, c, e, z, e3, e4⟩ := hS hp
  refine ⟨sb, so, c, e, z, e1, e3, fun k u hu => ?_⟩
  rw [List.getElem?_map, Option.map_eq_some_iff] at hu
  obtain ⟨i, hi, rfl⟩ := hu
  exact ⟨(e4 k i hi).1, (e4 k i hi).2.1⟩
 obtain ⟨M, hM⟩ : ∃ M : Nat, min (max mo 0) 1048576 = (M : Int) := ⟨(min (max mo 0) 1048576).toNat, by omega⟩
 obtain ⟨m, hm⟩ : ∃ m : Nat, min (max sz 1) 65536 = ((m + 1 : Nat) : Int) := ⟨(min (max sz 1) 65536).toNat - 1, by omega⟩
 have hbes := bes_kplays (An := ⟨W.heap.size, W⟩) (W := W) (tg := tg) (tc := tc) (sc := sc) hm hI (by omega) (fun j hj => by have := l1' j (by omega); omega) hM (by omega)
 obtain ⟨N, last, o', w', t', g1, g2, g3, g4⟩ := bes_good (An := ⟨W.heap.size, W⟩) (Post := fun v w' => LawPost W v w' ∧ (⟨W.heap.size, W⟩ : Anchor).Holds w') (W := W) ⟨rfl, rfl, rfl, Nat.le_refl _, fun r o _ h _ => h⟩ (Bes.bind hbes fun g w h => Bes.stop ⟨h.1, fun d => by
  obtain ⟨v, e1, e2⟩ := h.2 d
  exact ⟨v, e1, fun hh => ⟨e2 hh, hh⟩⟩⟩)
 refine ⟨N, last, o', w', t', g1, g2, g3, g4.mono fun v hF => ?_⟩
 obtain ⟨⟨rfl, hk⟩, hh⟩ := hF
 have hbelow := below_of hh hk
 have r2 := Below.trod Try.laidOut (by kernel_rfl) (of_decide_eq_true (by kernel_rfl)) h2 hbelow (fun x hx => hlt x (by simp [hx]))
 have r3 := Below.trod Try.laidOut (by kernel_rfl) (of_decide_eq_true (by kernel_rfl)) h3 hbelow (fun x hx => hlt x (by simp [hx]))
 refine ⟨_, _, _, [], [] ++ ([] ++ (p2 ++ (p3 ++ []))), [], hW', ?_, ?_, rfl, hbelow.frame _, fun h => by cases h⟩
 ·exact trodAll_mk1 (shut_bool Try.underlying4 true)
 ·exact trodAll_m5 (shut_int Try.underlying3 wsz) (shut_bool Try.underlying4 tg) r2 r3 (shut_int Try.underlying3 wmo)
theorem stackPlays_holds : Rows.StackPlaysUptoSaid :=
 holds_cond_leaving 9 Try.f9 rfl rfl rfl rfl rfl rfl rfl ⟨rfl, rfl, rfl, rfl, rfl⟩ rfl rfl rfl rfl rfl (by kernel_rfl) Try.func9 (by kernel_rfl)
  (of_decide_eq_true (by kernel_rfl)) (by unfold Func.isWrapper; first | (rw [if_pos (by decide +kernel)]; kernel_rfl) | (rw [if_neg (by decide +kernel)]; exact ⟨rfl, rfl⟩))
  (fun os started H enc _ F => kplays_lifted os started H enc F)
end
end Go.Proofs.Ytlcgkpapnpdfpaa
