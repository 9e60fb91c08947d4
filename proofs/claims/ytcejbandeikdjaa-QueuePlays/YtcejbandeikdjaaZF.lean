/-
  The law QueuePlays holds of the given program: what queue.Play comes to by any schedule is what the document's reference comes to, for arguments of at most 1048576 items in all (QueuePlaysUptoSaid).
  Part 6 of 6.
-/
import Derived.Test.YtcejbandeikdjaaZE
import Derived.Test.YtcejbandeikdjaaRows
import Derived.ProofKit
import Derived.Carry
import Derived.Deep.Slices
import Derived.ChangeSlices
import Derived.JoinedCond
import Derived.Conc.Holds
import Derived.Conc.LeavingOf
import Derived.ChangeSame
set_option linter.unusedSimpArgs false
set_option linter.unusedVariables false
set_option maxRecDepth 100000
set_option maxHeartbeats 2000000
namespace Go.Proofs.Ytcejbandeikdjaa
open Go Go.Conc Go.RowKit Go.Proofs
noncomputable section
variable {w w' : World}
theorem OpsIn.cellA {w : World} {a : Addr} {v : Value} (h : w.cell? a = some v) (o : Obj) : (w.alloc o).cell? a = some v := (cellB_alloc h o).1
set_option maxHeartbeats 4000000 in
theorem play_ref {vs : List Int} {va0 : Option Addr} {vb vo vc0 : Nat} (hlen : vs.length < 5000000) (hva : 0 < vs.length → va0 = some ⟨vb, vo, none⟩) (hvb : 0 < vs.length → vb < w.heap.size) (hv : ∀ k v, vs[k]? = some v → w.cell? ⟨vb, vo + k, none⟩ = some (.int .i64 v))
  {N : Nat → Prop} {n tb o tl tc sc M : Nat} {mo : Int} {ta sa : Option Addr} {oa : Nat → Option Addr} {ol0 oc : Nat → Nat} {ops : Nat → List Op4} {S : List Int} (hI : OpsIn w N n tb o tl ta oa ol0 oc ops S sa) (htl : tl < 1000000000000) (hol : ∀ j, j < n → ol0 j < 1000000000000) (hM : min (max mo 0) 1048576 = (M : Int)) :
  CallsB Try.prog Try.f15 #[.slice va0 vs.length vc0, .slice ta tl tc, .slice sa S.length sc, .int .i64 mo] w (RefOut w ops n M S vs) := by
 have hn64 : n ≤ 64 := by have := hI.hn; omega
 have hM2 : M ≤ 1048576 := by omega
 have hsm : sm (fun i => (ops i).length) n ≤ n * 65536 := sm_le n fun j hj => by have := hI.hlen j hj; omega
 have hsm2 : n * 65536 ≤ 64 * 65536 := Nat.mul_le_mul_right _ hn64
 refine callsB_of rp_body ?_
 have hA0 : Slots 114 (#[.slice va0 vs.length vc0, .slice ta tl tc, .slice sa S.length sc, .int .i64 mo] ++ Array.replicate 110 undef) [(0, .slice va0 vs.length vc0), (1, .slice ta tl tc), (2, .slice sa S.length sc), (3, .int .i64 mo)]  := slots_start rfl
 simp only [Try.ntmps15, List.size_toArray, List.length_cons, List.length_nil, Nat.reduceAdd, Nat.reduceSub]
 generalize #[Value.slice va0 vs.length vc0, .slice ta tl tc, .slice sa S.length sc, .int .i64 mo] ++ Array.replicate 110 undef = A0 at hA0 ⊢
 rw [rpBody_eq]
 refine nrm_seq (rp_0 hA0 fun A1 h1 => ?_)
 have hWo : ∀ r, r < w.heap.size → (w.alloc (.cells #[.slice none 0 0, .slice none 0 0, .slice none 0 0, .bool false] 29)).heap[r]? = w.heap[r]? := fun r hr => heap_alloc_lt _ _ hr
 have hW8 := heap_alloc_new w (.cells #[.slice none 0 0, .slice none 0 0, .slice none 0 0, .bool false] 29)
 have hWs : (w.alloc (.cells #[.slice none 0 0, .slice none 0 0, .slice none 0 0, .bool false] 29)).heap.size = w.heap.size + 1 := by simp
 have hWc : ∀ {a : Addr} {v : Value}, w.cell? a = some v → (w.alloc (.cells #[.slice none 0 0, .slice none 0 0, .slice none 0 0, .bool false] 29)).cell? a = some v := fun h => (cellB_alloc h _).1
 generalize w.alloc (.cells #[.slice none 0 0, .slice none 0 0, .slice none 0 0, .bool false] 29) = W at hWo hW8 hWs hWc ⊢
 rw [rps1_eq]
 refine nrm_seq (rp_1 (R := fun rq w' => ∃ bb bc, NewAt W w' rq bb bc (newRQ vs)) ((new_ref (by omega) hva (fun h => by have := hvb h; omega) fun k v hk => hWc (hv k v hk)).mono fun e w' ⟨rq, bb, bc, h1, h2⟩ => ⟨rq, h1, bb, bc, h2⟩) h1 fun A2 rq w2 h2 ⟨bb, bc, hN⟩ => ?_)
 rw [rps2_eq]
 refine nrm_seq (rp_2 h2 fun A3 h3 => ?_)
 rw [rps3_eq]
 refine nrm_seq (rp_3 h3 fun A4 h4 => ?_)
 rw [rps4_eq]
 have hops : OpsW W n oa (fun j => min (ol0 j) 65536) ops := ⟨hI.hlen, fun j _ => Nat.min_le_right _ _, fun j hj k x hx => by
  obtain ⟨opb, oo, e1, _, c0, c1, c2, c3, _⟩ := hI.hop j hj k x hx
  obtain ⟨c, e, z, ho⟩ := cell_block c0
  have hlt := (Array.getElem?_eq_some_iff.1 ho).1
  simp only at hlt
  exact ⟨opb, oo, e1, by omega, hWc c0, hWc c1, hWc c2, hWc c3⟩⟩
 have hB0 : RB W oa (fun j => min (ol0 j) 65536) oc 0 0 (q00 vs) rq bb bc (fun _ => 0) (fun _ => .slice none 0 0) none 0 none 0 w2 :=
  ⟨⟨hN.size, hN.old, hN.q, fun j hj => by omega, fun a b ha => by omega, fun a b cb ha => by omega, fun a b g ha => by omega, hN.nq, hN.nb, fun j hj => by omega, fun j cb hj => by omega, fun j g hj => by omega⟩, ⟨rfl, .inl ⟨rfl, rfl⟩⟩, ⟨rfl, .inl ⟨rfl, rfl⟩⟩, fun g h => (by cases h), fun g h => (by cases h)⟩
 refine nrm_seq (rp_births (ol0 := ol0) hn64 hI.hn htl hI.hta (fun h => by have := hI.htb h; omega) (fun j hj => ⟨hWc (hI.hth j hj).1, (hI.hth j hj).2.2, hol j hj, rfl, fun h0 => by
   have hl := hI.hlen j hj
   obtain ⟨x, hx⟩ : ∃ x, (ops j)[0]? = some x := ⟨_, List.getElem?_eq_getElem (by omega)⟩
   obtain ⟨opb, oo, e1, _⟩ := hI.hop j hj 0 x hx
   exact ⟨opb, oo, e1⟩⟩) hops (by omega) hB0 h4 fun A5 w5 bb5 bc5 tbs ovs la ea lc ec h5 hB5 => ?_)
 rw [rps5_eq]
 have h5s := hB5.p.size
 have h5o := hB5.p.old
 have hSch : 0 < S.length → ∃ sb so, sa = some ⟨sb, so, none⟩ ∧ ∀ (j : Nat) (u : Value), (S.map fun i : Int => Value.int .i64 i)[j]? = some u → w5.cell? ⟨sb, so + j, none⟩ = some u := fun h0 => by
  obtain ⟨sb, so, c, e, z, e1, _, e3, e4⟩ := hI.hS h0
  have hlt := (Array.getElem?_eq_some_iff.1 e3).1
  have hb := ((h5o sb (by omega)).trans (hWo sb hlt)).trans e3
  refine ⟨sb, so, e1, fun j u hu => ?_⟩
  simp only [World.cell?, hb]
  simpa using (e4 j u hu).1
 refine nrm_seq (rp_10 (R := fun ub w' => ∃ la' lc', TurnMem w' ub la' S.length lc' M 0 0 (.slice none 0 0) [] ∧ w'.ownsRow 0 3 1 (.slice la' S.length lc') S.length (S.map fun i : Int => Value.int .i64 i) ∧ w5.heap.size ≤ ub ∧ (∀ g, (Value.slice la' S.length lc').ownBlock = some g → w5.heap.size ≤ g) ∧ (∀ r, r < w5.heap.size → w'.heap[r]? = w5.heap[r]?) ∧ w5.heap.size ≤ w'.heap.size)
  ((newturns_ref hM hI.hsl hSch).mono fun e w' ⟨ub, la', lc', h1, h2⟩ => ⟨ub, h1, la', lc', h2⟩) h5 fun A6 ub w6 h6 ⟨ta', tc', t1, t2, t3, t4, t5, t6⟩ => ?_)
 have hB6 : RB W oa (fun j => min (ol0 j) 65536) oc n n (pBorns ops n (q00 vs)) rq bb5 bc5 tbs ovs la ea lc ec w6 := ⟨hB5.p.same t6 (fun r hr => t5 r (by omega)) (fun r c e z hr _ => t5 r (Array.getElem?_eq_some_iff.1 hr).1), ownsRow_same2 hB5.l fun b hb _ => by
   obtain ⟨c2, hc2⟩ := own_row_ty hB5.l hb
   exact t5 b (Array.getElem?_eq_some_iff.1 hc2).1, ownsRow_same2 hB5.e fun b hb _ => by
   obtain ⟨c2, hc2⟩ := own_row_ty hB5.e hb
   exact t5 b (Array.getElem?_eq_some_iff.1 hc2).1, hB5.nl, hB5.ne⟩
 have hT6 : TLoop W ops oa (fun j => min (ol0 j) 65536) oc n M (1 + vs.length + sm (fun i => (ops i).length) n) S (q00 vs) rq tbs la ea lc ec ub ta' tc' (pBorns ops n (q00 vs)) [] 0 0 bb5 bc5 ovs (.slice none 0 0) w6 :=
  ⟨hB6, ⟨t1, t2, by omega, fun g hg => by have := t4 g hg; omega, fun g h => (by cases h), fun g h => (by cases h)⟩, refI_start _, ⟨_, PInv.pBorns (PInv.q00 vs ops n) (fun j => rfl) n (Nat.le_refl _)⟩, Nat.zero_le _, Nat.zero_le _, Nat.zero_le _⟩
 rw [rps6_eq]
 refine nrm_seq (rp_turns hn64 hM2 (by omega) hI.hsl hops hT6 h6 fun A7 w7 s order p rd bb7 bc7 ovs7 ov h7 hT7 hend => ?_)
 obtain ⟨xo, xoc, rfl⟩ : ∃ xo xoc, ov = .slice xo order.length xoc := ⟨_, _, slice_of hT7.t.t.row⟩
 rw [rps7_eq]
 refine nrm_seq (rp_15 hn64 (brow_of hT7.b.e) hT7.t.t.o h7 fun A8 w8 h8 hw8 => ?_)
 have e8 : w8.heap.size = w7.heap.size + 1 := by rw [hw8]; simp
 have o8 : w8.heap[w7.heap.size]? = some (.cells #[.slice none 0 0, .slice xo order.length xoc, .slice none 0 0, .bool (!(List.range n).all (endedOf s))] 29 (0, 0)) := by rw [hw8]; exact heap_alloc_new _ _
 have k8 : ∀ r, r < w7.heap.size → w8.heap[r]? = w7.heap[r]? := fun r hr => by rw [hw8]; exact heap_alloc_lt _ _ hr
 obtain ⟨ch, hPI⟩ := hT7.i
 have hpos := hPI.pos
 have hcl := hPI.kc.length
 obtain ⟨lb, hlb, hlb2⟩ := hPI.kc.mem_path hPI.kc.tl
 obtain ⟨lv, hlv, hlv2⟩ := hPI.kc.mem_path hPI.kc.hd
 have hRQ8 : RefQ w8 rq bb7 bc7 s.q := hT7.b.p.q.same (k8 _ hT7.b.p.q.rqlt) (k8 _ hT7.b.p.q.bblt)
 rw [rps8_eq]
 refine nrm_seq (rp_16 (lb := lb.length) (fun u hu => behind_ref (w := u) (hRQ8.heap hu) (hPI.kc.lt _ hPI.kc.tl) hlb (by omega) (by omega)) o8 h8 fun A9 w9 g cap h9 ho9 hr9 hg9 hs9 hold9 => ?_)
 rw [rps9_eq]
 have hQ9 : RefQ w9 rq bb7 bc7 s.q := hRQ8.same (hold9 _ hRQ8.rqlt (by have := hT7.b.p.q.rqlt; omega)) (hold9 _ hRQ8.bblt (by have := hT7.b.p.q.bblt; omega))
 have ht8 : w7.heap[w.heap.size]? = some (.cells #[.slice none 0 0, .slice none 0 0, .slice none 0 0, .bool false] 29 (0, 0)) := (hT7.b.p.old _ (by omega)).trans hW8
 have hlt8 : w.heap.size < w7.heap.size := (Array.getElem?_eq_some_iff.1 ht8).1
 have hWold := hT7.b.p.old
 have fin : ∀ A10 w10 g2 cap2, Slots 114 A10 [(8, .pointer (some ⟨w.heap.size, 0, none⟩)), (10, .slice la n ea), (17, .pointer (some ⟨w7.heap.size, 0, none⟩))] →
   w10.heap[w7.heap.size]? = some (.cells #[.slice none 0 0, .slice xo order.length xoc, .slice (some ⟨g2, 0, none⟩) (1 + lv.length) cap2, .bool (!(List.range n).all (endedOf s))] 29 (0, 0)) →
   w10.ownsRow 0 2 1 (.slice (some ⟨g2, 0, none⟩) (1 + lv.length) cap2) (1 + lv.length) (.int .i64 lb.length :: (lv.map s.q.vl).map fun v => .int .i64 v) → w9.heap.size ≤ w10.heap.size → (∀ r, r < w9.heap.size → r ≠ w7.heap.size → r ≠ g → w10.heap[r]? = w9.heap[r]?) →
   rps10.wp Try.prog (bodyPost Try.prog Try.f15 fun x w' => ∃ v, x = .returned v ∧ RefOut w ops n M S vs v w') ⟨A10, []⟩ w10 := by
  intro A10 w10 g2 cap2 h10 ho10 hr10 hs10 hold10
  have k10 : ∀ r, r < w7.heap.size → w10.heap[r]? = w7.heap[r]? := fun r hr => (hold10 r (by omega) (by omega) (by omega)).trans ((hold9 r (by omega) (by omega)).trans (k8 r hr))
  have hobl := (Array.getElem?_eq_some_iff.1 ho10).1
  rw [rps10_eq]
  refine nrm_seq (rp_ans (t8 := w.heap.size) (tbs := tbs) (va := fun j => vaOf (ovs7 j)) (vl := fun j => (s.th j).ans.length) (vc := fun j => vcOf (ovs7 j)) hn64 h10 ho10 (fun j hj => ?_) fun A11 w11 xa xc h11 hAns => ?_)
  ·obtain ⟨lb', cap', e1, h1⟩ := row_get (k := j) hT7.b.l (x := .pointer (some ⟨tbs j, 0, none⟩)) (by simp [hj])
   cases e1
   obtain ⟨cl, hcl⟩ := own_row_ty hT7.b.l rfl
   have hlbl : lb' < w7.heap.size := (Array.getElem?_eq_some_iff.1 hcl).1
   obtain ⟨⟨cp, ht, _⟩, hrow⟩ := hT7.b.p.t j hj
   have htl := (Array.getElem?_eq_some_iff.1 ht).1
   refine ⟨lb', rfl, by omega, (cell_heap (k10 _ hlbl)).1.trans h1.c, by omega, (cell_heap (k10 _ htl)).1.trans ?_⟩
   rw [← slice_of hrow]
   simp [World.cell?, ht]
  ·have k11 := hAns.old
   have z11 : w11.heap[w.heap.size]? = some (.cells #[.slice none 0 0, .slice none 0 0, .slice none 0 0, .bool false] 29 (0, 0)) := (k11 _ (by omega) (by omega)).trans ((k10 _ hlt8).trans ht8)
   refine rp_end h11 hAns.o z11 (by omega) fun w12 hw12 hs12 => ?_
   have k12 : ∀ r, r < w7.heap.size → r ≠ w.heap.size → w12.heap[r]? = w7.heap[r]? := fun r hr hne => (hw12 r hne).trans ((k11 r (by omega) (by omega)).trans (k10 r hr))
   refine ⟨s, order, lb, lv, xa, xo, some ⟨g2, 0, none⟩, xc, xoc, cap2, fun j => vaOf (ovs7 j), fun j => vcOf (ovs7 j), by rw [stuck_is], refI_end hT7.r hend, hlb, hlv, ?_, ?_, ?_, fun j hj => ?_, fun r hr => ?_⟩
   ·exact rrow_of (ownsRow_same2 hT7.t.t.row fun b hb _ => by
     obtain ⟨c2, hc2⟩ := own_row_ty hT7.t.t.row hb
     exact k12 b (Array.getElem?_eq_some_iff.1 hc2).1 (heap_ty hc2 ht8 (by decide)))
   ·exact rrow_of (ownsRow_same2 hr10 fun b hb _ => by
     obtain ⟨c2, hc2⟩ := own_row_ty hr10 hb
     exact (hw12 b (heap_ty hc2 ((k10 _ hlt8).trans ht8) (by decide))).trans (k11 b (Array.getElem?_eq_some_iff.1 hc2).1 (heap_ty hc2 ho10 (by decide))))
   ·exact rrow_of (ownsRow_same2 hAns.row fun b hb _ => by
     obtain ⟨c2, hc2⟩ := own_row_ty hAns.row hb
     exact hw12 b (heap_ty hc2 z11 (by decide)))
   ·have hrow := (hT7.b.p.t j hj).row
    have h' : w12.ownsRow 0 46 3 (ovs7 j) (s.th j).ans.length (ansC (s.th j).ans) := ownsRow_same2 hrow fun b hb _ => by
     obtain ⟨c2, hc2⟩ := own_row_ty hrow hb
     exact k12 b (Array.getElem?_eq_some_iff.1 hc2).1 (heap_ty hc2 ht8 (by decide))
    rw [slice_of hrow] at h'
    exact rrow_of h'
   ·exact (k12 r (by omega) (by omega)).trans ((hWold r (by omega)).trans (hWo r hr))
 rcases Nat.eq_zero_or_pos lv.length with h0 | h0
 ·have hlv0 : lv = [] := List.eq_nil_of_length_eq_zero h0
  have hnx : s.q.nx s.q.hd = none := by rw [hlv.head, hlv0]; rfl
  have hcap : 0 < cap := by
   rcases hr9.2 with ⟨e, _⟩ | ⟨_, cap', _, e, _, _, h4, _⟩
   ·cases e
   ·cases e; omega
  refine nrm_seq (rp_17n (lb := lb.length) hcap (fun u hu => values_nil (hQ9.heap hu) (hPI.kc.lt _ hPI.kc.hd) hnx (by omega)) ho9 h9 fun A10 w10 h10 ho10 hs10 hold10 => fin A10 w10 g cap h10 ?_ ?_ (by omega) fun r hr h1 h2 => hold10 r h1)
  ·rw [hlv0]; exact ho10
  ·rw [hlv0]
   exact ownsRow_same2 hr9 fun b hb _ => by
    obtain ⟨c2, hc2⟩ := own_row_ty hr9 hb
    exact hold10 b (heap_ty hc2 ho9 (by decide))
 ·refine nrm_seq (rp_17 (xs := lv.map s.q.vl) (by simpa using h0) (by simp; omega) (fun u hu => (values_ref (hQ9.heap hu) (hPI.kc.lt _ hPI.kc.hd) hlv (by omega) (by omega)).mono fun x w' ⟨ov, e1, e2⟩ => ⟨ov, e1, vals_slice e2 (by simpa using h0)⟩) ho9 hr9 h9 fun A10 w10 g2 cap2 h10 ho10 hr10 hs10 hold10 => fin A10 w10 g2 cap2 h10 (by simpa using ho10) (by simpa using hr10) hs10 hold10)
end
noncomputable section
variable {w w' : World}
theorem RRow.old {a : Option Addr} {xs : List Value} (h : RRow w a xs) (hk : ∀ r, r < w.heap.size → w'.heap[r]? = w.heap[r]?) : RRow w' a xs :=
 ⟨fun k x hx => by
  obtain ⟨b, o, h1, h2⟩ := h.c k x hx
  obtain ⟨c, e, z, ho⟩ := cell_block h2
  have := hk b (Array.getElem?_eq_some_iff.1 ho).1
  exact ⟨b, o, h1, by rw [← h2]; unfold World.cell?; simp only [this]⟩⟩
theorem cell_hp {a : Addr} (e : w'.heap = w.heap) : w'.cell? a = w.cell? a := by simp only [World.cell?, e]
theorem step_callX {P : Program} {ops : Array Oper} {o : Oper} {a : Act} {w : World} {K : Act → World → Prop} {Q : Exit → Act → World → Prop} {E : Prop} (hg : o.guard = none) (f : FuncId) (args : Array Value) (v : Value)
  (hr : (execOp a.eval o).run P w = .ok (.enter f args) w) {R : World → Prop} (hC : Calls P f args w fun e w' => e = .returned v ∧ R w') (hK : ∀ w', R w' → K (a.put o.dst v) w') :
  if Region.wanted o (yielded ops a.tmps) = true then Oper.wp P o a w K Q else E := by
 have hw : Region.wanted o (yielded ops a.tmps) = true := by simp [Region.wanted, hg]
 rw [if_pos hw]
 unfold Oper.wp
 rw [hr, Oper.upon_enter]
 exact hC.mono fun e w' ⟨h1, h2⟩ => by subst h1; exact hK w' h2
theorem callableX36 : Callable 36 := callable Try.func36 rfl rfl
set_option maxHeartbeats 1000000 in
theorem same_trace {aa ba oa oa' sa sa' : Option Addr} {n ac bc oc oc' sc sc' : Nat} {st : Bool} {os ss : List Int} {X : Nat → List (Bool × Int)} {va vb : Nat → Option Addr} {ca cb : Nat → Nat} (hn : n ≤ 64) (hos : os.length < 10000000) (hss : ss.length < 20000000) (hX : ∀ i, i < n → (X i).length < 10000000)
  (h1 : RRow w oa (os.map fun v => .int .i64 v)) (h1' : RRow w oa' (os.map fun v => .int .i64 v)) (h2 : RRow w sa (ss.map fun v => .int .i64 v)) (h2' : RRow w sa' (ss.map fun v => .int .i64 v))
  (h3 : RRow w aa ((List.range n).map fun i => .slice (va i) (X i).length (ca i))) (h3' : RRow w ba ((List.range n).map fun i => .slice (vb i) (X i).length (cb i))) (h4 : ∀ i, i < n → RRow w (va i) (ansC (X i))) (h4' : ∀ i, i < n → RRow w (vb i) (ansC (X i))) :
  CallsB Try.prog Try.f13 #[.agg #[.slice aa n ac, .slice oa os.length oc, .slice sa ss.length sc, .bool st], .agg #[.slice ba n bc, .slice oa' os.length oc', .slice sa' ss.length sc', .bool st]] w fun v w' => v = .bool true ∧ ∀ r, r < w.heap.size → w'.heap[r]? = w.heap[r]? := by
 have A : Aside (RRow w oa (os.map fun v => .int .i64 v) ∧ RRow w oa' (os.map fun v => .int .i64 v) ∧ RRow w sa (ss.map fun v => .int .i64 v) ∧ RRow w sa' (ss.map fun v => .int .i64 v)) := ⟨h1, h1', h2, h2'⟩
 have B : Aside (RRow w aa ((List.range n).map fun i => .slice (va i) (X i).length (ca i)) ∧ RRow w ba ((List.range n).map fun i => .slice (vb i) (X i).length (cb i)) ∧ (∀ i, i < n → RRow w (va i) (ansC (X i))) ∧ (∀ i, i < n → RRow w (vb i) (ansC (X i))) ∧ ∀ i, i < n → (X i).length < 10000000) := ⟨h3, h3', h4, h4', hX⟩
 clear h1 h1' h2 h2' h3 h3' h4 h4' hX
 refine callsB_of rfl ?_
 simp only [Try.ntmps13, List.size_toArray, List.length_cons, List.length_nil, Nat.reduceAdd, Nat.reduceSub, Array.replicate_succ, Array.replicate_zero, List.push_toArray, List.append_toArray, List.nil_append, List.cons_append]
 go_wp2_with (fail)
 generalize hW : (w.alloc (.cells #[.slice aa n ac, .slice oa os.length oc, .slice sa ss.length sc, .bool st] 29)).alloc (.cells #[.slice ba n bc, .slice oa' os.length oc', .slice sa' ss.length sc', .bool st] 29) = W2
 have hWo : ∀ r, r < w.heap.size → W2.heap[r]? = w.heap[r]? := fun r hr => by rw [← hW, heap_alloc_lt _ _ (by simp; omega), heap_alloc_lt _ _ hr]
 have b2 : W2.heap[w.heap.size]? = some (.cells #[.slice aa n ac, .slice oa os.length oc, .slice sa ss.length sc, .bool st] 29 (0, 0)) := by rw [← hW, heap_alloc_lt _ _ (by simp)]; exact heap_alloc_new _ _
 have b3 : W2.heap[w.heap.size + 1]? = some (.cells #[.slice ba n bc, .slice oa' os.length oc', .slice sa' ss.length sc', .bool st] 29 (0, 0)) := by rw [← hW]; exact new_at (by simp) _
 have f2 : ∀ u : World, u.heap = W2.heap → u.cell? ⟨w.heap.size, 0, none⟩ = some (.slice aa n ac) ∧ u.cell? ⟨w.heap.size, 2, none⟩ = some (.slice sa ss.length sc) ∧ u.cell? ⟨w.heap.size, 3, none⟩ = some (.bool st) := fun u hu => by simp [World.cell?, hu, b2]
 have f3 : ∀ u : World, u.heap = W2.heap → u.cell? ⟨w.heap.size + 1, 0, none⟩ = some (.slice ba n bc) ∧ u.cell? ⟨w.heap.size + 1, 2, none⟩ = some (.slice sa' ss.length sc') ∧ u.cell? ⟨w.heap.size + 1, 3, none⟩ = some (.bool st) := fun u hu => by simp [World.cell?, hu, b3]
 have C : Aside ((∀ r, r < w.heap.size → W2.heap[r]? = w.heap[r]?) ∧ (∀ u : World, u.heap = W2.heap → u.cell? ⟨w.heap.size, 0, none⟩ = some (.slice aa n ac) ∧ u.cell? ⟨w.heap.size, 2, none⟩ = some (.slice sa ss.length sc) ∧ u.cell? ⟨w.heap.size, 3, none⟩ = some (.bool st)) ∧ ∀ u : World, u.heap = W2.heap → u.cell? ⟨w.heap.size + 1, 0, none⟩ = some (.slice ba n bc) ∧ u.cell? ⟨w.heap.size + 1, 2, none⟩ = some (.slice sa' ss.length sc') ∧ u.cell? ⟨w.heap.size + 1, 3, none⟩ = some (.bool st)) := ⟨hWo, f2, f3⟩
 clear hW hWo b2 b3 f2 f3
 go_at_call 35
 refine (same_ints (by omega) (A.out.1.old C.out.1) (A.out.2.1.old C.out.1)).mono ?_
 rintro e w1 ⟨rfl, hw1⟩
 have W1 : Aside (w1.heap = W2.heap) := hw1
 obtain ⟨_, g1, _⟩ := C.out.2.1 w1 hw1
 obtain ⟨_, g2, _⟩ := C.out.2.2 w1 hw1
 clear hw1
 go_wp2_with (fail)
 go_at_call 18
 refine (same_numbers (by omega) ((A.out.2.2.1.old C.out.1).heap W1.out) ((A.out.2.2.2.old C.out.1).heap W1.out)).mono ?_
 rintro e w3 ⟨rfl, hw3⟩
 have W3 : Aside (w3.heap = W2.heap) := hw3.trans W1.out
 clear g1 g2
 obtain ⟨_, _, g1⟩ := C.out.2.1 w3 W3.out
 obtain ⟨_, _, g2⟩ := C.out.2.2 w3 W3.out
 clear hw3
 all_goals (
  go_wp2
  clear g1 g2
  go_loopg [5] n (fun g i wr => ∃ k : Nat, k ≤ n ∧ i = .int .i64 k ∧ g = n - k ∧ wr.heap = W2.heap)
  case atStart => exact ⟨0, Nat.zero_le _, rfl, rfl, W3.out⟩
  case round =>
   obtain ⟨k, hk, rfl, rfl, hw⟩ := hrel
   have WR : Aside (wr.heap = W2.heap) := hw
   obtain ⟨g1, _, _⟩ := C.out.2.1 wr hw
   obtain ⟨g2, _, _⟩ := C.out.2.2 wr hw
   rcases Nat.lt_or_ge k n with hlt | hge
   ·obtain ⟨h3, h3', h4, h4', hX⟩ := B.out
    obtain ⟨b1, o1, rfl, e1⟩ := ((h3.old C.out.1).heap hw).c k (.slice (va k) (X k).length (ca k)) (by simp [hlt])
    obtain ⟨b2, o2, rfl, e2⟩ := ((h3'.old C.out.1).heap hw).c k (.slice (vb k) (X k).length (cb k)) (by simp [hlt])
    have hwr : IntKind.i64.wrap ((k : Int) + 1) = (k : Int) + 1 := IntWalk.i64_in _ (by omega)
    have H : Aside (Calls Try.prog 36 #[.slice (va k) (X k).length (ca k), .slice (vb k) (X k).length (cb k)] wr.drew fun x w' => x = .returned (.bool true) ∧ w'.heap = W2.heap) :=
     (same_answers (w := wr.drew) (by have := hX k hlt; omega) (((h4 k hlt).old C.out.1).heap (show wr.drew.heap = W2.heap from hw)) (((h4' k hlt).old C.out.1).heap (show wr.drew.heap = W2.heap from hw))).mono fun x w' h => ⟨h.1, h.2.trans hw⟩
    clear h3 h3' h4 h4' hX hw
    go_wp2
    go_region_law (refine step_callX rfl 36 #[.slice (va k) (X k).length (ca k), .slice (vb k) (X k).length (cb k)] (.bool true) (by simp [execOp, Act.eval, Act.put, resolve, invoke, Deferred.ofValue, callableX36.run]) H.out ?_; intro w4 hw4; have W4 : Aside (w4.heap = W2.heap) := hw4; clear hw4)
    all_goals go_wp2
    all_goals (
     go_roundg (n - (k + 1))
     case measure => omega
     case rel => exact ⟨k + 1, hlt, rfl, rfl, W4.out⟩)
   ·have : k = n := by omega
    subst this
    clear hw
    go_wp2
    go_ret
    exact ⟨_, rfl, rfl, fun r hr => by rw [WR.out]; exact C.out.1 r hr⟩)
end
noncomputable section
variable {P : Program}
theorem wf_E0 (w : World) : Wf F0 w := ⟨fun r z h => by cases h⟩
theorem res_any {fn : Func} {t : Array Value} {w : World} {τ : Tape} {e : Nat} {v : Value} (h : (results fn t).run P (retape w τ e) = .ok v (retape w τ e)) (d : Nat) :
  (results fn t).run P (w.at d) = .ok v (w.at d) ∧ ∀ x ∈ (results fn t).events P (w.at d) #[], EvT F0 x := by
 obtain ⟨w1, es, j, hu, r1, e1, t1, g1, hw1, l1⟩ := (results_sims (P := P) (F := F0) fn t (retape w τ e) (wf_E0 _)).ok (by rw [mask_none (fun _ => rfl)]; exact h)
 rw [mask_none (fun _ => rfl)] at hu
 subst hu
 have hj : j = 0 := by
  have := g1.drawn
  omega
 subst hj
 have h2 := l1 (w.at d).tape (w.at d).drawn (by intro i q hi; omega)
 rw [mask_none (fun _ => rfl)] at h2
 have h3 : (results fn t).run P (w.at d) = .ok v (w.at d) := h2
 refine ⟨h3, fun x hx => ?_⟩
 obtain ⟨w2, es2, j2, hu2, r2, e2, t2, g2, hw2, l2⟩ := (results_sims (P := P) (F := F0) fn t (w.at d) (wf_E0 _)).ok (by rw [mask_none (fun _ => rfl)]; exact h3)
 rw [e2] at hx
 exact t2 x (by simpa using hx)
theorem own_callB {S : FuncId → Bool} (hC : Closed P S true) (hE : NoEarly P) {f : Nat} {fn : Func} {c : Code} (hf : P.funcs[f]? = some fn) (hb : fn.body = some c) (hc : codeOk P S true c = true) {args : Array Value} {w : World} {R : Value → World → Prop}
  (H : ∀ τ e, CallsB P fn args (retape w τ e) R) {cl : Frame} {cs : List Frame} {main : Bool} {Stop : Goroutine → World → Prop}
  (K : ∀ v w' τ e, R v (retape w' τ e) → Gd F0 w w' → Own P main F0 Stop (G (cl.finish v) cs) w') : Own P main F0 Stop (G (Frame.enter P f args .normal) (cl :: cs)) w := by
 let b : Frame := { (default : Frame) with fn := f, kind := .normal }
 have henter : Frame.enter P f args .normal = b.at { tmps := args ++ Array.replicate (fn.ntmps - args.size) undef, defers := [] } [.code c] := by
  simp [Frame.enter, Frame.at, hf, hb, b]
 rw [henter]
 have back : ∀ (a' : Act) (w' : World) (t' : List Item) (τ : Tape) (e : Nat), a'.defers = [] → (∃ v, (results fn a'.tmps).run P (retape (mask F0 w') τ e) = .ok v (retape (mask F0 w') τ e) ∧ ∃ v', Ending.returned v = .returned v' ∧ R v' (retape (mask F0 w') τ e)) → Gd F0 w w' →
   Own P main F0 Stop (G { b.at a' t' with mode := .returning } (cl :: cs)) w' := fun a' w' t' τ e hd ⟨v, h1, v', h2, h3⟩ hg => by
  cases h2
  rw [mask_none (fun _ => rfl)] at h1 h3
  exact own_leave rfl hd hf (fun d => (res_any h1 d).1) (fun d x hx => (res_any h1 d).2 x hx) (K _ _ τ e h3 hg)
 refine lift (Q := bodyPost P fn fun x w' => ∃ v, x = .returned v ∧ R v w') hC (fun _ _ => rfl) hE hc (wf_E0 w) rfl (fun e a w hq => ?_) (fun τ e => ?_) (by simp [b]) (fun a' w' τ e hq _ hg => ?_) (fun a' w' τ e t' hq _ hg => ?_)
 ·cases e with
  | normal => exact .inl rfl
  | ret => exact .inr ⟨rfl, hq.1⟩
  | panic ch => obtain ⟨_, v, h, _⟩ := hq; cases h
  | outgrown => obtain ⟨v, h, _⟩ := hq; cases h
  | exit _ => exact hq.elim
  | goto _ => exact hq.elim
 ·rw [mask_none (fun _ => rfl)]
  exact H τ e c hb
 ·obtain ⟨hd, h⟩ := hq
  have : b.at a' [] = b.at ⟨a'.tmps, []⟩ [] := by rw [← hd]
  rw [this]
  refine own_go rfl (fun d => stepG_end) ?_
  exact back ⟨a'.tmps, []⟩ w' [] τ e rfl h hg
 ·obtain ⟨hd, h⟩ := hq
  exact back a' w' _ τ e hd h hg
end
noncomputable section
variable {An : Anchor} {W w w' : World}
def S0l : List Nat := [13, 15, 17, 18, 19, 20, 24, 35, 36, 40, 41, 42, 43, 44, 45, 46, 48, 49, 50, 64]
def S0 (f : FuncId) : Bool := S0l.contains f
def codeOkF (P : Program) (S : FuncId → Bool) (f : FuncId) : Bool := match P.funcs[f]? with
 | some fn => !(fn.name == "runtime.NumGoroutine") && match fn.body with
  | some c => codeOk P S true c
  | none => false
 | none => false
theorem codeOkF_all : S0l.all (codeOkF Try.prog S0) = true := by kernel_rfl
theorem codeOkF_of {P : Program} {S : FuncId → Bool} {f : FuncId} (h : codeOkF P S f = true) : ∃ fn, P.funcs[f]? = some fn ∧ (fn.name == "runtime.NumGoroutine") = false ∧ ∃ c, fn.body = some c ∧ codeOk P S true c = true := by
 unfold codeOkF at h
 split at h
 ·rename_i fn hf
  rw [Bool.and_eq_true] at h
  obtain ⟨h1, h2⟩ := h
  split at h2
  ·rename_i c hc
   exact ⟨fn, hf, by simpa using h1, c, hc, h2⟩
  ·cases h2
 ·cases h
theorem closed0 : Closed Try.prog S0 true := fun f hf => by
 obtain ⟨fn, h1, h2, c, h3, h4⟩ := codeOkF_of (List.all_eq_true.1 codeOkF_all f (List.contains_iff_mem.1 hf))
 exact ⟨fn, h1, h2, .inl ⟨c, h3, h4⟩⟩
theorem own_callS {f : Nat} (hS : S0 f = true) {fn : Func} (hf : Try.prog.funcs[f]? = some fn) {args : Array Value} {R : Value → World → Prop}
  (H : ∀ τ e, CallsB Try.prog fn args (retape w τ e) R) {cl : Frame} {cs : List Frame} {main : Bool} {Stop : Goroutine → World → Prop}
  (K : ∀ v w' τ e, R v (retape w' τ e) → Gd F0 w w' → Own Try.prog main F0 Stop (G (cl.finish v) cs) w') : Own Try.prog main F0 Stop (G (Frame.enter Try.prog f args .normal) (cl :: cs)) w := by
 obtain ⟨fn', h1, h2, c, h3, h4⟩ := codeOkF_of (List.all_eq_true.1 codeOkF_all f (List.contains_iff_mem.1 hS))
 rw [hf] at h1
 cases h1
 exact own_callB closed0 prog_late hf h3 h4 H K
theorem OpsIn.kept {N : Nat → Prop} {n tb o tl : Nat} {ta : Option Addr} {oa : Nat → Option Addr} {ol oc : Nat → Nat} {ops : Nat → List Op4} {S : List Int} {sa : Option Addr} (h : OpsIn w N n tb o tl ta oa ol oc ops S sa) (hs : w.heap.size ≤ w'.heap.size)
  (hold : ∀ (r : Nat) (c : Array Value) (e : TypeId) (z : Nat × Nat), w.heap[r]? = some (.cells c e z) → w'.heap[r]? = some (.cells c e z)) : OpsIn w' N n tb o tl ta oa ol oc ops S sa := by
 have hc : ∀ {a : Addr} {v : Value}, w.cell? a = some v → w'.cell? a = some v ∧ w'.frozen? a = w.frozen? a := fun {a v} h => by
  obtain ⟨c, e, z, ho⟩ := cell_block h
  have e1 : w'.heap[a.block]? = w.heap[a.block]? := (hold _ _ _ _ ho).trans ho.symm
  exact ⟨by rw [← h]; unfold World.cell?; simp only [e1], by unfold World.frozen?; simp only [e1]⟩
 refine ⟨h.hn, h.hta, fun hp => by have := h.htb hp; omega, fun j hj => ?_, h.hlen, fun j hj k x hx => ?_, h.hsl, fun hp => ?_⟩
 ·obtain ⟨h1, h2, h3⟩ := h.hth j hj
  exact ⟨(hc h1).1, (hc h1).2.trans h2, h3⟩
 ·obtain ⟨opb, oo, h1, h2, f0, f1, f2, f3, g0, g1, g2, g3⟩ := h.hop j hj k x hx
  exact ⟨opb, oo, h1, h2, (hc f0).1, (hc f1).1, (hc f2).1, (hc f3).1, (hc f0).2.trans g0, (hc f1).2.trans g1, (hc f2).2.trans g2, (hc f3).2.trans g3⟩
 ·obtain ⟨sb, so, c, e, z, h1, h2, h3, h4⟩ := h.hS hp
  exact ⟨sb, so, c, e, z, h1, h2, hold _ _ _ _ h3, h4⟩
theorem cell_kept (hold : ∀ (r : Nat) (c : Array Value) (e : TypeId) (z : Nat × Nat), w.heap[r]? = some (.cells c e z) → w'.heap[r]? = some (.cells c e z)) {a : Addr} {v : Value} (h : w.cell? a = some v) : w'.cell? a = some v ∧ w'.frozen? a = w.frozen? a := by
 obtain ⟨c, e, z, ho⟩ := cell_block h
 have e1 : w'.heap[a.block]? = w.heap[a.block]? := (hold _ _ _ _ ho).trans ho.symm
 exact ⟨by rw [← h]; unfold World.cell?; simp only [e1], by unfold World.frozen?; simp only [e1]⟩
theorem pTurn_le {ops : Nat → List Op4} {n M : Nat} {s : PS × List Nat} (h : s.2.length ≤ M) (i : Int) : (pTurn ops n M s i).2.length ≤ M := by
 unfold pTurn
 split
 ·rename_i hc
  have := hc.2.2.2
  simp only [List.length_append, List.length_cons, List.length_nil]
  omega
 ·exact h
theorem pTurns_le {ops : Nat → List Op4} {n M : Nat} : ∀ (l : List Int) (s : PS × List Nat), s.2.length ≤ M → (pTurns ops n M l s).2.length ≤ M
 | [], _, h => h
 | i :: l, _, h => pTurns_le l _ (pTurn_le h i)
theorem pRounds_le {ops : Nat → List Op4} {n M : Nat} : ∀ (f : Nat) (s : PS × List Nat), s.2.length ≤ M → (pRounds ops n M f s).2.length ≤ M
 | 0, _, h => h
 | f + 1, s, h => by
  unfold pRounds
  split
  ·exact h
  ·exact pRounds_le f _ (pTurns_le _ _ h)
theorem pOver_le {ops : Nat → List Op4} {n M : Nat} {S : List Int} {f : Nat} {s : PS} : (pOver ops n M S f s).2.length ≤ M := pRounds_le _ _ (pTurns_le _ _ (Nat.zero_le _))
set_option maxHeartbeats 1000000 in
theorem bes_plays {vs : List Int} {va : Option Addr} {vb vo vc : Nat} (hlen : vs.length < 5000000) (hva : 0 < vs.length → va = some ⟨vb, vo, none⟩) (hvb : 0 < vs.length → vb < W.heap.size) (hv : ∀ k v, vs[k]? = some v → W.cell? ⟨vb, vo + k, none⟩ = some (.int .i64 v) ∧ W.frozen? ⟨vb, vo + k, none⟩ = false)
  {n tb o tl tc sc M : Nat} {mo : Int} {ta sa : Option Addr} {oa : Nat → Option Addr} {ol oc : Nat → Nat} {ops : Nat → List Op4} {S : List Int} (hI : OpsIn W (fun _ => False) n tb o tl ta oa ol oc ops S sa) (htl : tl < 1000000000000) (hol : ∀ j, j < n → ol j < 1000000000000) (hM : min (max mo 0) 1048576 = (M : Int)) :
  Bes An Try.prog (LawStop An (LawPost W)) (G (Frame.enter Try.prog 3 #[.slice va vs.length vc, .slice ta tl tc, .slice sa S.length sc, .int .i64 mo] .normal) []) W := by
 have hn64 : n ≤ 64 := by have := hI.hn; omega
 have hops : ∀ j, j < n → (ops j).length ≤ 65536 := fun j hj => by have := hI.hlen j hj; omega
 refine bes_own (F := F0) (Stop := fun a u => ∃ A d, Slots 22 A [(0, .slice va vs.length vc), (1, .slice ta tl tc), (2, .slice sa S.length sc), (3, .int .i64 mo)] ∧ u = W.at d ∧ a = G (Frame.enter Try.prog 12 #[] .normal) [(Go.Conc.base 3).at ⟨A, []⟩ [.inRegion qpo1 [0, 1], .code qpc10, .code qps4]])
  (qp_0 fun A hA => .stop fun d => ⟨A, d, hA, rfl, rfl⟩) fun a u ⟨A, d, hA, hu, ha⟩ => ?_
 subst ha
 refine bes_awake fun w1 hs hold => ?_
 have hold1 : ∀ (r : Nat) (c : Array Value) (e : TypeId) (z : Nat × Nat), W.heap[r]? = some (.cells c e z) → w1.heap[r]? = some (.cells c e z) := fun r c e z h => hold r c e z (by rw [hu]; exact h)
 have hs1 : W.heap.size ≤ w1.heap.size := by rw [hu] at hs; exact hs
 refine bes_own (F := F0) (Stop := fun a u => ∃ A d, Slots 22 A [(0, .slice va vs.length vc), (1, .slice ta tl tc), (2, .slice sa S.length sc), (3, .int .i64 mo)] ∧ u = w1.at d ∧ a = G (Frame.enter Try.prog 14 #[.slice va vs.length vc, .slice ta tl tc, .slice sa S.length sc, .int .i64 mo] .normal) [(Go.Conc.base 3).at ⟨A, []⟩ [.inRegion qpo3 [4, 5, 6, 7, 8, 9, 10, 11], .code .ret]])
  (qp_1 hA fun A hA => .stop fun d => ⟨A, d, hA, rfl, rfl⟩) fun a u ⟨A2, d2, hA2, hu2, ha⟩ => ?_
 subst ha
 subst hu2
 have hI1 : OpsIn w1 (fun _ => False) n tb o tl ta oa ol oc ops S sa := hI.kept hs1 hold1
 have hv1 : ∀ k v, vs[k]? = some v → w1.cell? ⟨vb, vo + k, none⟩ = some (.int .i64 v) ∧ w1.frozen? ⟨vb, vo + k, none⟩ = false := fun k v h => by
  obtain ⟨h1, h2⟩ := hv k v h
  have := cell_kept hold1 h1
  exact ⟨this.1, this.2.trans h2⟩
 refine bes_play (w := w1.at d2) (by omega) hva (fun h => Nat.lt_of_lt_of_le (hvb h) hs1) hv1 (hI1.kept (w' := w1.at d2) (Nat.le_refl _) fun r c e z h => h) hM fun s order hd hover => ?_
 obtain ⟨lb, lv, hPb, hPv, hlb, hlv⟩ := run_paths hlen hn64 hops hover
 refine ⟨lb, lv, hPb, hPv, hlb, hlv, fun aa oa' oc' xa xc w2 hU => ?_⟩
 refine bes_own (F := F0) (Stop := LawStop An (LawPost W)) ?_ fun a u h => Bes.stop h
 refine qp_2 hA2 fun A3 hA3 => ?_
 have hs2 : w1.heap.size ≤ w2.heap.size := hU.size
 have hold2 : ∀ (r : Nat) (c : Array Value) (e : TypeId) (z : Nat × Nat), w1.heap[r]? = some (.cells c e z) → w2.heap[r]? = some (.cells c e z) := hU.old
 have hI2 := hI1.kept hs2 hold2
 refine own_callS (f := 15) rfl Try.func15 (R := RefOut w2 ops n M S vs) (fun τ e => show CallsB Try.prog Try.f15 _ (retape w2 τ e) (RefOut (retape w2 τ e) ops n M S vs) from play_ref (w := retape w2 τ e) hlen hva (fun h => Nat.lt_of_lt_of_le (hvb h) (Nat.le_trans hs1 hs2)) (fun k v h => (cell_kept hold2 (hv1 k v h).1).1) (hI2.kept (w' := retape w2 τ e) (Nat.le_refl _) fun r c e z h => h) htl hol hM) fun v w3 τ e hR hg => ?_
 obtain ⟨s2, order2, lb2, lv2, xa2, oa2, sa2, xc2, oc2, sc2, va2, vc2, rfl, hov2, hpb2, hpv2, r1, r2, r3, r4, hk⟩ := hR
 have e12 : (s2, order2) = (s, order) := by
  obtain ⟨k1, hk1⟩ := hover
  obtain ⟨k2, hk2⟩ := hov2
  exact (hk2 (max k1 k2) (Nat.le_max_right _ _)).symm.trans (hk1 (max k1 k2) (Nat.le_max_left _ _))
 cases e12
 obtain rfl := hPb.det hpb2
 obtain rfl := hPv.det hpv2
 have hk3 : ∀ r, r < w2.heap.size → w3.heap[r]? = w2.heap[r]? := hk
 refine qp_3 hA3 fun A4 hA4 => ?_
 obtain ⟨ca, hca, hcs, hci⟩ := hU.arr
 have hci2 : ∀ i, i < n → ca[i]? = some (.slice (vaOf (ca.getD i undef)) (s.th i).ans.length (vcOf (ca.getD i undef))) ∧ (s.th i).ans.length ≤ 65536 ∧ RRow w2 (vaOf (ca.getD i undef)) (ansC (s.th i).ans) := fun i hi => by
  obtain ⟨v, h1, h2, h3⟩ := hci i hi
  have hv : ca.getD i undef = v := by simp [Array.getD_eq_getD_getElem?, h1]
  have h4 := slice_of h3
  rw [hv]
  exact ⟨by rw [h1, ← h4], h2, rrow_of (h4 ▸ h3)⟩
 have el : (order.map fun i : Nat => (i : Int)).length = order.length := List.length_map _
 have el2 : ((lb.length : Int) :: lv.map s.q.vl).length = 1 + lv.length := by simp; omega
 have eo : ((order.map fun i : Nat => (i : Int)).map fun v => Value.int .i64 v) = order.map fun i : Nat => .int .i64 i := by rw [List.map_map]; rfl
 have ev : (((lb.length : Int) :: lv.map s.q.vl).map fun v => Value.int .i64 v) = .int .i64 lb.length :: (lv.map s.q.vl).map fun v => .int .i64 v := rfl
 have hol1 : order.length < 10000000 := by
  obtain ⟨k, hk⟩ := hover
  have e := hk k (Nat.le_refl _)
  have := pOver_le (ops := ops) (n := n) (M := M) (S := S) (f := k) (s := q00 vs)
  rw [e] at this
  simp only at this
  omega
 refine own_callS (f := 13) rfl Try.func13 (R := fun v w' => v = .bool true ∧ ∀ r, r < w3.heap.size → w'.heap[r]? = w3.heap[r]?) (fun τ e => ?_) fun v w4 τ e ⟨hv, hk4⟩ hg => ?_
 ·rw [← el, ← el2]
  refine same_trace (w := retape w3 τ e) (X := fun i => (s.th i).ans) (va := fun i => vaOf (ca.getD i undef)) (ca := fun i => vcOf (ca.getD i undef)) hn64 (by rw [el]; exact hol1) (by rw [el2]; omega) (fun i hi => by have := (hci2 i hi).2.1; omega) ?_ ?_ ?_ ?_ ?_ (r3.heap rfl) (fun i hi => (hci2 i hi).2.2.old hk3) (fun i hi => (r4 i hi).heap rfl)
  ·rw [eo]; exact (rrow_of hU.ord).old hk3
  ·rw [eo]; exact r1.heap rfl
  ·have h := hU.st
   rw [List.length_map] at h
   exact (rrow_of h).old hk3
  ·exact r2.heap rfl
  ·refine RRow.old (w := w2) ⟨fun k x hx => ?_⟩ hk3
   obtain ⟨hkn, rfl⟩ : k < n ∧ Value.slice (vaOf (ca.getD k undef)) (s.th k).ans.length (vcOf (ca.getD k undef)) = x := by
    rw [List.getElem?_map, Option.map_eq_some_iff] at hx
    obtain ⟨j, hj, rfl⟩ := hx
    have hjn := (List.getElem?_eq_some_iff.1 hj).1
    rw [List.length_range] at hjn
    rw [List.getElem?_range hjn] at hj
    cases hj
    exact ⟨hjn, rfl⟩
   exact ⟨aa, 0, rfl, by rw [Nat.zero_add]; simpa [World.cell?, hca] using (hci2 k hkn).1⟩
 ·subst hv
  refine qp_4 hA4 fun A5 hA5 => .stop fun d => law_stop Try.func3 rfl (by decide) hA5.2.1 fun r c e z h => ?_
  have h2 := hold2 _ _ _ _ (hold1 _ _ _ _ h)
  have hlt := (Array.getElem?_eq_some_iff.1 h2).1
  have h3 := (hk3 r hlt).trans h2
  exact (hk4 r (Array.getElem?_eq_some_iff.1 h3).1).trans h3
end
noncomputable section
open Go.ChangeShapes Go.WideShapes Go.ChangeAt
theorem bulk_one {H : Type} (d : DataW H) : 1 ≤ Rows.uptoBulk d := by
 cases d with
 | lit l => cases l <;> simp [Rows.uptoBulk]
 | nil => simp [Rows.uptoBulk]
 | ptr d => simp [Rows.uptoBulk]
 | slice elems spare => simp [Rows.uptoBulk]
 | agg parts => simp [Rows.uptoBulk]
 | iface t d => simp [Rows.uptoBulk]
 | map entries => simp [Rows.uptoBulk]
 | held h => simp [Rows.uptoBulk]
theorem bulk_part {H : Type} {d : DataW H} {l : List (DataW H)} (h : d ∈ l) : Rows.uptoBulk d ≤ Rows.uptoBulkAll l := by
 induction l with
 | nil => cases h
 | cons x r ih =>
  simp only [Rows.uptoBulkAll]
  cases List.mem_cons.1 h with
  | inl e => subst e; omega
  | inr e => have := ih e; omega
theorem bulk_length {H : Type} (l : List (DataW H)) : l.length ≤ Rows.uptoBulkAll l := by
 induction l with
 | nil => simp [Rows.uptoBulkAll]
 | cons x r ih => have := bulk_one x; simp only [Rows.uptoBulkAll, List.length_cons]; omega
theorem bulk_slice {H : Type} (elems spare : List (DataW H)) : elems.length ≤ Rows.uptoBulk (.slice elems spare) ∧ ∀ d ∈ elems, Rows.uptoBulk d ≤ Rows.uptoBulk (.slice elems spare) := by
 have h1 := bulk_length elems
 simp only [Rows.uptoBulk]
 exact ⟨by omega, fun d hd => by have := bulk_part hd; omega⟩
section
variable {H : Type} {enc : TypeId × Value → H} {W : World}
theorem cell_in {a : Addr} {v : Value} (h : W.cell? a = some v) : ∃ c e z, W.heap[a.block]? = some (.cells c e z) ∧ c[a.off]? = some v := by
 unfold World.cell? at h
 split at h
 ·rename_i c e z ho
  split at h
  ·cases h
  ·exact ⟨c, e, z, ho, h⟩
 ·cases h
theorem frozen_in {b o : Nat} {c : Array Value} {e : TypeId} {z : Nat × Nat} (h : W.heap[b]? = some (.cells c e z)) (hf : W.frozen? ⟨b, o, none⟩ = false) : (decide (z.1 ≤ o) && decide (o < z.2)) = false := by
 simpa [World.frozen?, h] using hf
theorem ints_in {t e : TypeId} (ht : Try.prog.underlying t = some (.slice e)) (he : Try.prog.underlying e = some (.int .i64)) (hc : Try.prog.cellsOf e = 1) {v : Value} {d : DataW H} {p : List MemPlace} (hv : Value.okWide Try.prog W .any W.heap.size t v)
  (h : DataW.Trod enc Try.prog W 0 (fun _ => true) true t v d p) (hz : W.noneFrozen p) (hl : ∀ x ∈ p, x.block < W.heap.size) :
  ∃ (a : Option Addr) (vs : List Int) (c b o : Nat), v = .slice a vs.length c ∧ vs.length ≤ Rows.uptoBulk d ∧ (0 < vs.length → a = some ⟨b, o, none⟩ ∧ b < W.heap.size ∧ ∃ c e z, W.heap[b]? = some (.cells c e z) ∧ ∀ (k : Nat) (u : Int), vs[k]? = some u →
   c[o + k]? = some (.int .i64 u) ∧ (decide (z.1 ≤ o + k) && decide (o + k < z.2)) = false ∧ W.cell? ⟨b, o + k, none⟩ = some (.int .i64 u) ∧ W.frozen? ⟨b, o + k, none⟩ = false) := by
 obtain ⟨fuel, hf⟩ := h
 obtain ⟨a0, l0, c0, rfl⟩ := okWide_slice ht hv
 rcases open_ints ht he hc hf with ⟨h1, h2⟩ | ⟨a, len, cap, zs, h1, hb, hlc, _, hzl, h2, h3, _⟩
 ·simp [Value.cells] at h1
  obtain ⟨rfl, rfl, rfl⟩ := h1
  exact ⟨none, [], 0, 0, 0, rfl, Nat.zero_le _, fun h => by simp at h⟩
 ·simp only [if_true] at hzl
  simp [Value.cells] at h1
  obtain ⟨rfl, rfl, rfl⟩ := h1
  simp only [Prod.mk.injEq] at h2
  obtain ⟨rfl, rfl⟩ := h2
  have el : (zs.take l0).length = l0 := by simp; omega
  refine ⟨some a, zs.take l0, c0, a.block, a.off, by rw [el], ?_, fun hp => ?_⟩
  ·have := (bulk_slice (H := H) (lits .i64 (zs.take l0)) (lits .i64 (zs.drop l0))).1
   simpa [lits] using this
  ·rw [el] at hp
   obtain ⟨b, o, spot⟩ := a
   have hs : spot = none := by
    have := World.cell?_spot (h3 0 (by omega))
    simpa [Addr.add] using this
   subst hs
   have hc0 := h3 0 (by omega)
   rw [add_plain] at hc0
   obtain ⟨c, e', z, ho, _⟩ := cell_in hc0
   have hfr : ∀ k, k < zs.length → W.frozen? ⟨b, o + k, none⟩ = false := fun k hk => hz b (o + k) (by simp only [MemPlace.row, List.mem_map, List.mem_range]; exact ⟨k, hk, rfl⟩)
   refine ⟨rfl, (Array.getElem?_eq_some_iff.1 ho).1, c, e', z, ho, fun k u hk => ?_⟩
   have hkl := (List.getElem?_eq_some_iff.1 hk).1
   rw [el] at hkl
   have hu : zs.getD k 0 = u := by
    rw [List.getElem?_take_of_lt hkl] at hk
    simp [List.getD, hk]
   have hck := h3 k (by omega)
   rw [add_plain, hu] at hck
   obtain ⟨c', e2, z', ho', hcc⟩ := cell_in hck
   rw [ho] at ho'
   cases ho'
   exact ⟨hcc, frozen_in ho (hfr k (by omega)), hck, hfr k (by omega)⟩
theorem cells44 : Try.prog.cellsOf 44 = 4 := by kernel_rfl
theorem cells32 : Try.prog.cellsOf 32 = 1 := by kernel_rfl
theorem cells2 : Try.prog.cellsOf 2 = 1 := by kernel_rfl
theorem cells3 : Try.prog.cellsOf 3 = 1 := by kernel_rfl
structure OpLies (W : World) (b o : Nat) (x : Op4) : Prop where
 f0 : W.cell? ⟨b, o, none⟩ = some (.int .i64 x.kd)
 f1 : W.cell? ⟨b, o + 1, none⟩ = some (.int .i64 x.a)
 f2 : W.cell? ⟨b, o + 2, none⟩ = some (.int .i64 x.b)
 f3 : W.cell? ⟨b, o + 3, none⟩ = some (.int .i64 x.c)
 g0 : W.frozen? ⟨b, o, none⟩ = false
 g1 : W.frozen? ⟨b, o + 1, none⟩ = false
 g2 : W.frozen? ⟨b, o + 2, none⟩ = false
 g3 : W.frozen? ⟨b, o + 3, none⟩ = false
instance : Inhabited Op4 := ⟨⟨0, 0, 0, 0⟩⟩
theorem ops_in {v : Value} {fuel : Nat} {d : DataW H} {p : List MemPlace} (h : DataW.trod enc Try.prog W 0 (fun _ => true) true fuel 32 [v] = some (d, p)) (hz : W.noneFrozen p) :
  ∃ (a : Option Addr) (l c b o : Nat) (X : Nat → Op4), v = .slice a l c ∧ l ≤ c ∧ l ≤ Rows.uptoBulk d ∧ ∀ k, k < l → a = some ⟨b, o, none⟩ ∧ OpLies W b (o + k * 4) (X k) := by
 rcases Deep.open_slice Try.underlying32 h with ⟨h1, h2⟩ | ⟨a, len, cap, m, n, D, Pl, h1, hb, hlc, _, hm, h2, hx⟩
 ·cases h1
  exact ⟨none, 0, 0, 0, 0, fun _ => default, rfl, Nat.le_refl _, Nat.zero_le _, fun k hk => by omega⟩
 ·simp only [if_true] at hm
  subst hm
  cases h1
  simp only [Prod.mk.injEq] at h2
  obtain ⟨rfl, rfl⟩ := h2
  rw [cells44] at hx hz
  have hsp : 0 < len → a.spot = none := fun hp => by
   obtain ⟨cs', e1, _⟩ := hx 0 (by omega)
   obtain ⟨_, _, hcell⟩ := World.cells?_some e1
   have h0 := hcell 0 (by omega)
   rw [List.getElem?_eq_getElem (by omega)] at h0
   have := World.cell?_spot h0
   simpa [Addr.add] using this
  have each : ∀ k, k < len → ∃ x : Op4, ∃ b o, a = ⟨b, o, none⟩ ∧ OpLies W b (o + k * 4) x := fun k hk => by
   obtain ⟨cs', e1, e2⟩ := hx k (by omega)
   obtain ⟨_, hlen, hcell⟩ := World.cells?_some e1
   obtain ⟨xs, n', hk', hxy, _, hxl, hf⟩ := DataW.trod_struct Try.underlying44 e2
   match xs, hxl, cs', hlen with
   | [y0, y1, y2, y3], _, [v0, v1, v2, v3], _ =>
    have q0 := hf 0 _ rfl
    have q1 := hf 1 _ rfl
    have q2 := hf 2 _ rfl
    have q3 := hf 3 _ rfl
    simp [cells2, cells3] at q0 q1 q2 q3
    obtain ⟨n0, r0, _, _⟩ := DataW.trod_int Try.underlying3 q0
    obtain ⟨n1, r1, _, _⟩ := DataW.trod_int Try.underlying2 q1
    obtain ⟨n2, r2, _, _⟩ := DataW.trod_int Try.underlying2 q2
    obtain ⟨n3, r3, _, _⟩ := DataW.trod_int Try.underlying2 q3
    cases r0
    cases r1
    cases r2
    cases r3
    obtain ⟨b, o, spot⟩ := a
    have c0 := hcell 0 (by omega)
    have c1 := hcell 1 (by omega)
    have c2 := hcell 2 (by omega)
    have c3 := hcell 3 (by omega)
    have hs : spot = none := hsp (by omega)
    subst hs
    rw [add_plain, add_plain] at c0 c1 c2 c3
    have hfr : ∀ j, j < m * 4 → W.frozen? ⟨b, o + j, none⟩ = false := fun j hj => hz b (o + j) (List.mem_append_left _ (by simp only [MemPlace.row, List.mem_map, List.mem_range]; exact ⟨j, hj, rfl⟩))
    exact ⟨⟨n0, n1, n2, n3⟩, b, o, rfl, c0, c1, c2, c3, hfr _ (by omega), by rw [Nat.add_assoc]; exact hfr _ (by omega), by rw [Nat.add_assoc]; exact hfr _ (by omega), by rw [Nat.add_assoc]; exact hfr _ (by omega)⟩
  obtain ⟨X, hX⟩ := Deep.choose_lt each
  refine ⟨some a, len, m, a.block, a.off, X, rfl, hlc, ?_, fun k hk => ?_⟩
  ·have := (bulk_slice (H := H) ((List.range len).map D) ((List.range (m - len)).map fun j => D (len + j))).1
   simpa using this
  ·obtain ⟨b, o, rfl, hh⟩ := hX k hk
   exact ⟨rfl, hh⟩
theorem threads_in {v : Value} {d : DataW H} {p : List MemPlace} (hv : Value.okWide Try.prog W .any W.heap.size 23 v) (h : DataW.Trod enc Try.prog W 0 (fun _ => true) true 23 v d p) (hz : W.noneFrozen p) :
  ∃ (a : Option Addr) (tl tc b o : Nat) (oa : Nat → Option Addr) (ol oc : Nat → Nat) (ops : Nat → List Op4), v = .slice a tl tc ∧ tl ≤ Rows.uptoBulk d ∧ (∀ j, j < tl → ol j ≤ Rows.uptoBulk d) ∧
   ∀ (S : List Int) (sa : Option Addr), S.length < 10000000 → (0 < S.length → ∃ sb so c e z, sa = some ⟨sb, so, none⟩ ∧ W.heap[sb]? = some (.cells c e z) ∧ ∀ (k : Nat) (u : Value), (S.map fun i : Int => Value.int .i64 i)[k]? = some u → c[so + k]? = some u ∧ (decide (z.1 ≤ so + k) && decide (so + k < z.2)) = false) →
    OpsIn W (fun _ => False) (min tl 64) b o tl a oa ol oc ops S sa := by
 obtain ⟨fuel, hf⟩ := h
 obtain ⟨a0, l0, c0, rfl⟩ := okWide_slice Try.underlying23 hv
 rcases Deep.open_slice1 Try.underlying23 cells32 hf with ⟨h1, h2⟩ | ⟨a, len, cap, m, n, V, D, Pl, h1, hb, hlc, _, hm, h2, hx⟩
 ·simp [Value.cells] at h1
  obtain ⟨rfl, rfl, rfl⟩ := h1
  refine ⟨none, 0, 0, 0, 0, fun _ => none, fun _ => 0, fun _ => 0, fun _ => [], rfl, Nat.zero_le _, fun j hj => by omega, fun S sa hl hS => ⟨rfl, fun h => by simp at h, fun h => by simp at h, fun j hj => by simp at hj, fun j hj => by simp at hj, fun j hj => by simp at hj, hl, fun hp => ?_⟩⟩
  obtain ⟨sb, so, c, e, z, e1, e2, e3⟩ := hS hp
  exact ⟨sb, so, c, e, z, e1, fun h => h, e2, e3⟩
 ·simp only [if_true] at hm
  subst hm
  simp [Value.cells] at h1
  obtain ⟨rfl, rfl, rfl⟩ := h1
  simp only [Prod.mk.injEq] at h2
  obtain ⟨rfl, rfl⟩ := h2
  have each : ∀ j, j < l0 → ∃ q : Option Addr × Nat × Nat × Nat × Nat × (Nat → Op4), V j = .slice q.1 q.2.1 q.2.2.1 ∧ q.2.1 ≤ q.2.2.1 ∧ q.2.1 ≤ Rows.uptoBulk (D j) ∧ ∀ k, k < q.2.1 → q.1 = some ⟨q.2.2.2.1, q.2.2.2.2.1, none⟩ ∧ OpLies W q.2.2.2.1 (q.2.2.2.2.1 + k * 4) (q.2.2.2.2.2 k) := fun j hj => by
   obtain ⟨x1, x2, x3, x4, x5, x6, e1, e2, e3, e4⟩ := ops_in (hx j (by omega)).2 (fun b o hm => hz b o (List.mem_append_right _ (List.mem_flatMap.2 ⟨j, List.mem_range.2 (by omega), hm⟩)))
   exact ⟨⟨x1, x2, x3, x4, x5, x6⟩, e1, e2, e3, e4⟩
  obtain ⟨q, hq⟩ := Deep.choose_lt each
  have hbs := bulk_slice (H := H) ((List.range l0).map D) ((List.range (c0 - l0)).map fun j => D (l0 + j))
  refine ⟨some a, l0, c0, a.block, a.off, fun j => (q j).1, fun j => (q j).2.1, fun j => (q j).2.2.1, fun j => (List.range (min (q j).2.1 65536)).map (q j).2.2.2.2.2, rfl, by simpa using hbs.1, fun j hj => Nat.le_trans (hq j hj).2.2.1 (hbs.2 _ (List.mem_map.2 ⟨j, List.mem_range.2 hj, rfl⟩)), fun S sa hl hS => ?_⟩
  have hsp : 0 < l0 → a = ⟨a.block, a.off, none⟩ := fun hp => by
   obtain ⟨b, o, spot⟩ := a
   have hs : spot = none := by
    have := World.cell?_spot (hx 0 (by omega)).1
    simpa [Addr.add] using this
   subst hs
   rfl
  have hcell : ∀ j, j < l0 → W.cell? ⟨a.block, a.off + j, none⟩ = some (.slice (q j).1 (q j).2.1 (q j).2.2.1) := fun j hj => by
   have := (hx j (by omega)).1
   rw [hsp (by omega), add_plain, (hq j hj).1] at this
   exact this
  refine ⟨rfl, fun hp => by rw [← hsp (by omega)], fun hp => ?_, fun j hj => ⟨hcell j (by omega), ?_, (hq j (by omega)).2.1⟩, fun j hj => by simp, fun j hj k x hk => ?_, hl, fun hp => ?_⟩
  ·obtain ⟨c, e, z, ho, _⟩ := cell_in (hcell 0 (by omega))
   exact (Array.getElem?_eq_some_iff.1 ho).1
  ·exact hz a.block (a.off + j) (List.mem_append_left _ (by simp only [MemPlace.row, List.mem_map, List.mem_range]; exact ⟨j, by omega, rfl⟩))
  ·have hkl := (List.getElem?_eq_some_iff.1 hk).1
   simp only [List.length_map, List.length_range] at hkl
   have hx' : (q j).2.2.2.2.2 k = x := by
    rw [List.getElem?_map, List.getElem?_range hkl] at hk
    simpa using hk
   obtain ⟨e1, e2⟩ := (hq j (by omega)).2.2.2 k (by omega)
   rw [hx'] at e2
   exact ⟨_, _, e1, fun h => h, e2.f0, e2.f1, e2.f2, e2.f3, e2.g0, e2.g1, e2.g2, e2.g3⟩
  ·obtain ⟨sb, so, c, e, z, e1, e2, e3⟩ := hS hp
   exact ⟨sb, so, c, e, z, e1, fun h => h, e2, e3⟩
end
end
noncomputable section
open Go Go.Conc Go.ChangeShapes
section
variable {H : Type} {enc : TypeId × Value → H}
theorem leaving_of_cond {a : Assume} {C : Checked} {os : Os} {f : FuncId} {fn : Func} {s : OpenSpec} {k : (H : Type) → List (DataW H) → Bool} (hk : s.cond = some k) {F : Stop.Interp} {conds : List PathCond} {apart fresh handsOn again : Bool}
  (own : ownKnob C.prog.godebug = none) (started : os.Started) (hfn : C.prog.funcs[f]? = some fn)
  (witness : ∃ (w : World) (tape : Tape) (i : Input), w.os = os ∧ (w.forCall tape i).Shaped C.prog ∧ i.vars = [] ∧ Input.okWide C.prog (w.forCall tape i) .any w.heap.size f i ∧
   s.pre6 enc C.prog fn conds apart (w.forCall tape i).memory i.args ∧ a.holds C.prog (lone (Frame.enter C.prog f i.args .normal) [] (w.forCall tape i)))
  (runs : ∀ (W : World) (base : Nat) (args : Array Value) (ds gs : List (DataW H)) (before : List MemPlace),
   (∀ (j : Nat) t v, fn.params[j]? = some t → args[j]? = some v → Value.okWide C.prog W .any base t v) →
   DataW.Whole enc C.prog fn.params.toList s.vars apart W args.toList ds gs before →
   conds.all (PathCond.test C.prog ⟨fn.params.toList, ds, s.bare.plain.varTypes C.prog, gs⟩) = true → k H (ds ++ gs) = true →
   a.holds C.prog (lone (Frame.enter C.prog f args .normal) [] W) →
   ∃ M last o w' t', runNT C.prog (M + 1) (solo (G (Frame.enter C.prog f args .normal) []) W) #[] = (.ended o w', t') ∧ runN C.prog M (solo (G (Frame.enter C.prog f args .normal) []) W) = .next last ∧
    step C.prog last = .ended o w' ∧ Conc.Good C.prog (fun v W' => (s.at F).post enc C.prog fn apart fresh handsOn again W args v W') last o w' t') :
  ReturnsInLeavingWide a C os f .any (s.pre6 enc C.prog fn conds apart) ((s.at F).post enc C.prog fn apart fresh handsOn again) := by
 refine returnsInLeavingWide_of_good own started witness ?_
 intro w tape i _ _ _ hok hpre hholds
 obtain ⟨_, _, _, fn', hfn', _, _, _, _, hval⟩ := hok
 have e : fn' = fn := Option.some.inj (hfn'.symm.trans hfn)
 subst e
 obtain ⟨ds, gs, before, hw, hc, hkk⟩ := (OpenSpec.pre_some hk conds apart _ _).1 hpre.1
 have hw' := DataW.Whole.of_heap (w' := w.forCall tape i) (by rfl) hw
 obtain ⟨M, last, o, w', t', h1, h2, h3, h4⟩ := runs (w.forCall tape i) w.heap.size i.args ds gs before hval hw' hc hkk hholds
 exact ⟨M, last, o, w', t', h1, h2, h3, h4.mono fun v hp => ChangeSpec.post_blind hp⟩
end
theorem holds_cond_leaving {p : Pinned} {s : OpenSpec} {c : OpenClaim} (f : FuncId) (fn : Func)
  (hn : c.program = p.name) (hs : c.sum = p.sum) (hsp : c.spec = s.name)
  (hstart : c.start = .entering) (hout : c.outside = []) (hin : c.inits = []) (hun : c.under = none) (hi4 : c.initsInPlace = [] ∧ c.initsUnfollowed = false ∧ c.initsRecurse = false ∧ c.initsNamed = [] ∧ c.initsPassed = []) (hnb : c.noBlocks = false) (hlv : c.leaving = true) (hfo : c.followed = none) (hnar : c.narrowed = s.cond.isSome) (hstill : c.still = false)
  (hfn : p.checked.prog.funcNamed c.func = some f) (hf : p.checked.prog.funcs[f]? = some fn)
  (closed : joinedFacts p.checked.prog f fn s.bare c = true)
  (hinst : fn.isInstance p.checked.prog c.origin c.targs) (hwrap : fn.isWrapper p.checked.prog c.wrapper c.mainSum)
  (h : ∀ os : Os, os.Started → ∀ (H : Type) (enc : TypeId × Value → H), (∀ a b, enc a = enc b → a = b) → ∀ F : Stop.Interp,
   ReturnsInLeavingWide c.assume p.checked os f .any (c.pre enc p.checked.prog fn s) ((s.at F).post enc p.checked.prog fn c.apart c.fresh c.handsOn c.again)) : c.holds p s := by
 simp only [joinedFacts, Bool.and_eq_true, beq_iff_eq, Array.all_eq_true_iff_forall_mem, List.all_eq_true, decide_eq_true_eq] at closed
 obtain ⟨⟨⟨⟨⟨⟨⟨⟨⟨⟨⟨⟨⟨⟨⟨⟨⟨⟨⟨⟨⟨⟨⟨⟨⟨⟨⟨⟨⟨⟨⟨k1, k2⟩, k3⟩, k4⟩, k5⟩, k6⟩, k7⟩, k8⟩, k9⟩, k10⟩, k11⟩, k12⟩, k13⟩, k14⟩, k15⟩, k16⟩, k17⟩, k17b⟩, k18⟩, k19⟩, k20⟩, k21⟩, k22⟩, k23⟩, k23b⟩, k24⟩, k24b⟩, k24c⟩, k25⟩, k26⟩, k27⟩, k28⟩ := closed
 have hq : ∀ os : Os, Stop.quiet p.checked.prog os := fun os k hk => by rw [k9] at hk; cases hk
 refine ⟨k1, hn, hs, hsp, k2, k3, by unfold OpenClaim.startFits; rw [hstart]; exact k24, by unfold OpenClaim.startTold; rw [hstart]; exact ⟨hin, hun, hi4⟩, f, fn, hfn, hf, ⟨k4, k19⟩, (fun hb => by rw [hnb] at hb; cases hb), by unfold OpenClaim.namedList; rw [hfo]; exact k5, hinst, hwrap,
  k6.trans k7.symm, ⟨k8.trans k9.symm, by unfold Program.envWorded; rw [k9]; rfl, k23b⟩, k10, k11, k12, k13, k14, ⟨k15, k27, k28⟩, ⟨k16, k20⟩, ⟨k17, k21, k25, k26⟩, ⟨k22, k24b, k24c, k17b⟩, (by rw [hout, hnar]; cases hsh : c.shortTexts with | none => simp | some _ => rw [hsh] at k23; cases k23), fun n hn' => varReadable_some (k18 n hn'),
  ⟨_, by unfold OpenClaim.world; rw [hout, hstart]; exact WideRow.started_initial, hq _⟩, [], by unfold OpenClaim.lists; rw [hfo], fun os st _ H enc inj => ?_⟩
 have st' : os.Started := by unfold OpenClaim.world at st; rw [hout, hstart] at st; exact st
 rw [OpenClaim.post_not_still hstill]
 unfold OpenClaim.form
 rw [hstart, k6]
 intro F
 have e1 : c.okInput = Input.okWide := by unfold OpenClaim.okInput; rw [hnb]
 have e2 : c.atReturn p.checked.prog = leavingAtReturn p.checked.prog := by unfold OpenClaim.atReturn; rw [hlv]
 have e3 : c.always p.checked.prog [] = nothingAlways := by unfold OpenClaim.always; rw [hfo]
 have e4 : s.post enc p.checked.prog fn F c.outside c.apart c.fresh c.handsOn c.again = (s.at F).post enc p.checked.prog fn c.apart c.fresh c.handsOn c.again := by rw [hout]; rfl
 rw [e1, e2, e3]
 show ReturnsInOpen _ _ _ _ _ _ _ _ (s.post enc p.checked.prog fn F c.outside c.apart c.fresh c.handsOn c.again) _ _
 rw [e4]
 exact h os st' H enc inj F k24
end
noncomputable section
open Go.ChangeShapes Go.WideShapes Go.ChangeAt
theorem Try.own : ownKnob Try.prog.godebug = none := by kernel_rfl
theorem Try.laidOut : laidOutB Try.prog = true := by kernel_rfl
theorem plays_lifted (os : Os) (started : os.Started) (H : Type) (enc : TypeId × Value → H) (F : Stop.Interp) :
  ReturnsInLeavingWide {} Try.checked os 3 .any ((Rows.OpenSpec.upto Rows.queuePlaysSpec).pre6 enc Try.prog Try.f3 Rows.queuePlaysUptoRow.domain false) (((Rows.OpenSpec.upto Rows.queuePlaysSpec).at F).post enc Try.prog Try.f3 false true false false) := by
 refine leaving_of_cond (C := Try.checked) (s := Rows.OpenSpec.upto Rows.queuePlaysSpec) (k := Rows.uptoSmall) rfl Try.own started Try.func3
  (OpenSpec.witness (enc := enc) (C := Try.checked) (s := Rows.OpenSpec.upto Rows.queuePlaysSpec) (k := Rows.uptoSmall) rfl false ⟨#[], #[.slice none 0 0, .slice none 0 0, .slice none 0 0, .int .i64 0], []⟩ 8 (by kernel_rfl) (by kernel_rfl) (by kernel_rfl)
   (x := ([.nil, .nil, .nil, .lit (.int .i64 0)], [], [])) (by kernel_rfl) rfl (by kernel_rfl)) ?_
 intro W base args ds gs before hval0 hW _ hkk _
 have hval : ∀ (j : Nat) t v, Try.f3.params[j]? = some t → args[j]? = some v → Value.okWide Try.prog W .any base t v := hval0
 have hW' := hW
 obtain ⟨p, q, hA0, hV, rfl, hfz, _⟩ := hW
 have hA : DataW.TrodAll enc Try.prog W 0 (fun _ => true) true Try.f3.params.toList args.toList ds p := hA0
 rw [Try.params3] at hA hval
 obtain ⟨v0, v1, v2, v3, d0, d1, d2, d3, p0, p1, p2, p3, rfl, rfl, rfl, h0, h1, h2, h3⟩ := trodAll_four hA
 obtain ⟨rfl, rfl⟩ := trodVars_none hV
 obtain ⟨mo, rfl, rfl, rfl, wmo⟩ := open_int Try.underlying3 (hval 3 3 v3 rfl rfl) h3
 clear hA0 hval0
 simp only [List.append_nil] at hW' hfz hkk
 have hlt : ∀ x ∈ p0 ++ p1 ++ p2, x.block < W.heap.size := fun x hx => by simpa using hW'.lt x hx
 have hb : Rows.uptoBulkAll [d0, d1, d2, DataW.lit (.int .i64 mo)] ≤ 1048576 := by simpa [Rows.uptoSmall] using hkk
 have b0 : Rows.uptoBulk d0 ≤ 1048576 := Nat.le_trans (bulk_part (by simp)) hb
 have b1 : Rows.uptoBulk d1 ≤ 1048576 := Nat.le_trans (bulk_part (by simp)) hb
 have b2 : Rows.uptoBulk d2 ≤ 1048576 := Nat.le_trans (bulk_part (by simp)) hb
 obtain ⟨va, vs, vc, vb, vo, rfl, l0, hvs⟩ := ints_in Try.underlying22 Try.underlying2 cells2 (hval 0 22 v0 rfl rfl) h0 (fun b o h => hfz b o (by simp [h])) (fun x hx => hlt x (by simp [hx]))
 obtain ⟨ta, tl, tc, tb, o, oa, ol, oc, ops, rfl, l1, l1', hI⟩ := threads_in (hval 1 23 v1 rfl rfl) h1 (fun b o h => hfz b o (by simp [h]))
 obtain ⟨sa, S, sc, sb, so, rfl, l2, hS⟩ := ints_in Try.underlying24 Try.underlying3 cells3 (hval 2 24 v2 rfl rfl) h2 (fun b o h => hfz b o (by simp [h])) (fun x hx => hlt x (by simp [hx]))
 have hI := hI S sa (by omega) fun hp => by
  obtain ⟨e1, e2, c, e, z, e3, e4⟩ := hS hp
  refine ⟨sb, so, c, e, z, e1, e3, fun k u hu => ?_⟩
  rw [List.getElem?_map, Option.map_eq_some_iff] at hu
  obtain ⟨i, hi, rfl⟩ := hu
  exact ⟨(e4 k i hi).1, (e4 k i hi).2.1⟩
 obtain ⟨M, hM⟩ : ∃ M : Nat, min (max mo 0) 1048576 = (M : Int) := ⟨(min (max mo 0) 1048576).toNat, by omega⟩
 have hp : 0 < vs.length → va = some ⟨vb, vo, none⟩ ∧ vb < W.heap.size := fun h => ⟨(hvs h).1, (hvs h).2.1⟩
 have hbes := bes_plays (An := ⟨W.heap.size, W⟩) (W := W) (vc := vc) (tc := tc) (sc := sc) (by omega) (fun h => (hp h).1) (fun h => (hp h).2) (fun k v hk => by
  obtain ⟨_, _, _, _, _, _, e4⟩ := hvs (Nat.lt_of_le_of_lt (Nat.zero_le _) (List.getElem?_eq_some_iff.1 hk).1)
  exact (e4 k v hk).2.2) hI (by omega) (fun j hj => by have := l1' j (by omega); omega) hM
 obtain ⟨N, last, o', w', t', g1, g2, g3, g4⟩ := bes_good (An := ⟨W.heap.size, W⟩) (Post := fun v w' => LawPost W v w' ∧ (⟨W.heap.size, W⟩ : Anchor).Holds w') (W := W) ⟨rfl, rfl, rfl, Nat.le_refl _, fun r o _ h _ => h⟩ (Bes.bind hbes fun g w h => Bes.stop ⟨h.1, fun d => by
  obtain ⟨v, e1, e2⟩ := h.2 d
  exact ⟨v, e1, fun hh => ⟨e2 hh, hh⟩⟩⟩)
 refine ⟨N, last, o', w', t', g1, g2, g3, g4.mono fun v hF => ?_⟩
 obtain ⟨⟨rfl, hk⟩, hh⟩ := hF
 have hbelow := below_of hh hk
 have r0 := Below.trod Try.laidOut (by kernel_rfl) (of_decide_eq_true (by kernel_rfl)) h0 hbelow (fun x hx => hlt x (by simp [hx]))
 have r1 := Below.trod Try.laidOut (by kernel_rfl) (of_decide_eq_true (by kernel_rfl)) h1 hbelow (fun x hx => hlt x (by simp [hx]))
 have r2 := Below.trod Try.laidOut (by kernel_rfl) (of_decide_eq_true (by kernel_rfl)) h2 hbelow (fun x hx => hlt x (by simp [hx]))
 refine ⟨_, _, _, [], p0 ++ (p1 ++ (p2 ++ [])), [], hW', ?_, ?_, rfl, hbelow.frame _, fun h => by cases h⟩
 ·exact trodAll_mk1 (shut_bool Try.underlying4 true)
 ·exact trodAll_mk4 r0 r1 r2 (shut_int Try.underlying3 wmo)
theorem queuePlays_holds : Rows.QueuePlaysUptoSaid :=
 holds_cond_leaving 3 Try.f3 rfl rfl rfl rfl rfl rfl rfl ⟨rfl, rfl, rfl, rfl, rfl⟩ rfl rfl rfl rfl rfl (by kernel_rfl) Try.func3 (by kernel_rfl)
  (of_decide_eq_true (by kernel_rfl)) (by unfold Func.isWrapper; first | (rw [if_pos (by decide +kernel)]; kernel_rfl) | (rw [if_neg (by decide +kernel)]; exact ⟨rfl, rfl⟩))
  (fun os started H enc _ F => plays_lifted os started H enc F)
end
end Go.Proofs.Ytcejbandeikdjaa
