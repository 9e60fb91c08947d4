/-
  The law QueueCalls holds of the given program: a queue's calls by themselves answer, step and keep what the document's reference does, for arguments of at most 1048576 items in all (QueueCallsUptoSaid).
  Part 6 of 6.
-/
import Derived.Test.YtcejbandeikdjaaZE
import Derived.Test.YtcejbandeikdjaaRows
import Derived.ProofKit
import Derived.JoinedCond
import Derived.Conc.Holds
import Derived.Conc.LeavingOf
import Derived.ChangeSame
set_option linter.unusedSimpArgs false
set_option linter.unusedVariables false
set_option maxRecDepth 100000
set_option maxHeartbeats 2000000
namespace Go.Proofs.Ytcejbandeikdjaa
open Go Go.Conc Go.RowKit Go.Proofs
noncomputable section
variable {w0 w w' : World} {L qb sb rq n i : Nat} {q : RQ} {bl : List Nat} {cs : List Frame} {main : Bool} {Stop : Goroutine → World → Prop}
theorem ty_ne {a b : Nat} {c1 c2 : Array Value} {t1 t2 : TypeId} {z1 z2 : Nat × Nat} (h1 : w.heap[a]? = some (.cells c1 t1 z1)) (h2 : w.heap[b]? = some (.cells c2 t2 z2)) (h : t1 ≠ t2) : a ≠ b := by
 rintro rfl
 rw [h1] at h2
 cases h2
 exact h rfl
theorem QU.ty {s : QS} {r : Nat} (h : QU qb s w) (hr : QR qb s r) : ∃ c t, w.heap[r]? = some (.cells c t (0, 0)) ∧ (t = 62 ∨ t = 106) := by
 rcases hr with rfl | ⟨k, hk, rfl⟩
 ·exact ⟨_, _, h.q0, .inl rfl⟩
 ·exact ⟨_, _, h.box hk, .inr rfl⟩
theorem CU.keep {s : QS} (h : CU w qb sb s n) (hk : ∀ (r : Nat) (c : Array Value) (t : TypeId), w.heap[r]? = some (.cells c t (0, 0)) → t = 62 ∨ t = 106 ∨ t = 39 → w'.heap[r]? = w.heap[r]?) : CU w' qb sb s n :=
 ⟨h.q.same fun r hr => by
  obtain ⟨c, t, e, ht⟩ := h.q.ty hr
  exact hk r c t e (ht.elim .inl fun h => .inr (.inl h)), (hk _ _ _ h.t (.inr (.inr rfl))).trans h.t⟩
theorem RefQ.keep2 {bb bc : Nat} (h : RefQ w rq bb bc q) (h1 : w'.heap[rq]? = w.heap[rq]?) (h2 : w'.heap[bb]? = w.heap[bb]?) : RefQ w' rq bb bc q := ⟨by rw [h1]; exact h.o, by rw [h2]; exact h.b⟩
theorem CallAt.heap {cb : Nat} {r : RR} (h : CallAt w cb r) (e : w'.heap[cb]? = w.heap[cb]?) : CallAt w' cb r := by
 cases r with
 | inl c => exact e.trans h
 | inr a => obtain ⟨k, c, h⟩ := h; exact ⟨k, c, e.trans h⟩
theorem CallAt.ty {cb : Nat} {r : RR} (h : CallAt w cb r) : ∃ c, w.heap[cb]? = some (.cells c 48 (0, 0)) := by
 cases r with
 | inl c => exact ⟨_, h⟩
 | inr a => obtain ⟨k, c, h⟩ := h; exact ⟨_, h⟩
theorem cell_same {a : Addr} (h : w'.heap[a.block]? = w.heap[a.block]?) : w'.cell? a = w.cell? a ∧ w'.frozen? a = w.frozen? a := ⟨by unfold World.cell?; rw [h], by unfold World.frozen?; rw [h]⟩
theorem OpLies.keep {b o : Nat} {x : Op4} (h : OpLies w b o x) (e : w'.heap[b]? = w.heap[b]?) : OpLies w' b o x := by
 have c : ∀ k, w'.cell? ⟨b, k, none⟩ = w.cell? ⟨b, k, none⟩ := fun k => (cell_same (a := ⟨b, k, none⟩) e).1
 have z : ∀ k, w'.frozen? ⟨b, k, none⟩ = w.frozen? ⟨b, k, none⟩ := fun k => (cell_same (a := ⟨b, k, none⟩) e).2
 exact ⟨(c _).trans h.f0, (c _).trans h.f1, (c _).trans h.f2, (c _).trans h.f3, (z _).trans h.g0, (z _).trans h.g1, (z _).trans h.g2, (z _).trans h.g3⟩
theorem alone_steps (q : RQ) (o : Op4) : (alone q o).2.2 ≤ 4 := by
 unfold alone
 split
 ·simp
 ·split
  ·split <;> simp
  ·split <;> simp
structure CI (w0 w : World) (L qb sb rq : Nat) (q : RQ) (bl : List Nat) (n i : Nat) : Prop where
 c : CU w qb sb ⟨q, bl⟩ n
 r : ∃ bb bc, RefQ w rq bb bc q ∧ w0.heap.size ≤ bb
 k : Calm q
 len : q.B.length ≤ 1 + L + i
 st : n ≤ 4 * i
 lo : w0.heap.size ≤ sb ∧ w0.heap.size ≤ rq ∧ ∀ r, QR qb ⟨q, bl⟩ r → w0.heap.size ≤ r
 old : ∀ r, r < w0.heap.size → w.heap[r]? = w0.heap[r]?
 sz : w0.heap.size ≤ w.heap.size
theorem ok16 : codeOk Try.prog S1 true qcr16 = true := by kernel_rfl
theorem okb4 : codeOk Try.prog S1 true qcb4 = true := by kernel_rfl
set_option maxHeartbeats 1000000 in
theorem own_round {ob oo on cp : Nat} (hI : CI w0 w L qb sb rq q bl n i) {o : Op4} (hi : i < on) (hL : L + on ≤ 3000000) (ho : OpLies w0 ob (oo + i * 4) o) (hob : ob < w0.heap.size) {A : Array Value} (hA : Slots 149 A [(1, .slice (some ⟨ob, oo, none⟩) on cp), (6, .pointer (some ⟨qb, 0, none⟩)), (7, .pointer (some ⟨rq, 0, none⟩)), (8, .pointer (some ⟨sb, 0, none⟩)), (10, .int .i64 i)])
  (K : ∀ A' w' q' bl' n', CI w0 w' L qb sb rq q' bl' n' (i + 1) → Slots 149 A' [(1, .slice (some ⟨ob, oo, none⟩) on cp), (6, .pointer (some ⟨qb, 0, none⟩)), (7, .pointer (some ⟨rq, 0, none⟩)), (8, .pointer (some ⟨sb, 0, none⟩)), (10, .int .i64 (i + 1 : Nat))] →
   Own Try.prog main F0 Stop (G ((Go.Conc.base 4).at ⟨A', []⟩ [.code qcs20, .inLoop qcs20, .inBlock 2, .code qcs33]) cs) w') :
  Own Try.prog main F0 Stop (G ((Go.Conc.base 4).at ⟨A, []⟩ [.code qcs20, .inLoop qcs20, .inBlock 2, .code qcs33]) cs) w := by
 obtain ⟨bb, bc, hQ, hbb⟩ := hI.r
 obtain ⟨cur, hbo, _⟩ := hQ.b
 have hlen := hI.len
 have hst := hI.st
 have how := ho.keep (w' := w) (hI.old ob hob)
 refine qc_7 hi hA fun A hA => ?_
 refine own_piece closed1 prog_late ok16 (R := fun A' w' => ∃ cb, Slots 149 A' [(1, .slice (some ⟨ob, oo, none⟩) on cp), (6, .pointer (some ⟨qb, 0, none⟩)), (7, .pointer (some ⟨rq, 0, none⟩)), (8, .pointer (some ⟨sb, 0, none⟩)), (10, .int .i64 i), (11, .pointer (some ⟨cb, 0, none⟩))] ∧ cb = w.heap.size + 1 ∧ BeginOut w rq bb cb w' (q.begin o)) (by decide) (fun τ e => ?_) fun A w1 τ e hh _ => ?_
 ·refine qcL16 (w := retape w τ e) (ov := o) hi how.f0 how.f1 how.f2 how.f3 (R := fun cb w' => cb = w.heap.size + 1 ∧ BeginOut w rq bb cb w' (q.begin o)) (fun w1 e1 => ?_) hA fun A' cb w' hA' hR => ⟨rfl, cb, hA', hR⟩
  have e2 : w1.heap = w.heap := e1
  refine (begin_ref (hQ.heap e2) (by omega) (Nat.lt_of_le_of_lt (Nat.zero_le _) hI.k.hd) o).mono ?_
  rintro x w' ⟨rfl, hB⟩
  rw [e2] at hB ⊢
  exact ⟨_, rfl, rfl, by unfold BeginOut at hB ⊢; rw [e2] at hB; exact hB⟩
 obtain ⟨cb, hA, hcb, ⟨bb1, bc1, hQ1, hbb1⟩, hcc, hs1, hk1⟩ := hh
 have hQ1 : RefQ w1 rq bb1 bc1 (q.begin o).1 := hQ1.heap rfl
 have hs1 : w.heap.size ≤ w1.heap.size := hs1
 have hk1 : ∀ r, r < w.heap.size → r ≠ rq → r ≠ bb → w1.heap[r]? = w.heap[r]? := hk1
 have hc1 : CallAt w1 cb (q.begin o).2 := by
  cases h : (q.begin o).2 with
  | inl c => rw [h] at hcc; exact hcc
  | inr a => rw [h] at hcc; exact hcc
 clear hcc
 have hbb1' : w0.heap.size ≤ bb1 := by
  rcases hbb1 with h | h
  ·rw [h]; exact hbb
  ·exact Nat.le_trans hI.sz h
 obtain ⟨cc, hct⟩ := hc1.ty
 obtain ⟨cur1, hb1, _⟩ := hQ1.b
 have hC1 : CU w1 qb sb ⟨q, bl⟩ n := hI.c.keep fun r c t hr ht => hk1 r (Array.getElem?_eq_some_iff.1 hr).1 (ty_ne hr hQ.o (by rcases ht with rfl | rfl | rfl <;> decide)) (ty_ne hr hbo (by rcases ht with rfl | rfl | rfl <;> decide))
 have hC1t := hC1.t
 refine qc_8 (m := (n : Int)) (by simp [World.cell?, hC1t]) (by simp [World.frozen?, hC1t]) hA fun A hA => ?_
 have hn4 := alone_steps q o
 have hne : cb ≠ rq := ty_ne hct hQ1.o (by decide)
 have hnb : cb ≠ bb1 := ty_ne hct hb1 (by decide)
 refine own_piece closed1 prog_late okb4 (R := fun A' w' => Slots 149 A' [(1, .slice (some ⟨ob, oo, none⟩) on cp), (6, .pointer (some ⟨qb, 0, none⟩)), (7, .pointer (some ⟨rq, 0, none⟩)), (8, .pointer (some ⟨sb, 0, none⟩)), (10, .int .i64 i), (11, .pointer (some ⟨cb, 0, none⟩)), (12, .int .i64 (n + (alone q o).2.2 : Nat))] ∧ RefQ w' rq bb1 bc1 (alone q o).1 ∧ CallAt w' cb (.inr (alone q o).2.1) ∧ w'.heap.size = w1.heap.size ∧ ∀ r, r ≠ rq → r ≠ cb → r ≠ bb1 → w'.heap[r]? = w1.heap[r]?) (by decide) (fun τ e => ?_) fun A w2 τ e hh _ => ?_
 ·exact qcL4 (w := retape w1 τ e) (m0 := n) (alone_runs hI.k (by omega) o) (hQ1.heap rfl) (hc1.heap rfl) hne hnb (by omega) hA fun A' w' h1 h2 h3 h4 h5 => ⟨rfl, h1, h2, h3, h4, h5⟩
 obtain ⟨hA, hQ2, hc2, hs2, hk2⟩ := hh
 have hQ2 : RefQ w2 rq bb1 bc1 (alone q o).1 := hQ2.heap rfl
 have hc2 : CallAt w2 cb (.inr (alone q o).2.1) := hc2.heap rfl
 have hs2 : w2.heap.size = w1.heap.size := hs2
 have hk2 : ∀ r, r ≠ rq → r ≠ cb → r ≠ bb1 → w2.heap[r]? = w1.heap[r]? := hk2
 have hC2 : CU w2 qb sb ⟨q, bl⟩ n := hC1.keep fun r c t hr ht => hk2 r (ty_ne hr hQ1.o (by rcases ht with rfl | rfl | rfl <;> decide)) (ty_ne hr hct (by rcases ht with rfl | rfl | rfl <;> decide)) (ty_ne hr hb1 (by rcases ht with rfl | rfl | rfl <;> decide))
 have hsz := hI.sz
 have hlo := hI.lo
 have hold2 : ∀ r, r < w0.heap.size → w2.heap[r]? = w0.heap[r]? := fun r hr => (hk2 r (by omega) (by omega) (by omega)).trans ((hk1 r (by omega) (by omega) (by omega)).trans (hI.old r hr))
 have ho2 := ho.keep (w' := w2) (hold2 ob hob)
 refine qc_9 (ov := o) hi ho2.f0 ho2.f1 ho2.f2 ho2.f3 ho2.g0 ho2.g1 ho2.g2 ho2.g3 hA fun A hA => ?_
 refine own_callC hC2 hI.k (by omega) o fun w3 bl3 hC3 hs3 hq3 hk3 => ?_
 refine qc_10 under_F0 (Nat.zero_le _) hA fun A hA => ?_
 obtain ⟨cc2, hct2⟩ := hc2.ty
 obtain ⟨cur2, hb2, _⟩ := hQ2.b
 have off : ∀ {r : Nat} {c : Array Value} {t : TypeId}, w2.heap[r]? = some (.cells c t (0, 0)) → t = 112 ∨ t = 109 ∨ t = 48 → w3.heap[r]? = w2.heap[r]? := fun {r c t} hr ht => by
  refine hk3 r (Array.getElem?_eq_some_iff.1 hr).1 (fun hq => ?_) (ty_ne hr hC2.t (by rcases ht with rfl | rfl | rfl <;> decide))
  obtain ⟨c', t', e', ht'⟩ := hC2.q.ty hq
  exact ty_ne hr e' (by rcases ht with rfl | rfl | rfl <;> rcases ht' with rfl | rfl <;> decide) rfl
 have hQ3 : RefQ w3 rq bb1 bc1 (alone q o).1 := hQ2.keep2 (off hQ2.o (.inl rfl)) (off hb2 (.inr (.inl rfl)))
 have hc3 : CallAt w3 cb (.inr (alone q o).2.1) := hc2.heap (off hct2 (.inr (.inr rfl)))
 have hold3 : ∀ r, r < w0.heap.size → w3.heap[r]? = w0.heap[r]? := fun r hr => (hk3 r (by omega) (fun hq => by have := hlo.2.2 r hq; omega) (by omega)).trans (hold2 r hr)
 have hab : (w3.alloc (.cells #[.bool (alone q o).2.1.1, .int .i64 (alone q o).2.1.2, .slice none 0 0] 46)).heap[w3.heap.size]? = some (.cells #[.bool (alone q o).2.1.1, .int .i64 (alone q o).2.1.2, .slice none 0 0] 46 (0, 0)) := heap_alloc_new _ _
 have hk4 : ∀ r, r < w3.heap.size → (w3.alloc (.cells #[.bool (alone q o).2.1.1, .int .i64 (alone q o).2.1.2, .slice none 0 0] 46)).heap[r]? = w3.heap[r]? := fun r hr => heap_alloc_lt _ _ hr
 have hs4 : (w3.alloc (.cells #[.bool (alone q o).2.1.1, .int .i64 (alone q o).2.1.2, .slice none 0 0] 46)).heap.size = w3.heap.size + 1 := by simp
 have hC4 := hC3.alloc (.cells #[.bool (alone q o).2.1.1, .int .i64 (alone q o).2.1.2, .slice none 0 0] 46)
 generalize w3.alloc (.cells #[.bool (alone q o).2.1.1, .int .i64 (alone q o).2.1.2, .slice none 0 0] 46) = w4 at hab hk4 hs4 hC4 ⊢
 have hQ4 : RefQ w4 rq bb1 bc1 (alone q o).1 := hQ3.keep2 (hk4 _ hQ3.rqlt) (hk4 _ hQ3.bblt)
 have hc4 : CallAt w4 cb (.inr (alone q o).2.1) := hc3.heap (hk4 _ (by obtain ⟨c, h⟩ := hc3.ty; exact (Array.getElem?_eq_some_iff.1 h).1))
 obtain ⟨kk, c4, hcc4⟩ := hc4
 have hC4t := hC4.t
 have hK := hI.k.alone o
 refine qc_11 (ab := w3.heap.size) (cb := cb) (sb := sb) (ok := (alone q o).2.1.1) (an := (alone q o).2.1.2) (m := ((n + (alone q o).2.2 : Nat) : Int)) (by omega) ⟨by simp [World.cell?, hab], by simp [World.cell?, hab], by simp [World.cell?, hcc4, callC], by simp [World.cell?, hcc4, callC], by simp [World.cell?, hC4t], fun k => by simp [World.frozen?, hab], fun k => by simp [World.frozen?, hcc4], fun k => by simp [World.frozen?, hC4t]⟩ hC4.q (by rw [hK.last]; exact .nil) hA fun A hA => ?_
 have hl := alone_len q o
 exact K A w4 _ bl3 _ ⟨hC4, ⟨bb1, bc1, hQ4, hbb1'⟩, hK, by omega, by omega, ⟨hlo.1, hlo.2.1, fun r hr => by
  rcases hq3 r hr with h | h
  ·exact hlo.2.2 r h
  ·omega⟩, fun r hr => (hk4 r (by omega)).trans (hold3 r hr), by omega⟩ hA
theorem own_rounds {ob oo on cp : Nat} {X : Nat → Op4} (hL : L + on ≤ 3000000) (ho : ∀ k, k < on → OpLies w0 ob (oo + k * 4) (X k)) (hob : ob < w0.heap.size)
  (K : ∀ A' w' q' bl' n', CI w0 w' L qb sb rq q' bl' n' on → Slots 149 A' [(1, .slice (some ⟨ob, oo, none⟩) on cp), (6, .pointer (some ⟨qb, 0, none⟩)), (7, .pointer (some ⟨rq, 0, none⟩)), (8, .pointer (some ⟨sb, 0, none⟩)), (10, .int .i64 on)] →
   Own Try.prog main F0 Stop (G ((Go.Conc.base 4).at ⟨A', []⟩ [.code qcs20, .inLoop qcs20, .inBlock 2, .code qcs33]) cs) w') :
  ∀ (m i : Nat) (w : World) (q : RQ) (bl : List Nat) (n : Nat) (A : Array Value), i + m = on → CI w0 w L qb sb rq q bl n i → Slots 149 A [(1, .slice (some ⟨ob, oo, none⟩) on cp), (6, .pointer (some ⟨qb, 0, none⟩)), (7, .pointer (some ⟨rq, 0, none⟩)), (8, .pointer (some ⟨sb, 0, none⟩)), (10, .int .i64 i)] →
   Own Try.prog main F0 Stop (G ((Go.Conc.base 4).at ⟨A, []⟩ [.code qcs20, .inLoop qcs20, .inBlock 2, .code qcs33]) cs) w := by
 intro m
 induction m with
 | zero =>
  intro i w q bl n A hi hI hA
  obtain rfl : i = on := by omega
  exact K A w q bl n hI hA
 | succ m ih =>
  intro i w q bl n A hi hI hA
  exact own_round hI (by omega) hL (ho i (by omega)) hob hA fun A' w' q' bl' n' hI' hA' => ih (i + 1) w' q' bl' n' A' (by omega) hI' hA'
end
noncomputable section
variable {w0 w w' : World} {L qb sb rq n i : Nat} {q : RQ} {bl : List Nat} {cs : List Frame} {main : Bool} {Stop : Goroutine → World → Prop}
theorem RRow.keepO {a : Option Addr} {xs : List Value} (h : RRow w a xs) (hk : ∀ (r : Nat) (c : Array Value) (e : TypeId) (z : Nat × Nat), w.heap[r]? = some (.cells c e z) → w'.heap[r]? = some (.cells c e z)) : RRow w' a xs :=
 ⟨fun k x hx => by
  obtain ⟨b, o, h1, h2⟩ := h.c k x hx
  obtain ⟨c, e, z, ho⟩ := cell_block h2
  exact ⟨b, o, h1, by rw [← h2]; exact (cell_same ((hk _ _ _ _ ho).trans ho.symm)).1⟩⟩
theorem row_slice {base n : Nat} {v : Value} {xs : List Value} (h : w.ownsRow base 2 1 v n xs) : ∃ a c, v = .slice a n c := by
 rcases h.2 with ⟨rfl, rfl⟩ | ⟨g, cap, cur, rfl, _⟩
 ·exact ⟨none, 0, rfl⟩
 ·exact ⟨_, _, rfl⟩
theorem row_keep {base n : Nat} {v : Value} {xs : List Value} (h : w.ownsRow base 2 1 v n xs) (hk : ∀ g, base ≤ g → g < w.heap.size → w'.heap[g]? = w.heap[g]?) : w'.ownsRow base 2 1 v n xs :=
 ownsRow_same2 h fun b hb hle => by
  rcases h.2 with ⟨rfl, rfl⟩ | ⟨g, cap, cur, rfl, h3, h4, _⟩
  ·cases hb
  ·simp only [Value.ownBlock, Option.some.injEq] at hb
   subst hb
   exact hk g h3 (Array.getElem?_eq_some_iff.1 h4).1
theorem off_of {base n c r : Nat} {a : Option Addr} {xs : List Value} (h : w.ownsRow base 2 1 (.slice a n c) n xs) (hr : ∀ g, base ≤ g → g < w.heap.size → (∃ cur, w.heap[g]? = some (.cells cur 2 (0, 0))) → r ≠ g) : Off a r := by
 rintro b rfl
 rcases h.2 with ⟨e, _⟩ | ⟨g, cap, cur, e, h3, h4, _⟩
 ·cases e
 ·simp only [Value.slice.injEq, Option.some.injEq] at e
  obtain ⟨rfl, _⟩ := e
  exact hr g h3 (Array.getElem?_eq_some_iff.1 h4).1 ⟨cur, h4⟩
theorem off_ty {base n c r : Nat} {a : Option Addr} {xs : List Value} {cr : Array Value} {t : TypeId} (h : w.ownsRow base 2 1 (.slice a n c) n xs) (hr : w.heap[r]? = some (.cells cr t (0, 0))) (ht : t ≠ 2) : Off a r :=
 off_of h fun g _ _ ⟨cur, hg⟩ => ty_ne hr hg ht
theorem row_in {base n c : Nat} {a : Option Addr} {xs : List Value} (h : w.ownsRow base 2 1 (.slice a n c) n xs) : ∃ b, (0 < n → a = some ⟨b, 0, none⟩ ∧ b < w.heap.size) ∧ ∀ k x, xs[k]? = some x → w.cell? ⟨b, 0 + k, none⟩ = some x ∧ w.frozen? ⟨b, 0 + k, none⟩ = false := by
 rcases h.2 with ⟨e, rfl⟩ | ⟨g, cap, cur, e, h3, h4, _⟩
 ·refine ⟨0, fun h => by omega, fun k x hx => ?_⟩
  have := (List.getElem?_eq_some_iff.1 hx).1
  have := h.1
  omega
 ·refine ⟨g, fun _ => ?_, fun k x hx => ?_⟩
  ·simp only [Value.slice.injEq] at e
   exact ⟨e.1, (Array.getElem?_eq_some_iff.1 h4).1⟩
  ·obtain ⟨b, cap, e1, h1⟩ := row_get h hx
   rw [e] at e1
   simp only [Value.slice.injEq, Option.some.injEq, Addr.mk.injEq] at e1
   obtain ⟨⟨rfl, _⟩, _⟩ := e1
   rw [Nat.zero_add]
   exact ⟨h1.c, h1.z⟩
theorem ok26 : codeOk Try.prog S1 true qcr26 = true := by kernel_rfl
theorem ok27 : codeOk Try.prog S1 true qcr27 = true := by kernel_rfl
theorem ok40 : codeOk Try.prog S1 true qcs40 = true := by kernel_rfl
theorem ok33 : codeOk Try.prog S1 true qcr33 = true := by kernel_rfl
theorem ok3 : codeOk Try.prog S1 true qcr3 = true := by kernel_rfl
theorem ok5 : codeOk Try.prog S1 true qcr5 = true := by kernel_rfl
theorem ok7 : codeOk Try.prog S1 true qcr7 = true := by kernel_rfl
theorem ok12 : codeOk Try.prog S1 true qcs12 = true := by kernel_rfl
theorem own_same {aa ab : Option Addr} {ca cb : Nat} {xs : List Int} (hl : xs.length < 100000000) (hA : RRow w aa (xs.map fun v => .int .i64 v)) (hB : RRow w ab (xs.map fun v => .int .i64 v)) {cl : Frame}
  (K : ∀ w', w'.heap = w.heap → Own Try.prog main F0 Stop (G (cl.finish (.bool true)) cs) w') :
  Own Try.prog main F0 Stop (G (Frame.enter Try.prog 18 #[.slice aa xs.length ca, .slice ab xs.length cb] .normal) (cl :: cs)) w :=
 own_callS1 (f := 18) rfl Try.func18 (R := fun v w' => v = .bool true ∧ w'.heap = w.heap) (fun τ e => same_numbersB (w := retape w τ e) hl (hA.heap rfl) (hB.heap rfl)) fun v w' τ e ⟨hv, hk⟩ _ => by
  subst hv
  exact K w' hk
set_option maxHeartbeats 1000000 in
theorem own_tail {oa : Option Addr} {on cp : Nat} (hI : CI w0 w L qb sb rq q bl n on) (hL : L + on ≤ 3000000) {A : Array Value} (hA : Slots 149 A [(1, .slice oa on cp), (6, .pointer (some ⟨qb, 0, none⟩)), (7, .pointer (some ⟨rq, 0, none⟩)), (8, .pointer (some ⟨sb, 0, none⟩)), (10, .int .i64 on)])
  (K : ∀ A' w', Slots 149 A' [(4, .bool true)] → (∀ r, r < w0.heap.size → w'.heap[r]? = w0.heap[r]?) → Own Try.prog main F0 Stop (G { (Go.Conc.base 4).at ⟨A', []⟩ [.code .ret] with mode := .returning } cs) w') :
  Own Try.prog main F0 Stop (G ((Go.Conc.base 4).at ⟨A, []⟩ [.code qcs20, .inLoop qcs20, .inBlock 2, .code qcs33]) cs) w := by
 obtain ⟨p, hp, hpl⟩ := hI.k.path
 obtain ⟨l, el, _, hp⟩ := hp.inv
 have hlen := hI.len
 have hll : l.length < 10000000 := by
  have := congrArg List.length el
  simp only [List.length_append, List.length_cons, List.length_nil] at this
  omega
 have hsz := hI.sz
 obtain ⟨bb, bc, hQ, hbb⟩ := hI.r
 have hmap : (l.map fun k => Value.int .i64 (q.vl k)) = ((l.map q.vl).map fun v => Value.int .i64 v) := by rw [List.map_map]; rfl
 have hml : (l.map q.vl).length = l.length := by simp
 refine qc_12 hA fun A hA => ?_
 refine own_values hI.c.q hp hll fun w1 lv s1 k1 r1 => ?_
 refine qc_13 hA fun A hA => ?_
 have q1 : QU qb ⟨q, bl⟩ w1 := hI.c.q.same fun r hr => k1 r (hI.c.q.low hr)
 refine own_values q1 hp hll fun w2 mv s2 k2 r2 => ?_
 refine qc_14 hA fun A hA => ?_
 have Q2 : RefQ w2 rq bb bc q := hQ.keep2 ((k2 _ (Nat.lt_of_lt_of_le hQ.rqlt s1)).trans (k1 _ hQ.rqlt)) ((k2 _ (Nat.lt_of_lt_of_le hQ.bblt s1)).trans (k1 _ hQ.bblt))
 refine own_piece closed1 prog_late ok26 (R := fun A' w' => ∃ ov, Slots 149 A' [(6, .pointer (some ⟨qb, 0, none⟩)), (14, lv), (15, mv), (16, ov)] ∧ ValsAt w2 w' ov (l.map q.vl)) (by decide) (fun τ e => qcL26 (w := retape w2 τ e) (R := fun ov w' => ValsAt w2 w' ov (l.map q.vl)) ((values_ref (w := retape w2 τ e) (Q2.heap rfl) hI.k.hd hp (by omega) (by omega)).mono ?_) hA fun A' ov w' h1 h2 => ⟨rfl, ov, h1, h2⟩) fun A w3 τ e hh _ => ?_
 ·rintro x w' ⟨ov, rfl, h⟩
  exact ⟨ov, rfl, ⟨h.row, h.size, h.old, h.new⟩⟩
 obtain ⟨ov, hA, hv⟩ := hh
 have s3 : w2.heap.size ≤ w3.heap.size := hv.size
 have k3 : ∀ r, r < w2.heap.size → w3.heap[r]? = w2.heap[r]? := hv.old
 have r3 : w3.ownsRow 0 2 1 ov (l.map q.vl).length ((l.map q.vl).map fun v => .int .i64 v) := hv.row
 have n3 : ∀ g, ov.ownBlock = some g → w2.heap.size ≤ g := hv.new
 clear hv
 rw [hml] at r3
 rw [hmap] at r1 r2
 obtain ⟨la, lc, rfl⟩ := row_slice r1
 obtain ⟨ma, mc, rfl⟩ := row_slice r2
 obtain ⟨oa', oc', rfl⟩ := row_slice r3
 have r13 : w3.ownsRow w.heap.size 2 1 (.slice la l.length lc) l.length ((l.map q.vl).map fun v => .int .i64 v) := row_keep (w := w2) (row_keep r1 fun g _ hg => k2 g hg) fun g _ hg => k3 g hg
 have r13' : w1.ownsRow w.heap.size 2 1 (.slice la l.length lc) l.length ((l.map q.vl).map fun v => .int .i64 v) := r1
 have r23 : w3.ownsRow w1.heap.size 2 1 (.slice ma l.length mc) l.length ((l.map q.vl).map fun v => .int .i64 v) := row_keep r2 fun g _ hg => k3 g hg
 refine qc_15 hA fun A hA => ?_
 refine own_piece closed1 prog_late ok27 (R := fun A' w' => Slots 149 A' [(6, .pointer (some ⟨qb, 0, none⟩)), (14, .slice la l.length lc), (15, .slice ma l.length mc), (16, .slice oa' l.length oc'), (119, .bool false)] ∧ w'.heap = w3.heap) (by decide) (fun τ e => qcL27 (w := retape w3 τ e) ?_ hA fun A' w' h1 h2 => ⟨rfl, h1, h2⟩) fun A w4 τ e hh _ => ?_
 ·have := same_numbers (w := retape w3 τ e) (ca := lc) (cb := oc') (xs := l.map q.vl) (by omega) ((rrow_of r13).heap rfl) ((rrow_of r3).heap rfl)
  rw [hml] at this
  exact this
 obtain ⟨hA, e4⟩ := hh
 have e4 : w4.heap = w3.heap := e4
 refine qc_16 hA fun A hA => ?_
 have r14 : w4.ownsRow w.heap.size 2 1 (.slice la l.length lc) l.length ((l.map q.vl).map fun v => .int .i64 v) := row_keep r13 fun g _ _ => by rw [e4]
 refine own_piece closed1 prog_late ok40 (R := fun A' w' => Slots 149 A' [(6, .pointer (some ⟨qb, 0, none⟩)), (14, .slice la l.length lc), (15, .slice ma l.length mc), (16, .slice oa' l.length oc')] ∧ w'.heap.size = w4.heap.size ∧ (∀ r, Off la r → w'.heap[r]? = w4.heap[r]?) ∧ ∃ xs, w'.ownsRow 0 2 1 (.slice la l.length lc) l.length xs) (by decide) (fun τ e => qcL40 (w := retape w4 τ e) (by omega) (mine_of (row_keep (w' := retape w4 τ e) r14 fun _ _ _ => rfl)) hA fun A' w' h1 h2 h3 h4 => ⟨rfl, h1, h2, h3, h4⟩) fun A w5 τ e hh _ => ?_
 obtain ⟨hA, s5, k5, xs5, r5⟩ := hh
 have s5 : w5.heap.size = w4.heap.size := s5
 have k5 : ∀ r, Off la r → w5.heap[r]? = w4.heap[r]? := k5
 have r5 : w5.ownsRow 0 2 1 (.slice la l.length lc) l.length xs5 := row_keep (w' := w5) r5 fun _ _ _ => rfl
 refine qc_17 hA fun A hA => ?_
 refine own_piece closed1 prog_late ok33 (R := fun A' w' => ∃ la' lc', Slots 149 A' [(6, .pointer (some ⟨qb, 0, none⟩)), (14, .slice la' (l.length + 4) lc'), (15, .slice ma l.length mc), (16, .slice oa' l.length oc')] ∧ w5.heap.size ≤ w'.heap.size ∧ ∀ r, r < w5.heap.size → Off la r → w'.heap[r]? = w5.heap[r]?) (by decide) (fun τ e => qcL33 (w := retape w5 τ e) (by omega) (row_keep (w' := retape w5 τ e) r5 fun _ _ _ => rfl) hA fun A' la' lc' w' h1 h2 h3 => ⟨rfl, la', lc', h1, h2, h3⟩) fun A w6 τ e hh _ => ?_
 obtain ⟨la', lc', hA, s6, k6⟩ := hh
 have s6 : w5.heap.size ≤ w6.heap.size := s6
 have k6 : ∀ r, r < w5.heap.size → Off la r → w6.heap[r]? = w5.heap[r]? := k6
 have z4 : w4.heap.size = w3.heap.size := by rw [e4]
 have kk : ∀ r, r < w3.heap.size → Off la r → w6.heap[r]? = w3.heap[r]? := fun r hr ho => by rw [k6 r (by omega) ho, k5 r ho, e4]
 have hi1 : ∀ r, w1.heap.size ≤ r → Off la r := fun r hr => off_of r13' fun g _ hg _ => by omega
 have lo1 : ∀ r, r < w.heap.size → Off la r := fun r hr => off_of r13' fun g hg _ _ => by omega
 have k03 : ∀ r, r < w.heap.size → w6.heap[r]? = w.heap[r]? := fun r hr => by rw [kk r (by omega) (lo1 r hr), k3 r (by omega), k2 r (by omega), k1 r hr]
 have q6 : QU qb ⟨q, bl⟩ w6 := hI.c.q.same fun r hr => k03 r (hI.c.q.low hr)
 have r26 : w6.ownsRow w1.heap.size 2 1 (.slice ma l.length mc) l.length ((l.map q.vl).map fun v => .int .i64 v) := row_keep r23 fun g h1 h2 => kk g h2 (hi1 g h1)
 have r36 : w6.ownsRow 0 2 1 (.slice oa' l.length oc') l.length ((l.map q.vl).map fun v => .int .i64 v) := ownsRow_same2 r3 fun g hg _ => by
  have h1 := n3 g hg
  rcases r3.2 with ⟨e, _⟩ | ⟨g', cap, cur, e, _, h4, _⟩
  ·rw [e] at hg; cases hg
  ·rw [e] at hg
   simp only [Value.ownBlock, Option.some.injEq] at hg
   subst hg
   exact kk _ (Array.getElem?_eq_some_iff.1 h4).1 (hi1 _ (by omega))
 refine qc_18 (by omega) hA fun A hA => ?_
 have same : ∀ {u : World} {aa ab : Option Addr} {ca cb : Nat} {cl : Frame}, RRow u aa ((l.map q.vl).map fun v => .int .i64 v) → RRow u ab ((l.map q.vl).map fun v => .int .i64 v) → (∀ w', w'.heap = u.heap → Own Try.prog main F0 Stop (G (cl.finish (.bool true)) cs) w') → Own Try.prog main F0 Stop (G (Frame.enter Try.prog 18 #[.slice aa l.length ca, .slice ab l.length cb] .normal) (cl :: cs)) u := fun {u aa ab ca cb cl} h1 h2 K => by
  have := own_same (ca := ca) (cb := cb) (cl := cl) (cs := cs) (main := main) (Stop := Stop) (xs := l.map q.vl) (by omega) h1 h2 K
  rw [hml] at this
  exact this
 refine same (rrow_of r26) (rrow_of r36) fun w7 e7 => ?_
 refine qc_19 hA fun A hA => ?_
 have q7 : QU qb ⟨q, bl⟩ w7 := q6.same fun r _ => by rw [e7]
 refine own_values q7 hp hll fun w8 xv s8 k8 r8 => ?_
 rw [hmap] at r8
 obtain ⟨xa, xc, rfl⟩ := row_slice r8
 refine qc_20 hA fun A hA => ?_
 have r38 : w8.ownsRow 0 2 1 (.slice oa' l.length oc') l.length ((l.map q.vl).map fun v => .int .i64 v) := row_keep (w := w7) (row_keep r36 fun g _ _ => by rw [e7]) fun g _ hg => k8 g hg
 refine same (rrow_of r8) (rrow_of r38) fun w9 e9 => ?_
 refine qc_21 hA fun A hA => K A w9 hA fun r hr => ?_
 have h6 : r < w6.heap.size := by omega
 rw [e9, k8 r (by rw [e7]; exact h6), e7, k03 r (by omega), hI.old r hr]
variable {An : Anchor} {W : World}
set_option maxHeartbeats 1000000 in
theorem bes_calls {vs : List Int} {va : Option Addr} {vb vo vc : Nat} {oa : Option Addr} {ob oo on cp : Nat} {X : Nat → Op4} (hL : vs.length + on ≤ 3000000) (hva : 0 < vs.length → va = some ⟨vb, vo, none⟩) (hvb : 0 < vs.length → vb < W.heap.size) (hv : ∀ k v, vs[k]? = some v → W.cell? ⟨vb, vo + k, none⟩ = some (.int .i64 v))
  (ho : ∀ k, k < on → oa = some ⟨ob, oo, none⟩ ∧ OpLies W ob (oo + k * 4) (X k)) :
  Bes An Try.prog (LawStop An (LawPost W)) (G (Frame.enter Try.prog 4 #[.slice va vs.length vc, .slice oa on cp] .normal) []) W := by
 refine bes_own (F := F0) (Stop := fun a u => ∃ A d, Slots 149 A [(0, .slice va vs.length vc), (1, .slice oa on cp)] ∧ u = W.at d ∧ a = G (Frame.enter Try.prog 12 #[] .normal) [(Go.Conc.base 4).at ⟨A, []⟩ [.inRegion qco1 [0, 1], .code qcc19, .code qcs4]])
  (qc_0 fun A hA => .stop fun d => ⟨A, d, hA, rfl, rfl⟩) fun a u ⟨A, d, hA, hu, ha⟩ => ?_
 subst ha
 refine bes_awake fun w1 hs hold => ?_
 have hold1 : ∀ (r : Nat) (c : Array Value) (e : TypeId) (z : Nat × Nat), W.heap[r]? = some (.cells c e z) → w1.heap[r]? = some (.cells c e z) := fun r c e z h => hold r c e z (by rw [hu]; exact h)
 have hs1 : W.heap.size ≤ w1.heap.size := by rw [hu] at hs; exact hs
 clear hold hs hu
 refine bes_own (F := F0) (Stop := LawStop An (LawPost W)) ?_ fun a u h => Bes.stop h
 have hV : RRow W va (vs.map fun v => .int .i64 v) := ⟨fun k x hx => by
  rw [List.getElem?_map, Option.map_eq_some_iff] at hx
  obtain ⟨v, hv1, rfl⟩ := hx
  exact ⟨vb, vo, hva (Nat.lt_of_le_of_lt (Nat.zero_le _) (List.getElem?_eq_some_iff.1 hv1).1), hv k v hv1⟩⟩
 have hV1 : RRow w1 va (vs.map fun v => .int .i64 v) := hV.keepO hold1
 have ho1 : ∀ k, k < on → OpLies w1 ob (oo + k * 4) (X k) ∧ ob < w1.heap.size := fun k hk => by
  obtain ⟨_, h⟩ := ho k hk
  obtain ⟨c, e, z, hb⟩ := cell_block h.f0
  have hb1 := hold1 _ _ _ _ hb
  exact ⟨h.keep (hb1.trans hb.symm), (Array.getElem?_eq_some_iff.1 hb1).1⟩
 have hv1 : ∀ k v, vs[k]? = some v → w1.cell? ⟨vb, vo + k, none⟩ = some (.int .i64 v) := fun k v h => by
  have h1 := hv k v h
  obtain ⟨c, e, z, hb⟩ := cell_block h1
  exact (cell_same ((hold1 _ _ _ _ hb).trans hb.symm)).1.trans h1
 have hvb1 : 0 < vs.length → vb < w1.heap.size := fun h => Nat.lt_of_lt_of_le (hvb h) hs1
 refine qc_1 hA fun A hA => ?_
 refine own_piece closed1 prog_late ok3 (R := fun A' w' => ∃ ia ic, Slots 149 A' [(0, .slice va vs.length vc), (1, .slice oa on cp), (5, .slice ia vs.length ic)] ∧ w'.ownsRow w1.heap.size 2 1 (.slice ia vs.length ic) vs.length (vs.map fun v => .int .i64 v) ∧ w1.heap.size ≤ w'.heap.size ∧ ∀ r, r < w1.heap.size → w'.heap[r]? = w1.heap[r]?) (by decide) (fun τ e => qcL3 (w := retape w1 τ e) (by omega) (hV1.heap rfl) hA fun A' ia ic w' h1 h2 h3 h4 => ⟨rfl, ia, ic, h1, h2, h3, h4⟩) fun A w2 τ e hh _ => ?_
 obtain ⟨ia, ic, hA, r2, s2, k2⟩ := hh
 have r2 : w2.ownsRow w1.heap.size 2 1 (.slice ia vs.length ic) vs.length (vs.map fun v => .int .i64 v) := row_keep (w' := w2) r2 fun _ _ _ => rfl
 have s2 : w1.heap.size ≤ w2.heap.size := s2
 have k2 : ∀ r, r < w1.heap.size → w2.heap[r]? = w1.heap[r]? := k2
 refine qc_2 hA fun A hA => ?_
 obtain ⟨ib, hi1, hi2⟩ := row_in r2
 refine own_new (va := ia) (vb := ib) (vo := 0) (by omega) (fun h => (hi1 h).1) (fun h => (hi1 h).2) (fun k v hk => hi2 k _ (by rw [List.getElem?_map, hk]; rfl)) fun w3 qb bl q3 s3 k3 n3 => ?_
 refine qc_3 hA fun A hA => ?_
 refine own_piece closed1 prog_late ok5 (R := fun A' w' => ∃ rq bb bc, Slots 149 A' [(0, .slice va vs.length vc), (1, .slice oa on cp), (5, .slice ia vs.length ic), (6, .pointer (some ⟨qb, 0, none⟩)), (7, .pointer (some ⟨rq, 0, none⟩))] ∧ NewAt w3 w' rq bb bc (newRQ vs)) (by decide) (fun τ e => qcL5 (w := retape w3 τ e) (R := fun rq w' => ∃ bb bc, NewAt w3 w' rq bb bc (newRQ vs)) ((new_ref (w := retape w3 τ e) (vs := vs) (va := va) (vb := vb) (vo := vo) (vc := vc) (by omega) hva (fun h => Nat.lt_of_lt_of_le (hvb1 h) (Nat.le_trans s2 s3)) (fun k v h => ?_)).mono ?_) hA fun A' rq w' h1 ⟨bb, bc, h2⟩ => ⟨rfl, rq, bb, bc, h1, h2⟩) fun A w4 τ e hh _ => ?_
 ·have h1 := hv1 k v h
  have hlt : vb < w1.heap.size := hvb1 (Nat.lt_of_le_of_lt (Nat.zero_le _) (List.getElem?_eq_some_iff.1 h).1)
  exact (cell_same (w := w1) (w' := retape w3 τ e) (a := ⟨vb, vo + k, none⟩) ((k3 vb (by omega)).trans (k2 vb hlt))).1.trans h1
 ·rintro x w' ⟨rq, bb, bc, rfl, h⟩
  exact ⟨rq, rfl, bb, bc, ⟨h.q, h.size, h.old, h.nq, h.nb⟩⟩
 obtain ⟨rq, bb, bc, hA, hN⟩ := hh
 have Q4 : RefQ w4 rq bb bc (newRQ vs) := hN.q.heap rfl
 have s4 : w3.heap.size ≤ w4.heap.size := hN.size
 have k4 : ∀ r, r < w3.heap.size → w4.heap[r]? = w3.heap[r]? := hN.old
 have nq4 := hN.nq
 have nb4 := hN.nb
 clear hN
 refine qc_4 under_F0 (Nat.zero_le _) hA fun A hA => ?_
 have z5 : (w4.alloc (.cells #[.int .i64 0] 39)).heap.size = w4.heap.size + 1 := by simp
 have k5 : ∀ r, r < w4.heap.size → (w4.alloc (.cells #[.int .i64 0] 39)).heap[r]? = w4.heap[r]? := fun r hr => heap_alloc_lt _ _ hr
 have n5 : (w4.alloc (.cells #[.int .i64 0] 39)).heap[w4.heap.size]? = some (.cells #[.int .i64 0] 39 (0, 0)) := heap_alloc_new _ _
 generalize w4.alloc (.cells #[.int .i64 0] 39) = w5 at z5 k5 n5 ⊢
 have k15 : ∀ r, r < w1.heap.size → w5.heap[r]? = w1.heap[r]? := fun r hr => by rw [k5 r (by omega), k4 r (by omega), k3 r (by omega), k2 r hr]
 have k25 : ∀ r, r < w2.heap.size → w5.heap[r]? = w2.heap[r]? := fun r hr => by rw [k5 r (by omega), k4 r (by omega), k3 r (by omega)]
 have k35 : ∀ r, r < w3.heap.size → w5.heap[r]? = w3.heap[r]? := fun r hr => by rw [k5 r (by omega), k4 r (by omega)]
 have r5 : w5.ownsRow w1.heap.size 2 1 (.slice ia vs.length ic) vs.length (vs.map fun v => .int .i64 v) := row_keep r2 fun g _ hg => k25 g hg
 have hV5 : RRow w5 va (vs.map fun v => .int .i64 v) := hV1.keepO fun r c e z h => (k15 r (Array.getElem?_eq_some_iff.1 h).1).trans h
 refine own_piece closed1 prog_late ok7 (R := fun A' w' => Slots 149 A' [(1, .slice oa on cp), (5, .slice ia vs.length ic), (6, .pointer (some ⟨qb, 0, none⟩)), (7, .pointer (some ⟨rq, 0, none⟩)), (8, .pointer (some ⟨w4.heap.size, 0, none⟩)), (36, .bool false)] ∧ w'.heap = w5.heap) (by decide) (fun τ e => qcL7 (w := retape w5 τ e) (fun u hu => same_numbers (w := u) (by omega) ((rrow_of r5).heap hu) (hV5.heap hu)) hA fun A' w' h1 h2 => ⟨rfl, h1, h2⟩) fun A w6 τ e hh _ => ?_
 obtain ⟨hA, e6⟩ := hh
 have e6 : w6.heap = w5.heap := e6
 refine qc_5 (a := undef) hA fun A hA => ?_
 have r6 : w6.ownsRow w1.heap.size 2 1 (.slice ia vs.length ic) vs.length (vs.map fun v => .int .i64 v) := row_keep r5 fun g _ _ => by rw [e6]
 refine own_piece closed1 prog_late ok12 (R := fun A' w' => Slots 149 A' [(1, .slice oa on cp), (5, .slice ia vs.length ic), (6, .pointer (some ⟨qb, 0, none⟩)), (7, .pointer (some ⟨rq, 0, none⟩)), (8, .pointer (some ⟨w4.heap.size, 0, none⟩))] ∧ w'.heap.size = w6.heap.size ∧ ∀ r, Off ia r → w'.heap[r]? = w6.heap[r]?) (by decide) (fun τ e => qcL12 (w := retape w6 τ e) (by omega) (mine_of (row_keep (w' := retape w6 τ e) r6 fun _ _ _ => rfl)) hA fun A' w' h1 h2 h3 h4 => ⟨rfl, h1, h2, h3⟩) fun A w7 τ e hh _ => ?_
 obtain ⟨hA, s7, k7⟩ := hh
 have s7 : w7.heap.size = w6.heap.size := s7
 have k7 : ∀ r, Off ia r → w7.heap[r]? = w6.heap[r]? := k7
 have z6 : w6.heap.size = w5.heap.size := by rw [e6]
 refine qc_6 ⟨hA.1, hA.2.1, hA.2.2.2⟩ fun A hA => ?_
 have oty : ∀ {r : Nat} {c : Array Value} {t : TypeId}, w5.heap[r]? = some (.cells c t (0, 0)) → t ≠ 2 → w7.heap[r]? = w5.heap[r]? := fun {r c t} h ht => by
  rw [k7 r (off_ty r6 (by rw [e6]; exact h) ht), e6]
 have C5 : CU w5 qb w4.heap.size ⟨newRQ vs, bl⟩ 0 := ⟨q3.same fun r hr => k35 r (q3.low hr), n5⟩
 have C7 : CU w7 qb w4.heap.size ⟨newRQ vs, bl⟩ 0 := C5.keep fun r c t h ht => oty h (by rcases ht with rfl | rfl | rfl <;> decide)
 have Q5 : RefQ w5 rq bb bc (newRQ vs) := Q4.keep2 (k5 _ Q4.rqlt) (k5 _ Q4.bblt)
 obtain ⟨cur5, hb5, _⟩ := Q5.b
 have Q7 : RefQ w7 rq bb bc (newRQ vs) := Q5.keep2 (oty Q5.o (by decide)) (oty hb5 (by decide))
 have nl := newRQ_len vs
 have hI : CI w1 w7 vs.length qb w4.heap.size rq (newRQ vs) bl 0 0 := ⟨C7, ⟨bb, bc, Q7, Nat.le_trans (Nat.le_trans s2 s3) nb4⟩, calm_new vs, by omega, by omega, ⟨by omega, Nat.le_trans (Nat.le_trans s2 s3) nq4, fun r hr => Nat.le_trans s2 (n3 r hr)⟩, fun r hr => by
  rw [k7 r (off_of r6 fun g hg _ _ => by omega), e6, k15 r hr], by omega⟩
 have fin : ∀ (A' : Array Value) (w' : World), Slots 149 A' [(4, .bool true)] → (∀ r, r < w1.heap.size → w'.heap[r]? = w1.heap[r]?) → Own Try.prog true F0 (LawStop An (LawPost W)) (G { (Go.Conc.base 4).at ⟨A', []⟩ [.code .ret] with mode := .returning } []) w' := fun A' w' h1 h2 => .stop fun d => law_stop Try.func4 rfl (by decide) h1.2.1 fun r c e z h => by
  have h3 := hold1 r c e z h
  exact (h2 r (Array.getElem?_eq_some_iff.1 h3).1).trans h3
 rcases Nat.eq_zero_or_pos on with e0 | e0
 ·subst e0
  exact own_tail hI hL hA fin
 ·obtain ⟨h1, h2⟩ := ho 0 e0
  subst h1
  exact own_rounds (cp := cp) hL (fun k hk => (ho1 k hk).1) (ho1 0 e0).2 (fun A' w' q' bl' n' hI' hA' => own_tail hI' hL hA' fin) on 0 w7 _ bl 0 A (by omega) hI hA
end
noncomputable section
open Go Go.Conc Go.ChangeShapes
section
variable {H : Type} {enc : TypeId × Value → H}
theorem leaving_of_cond {a : Assume} {C : Checked} {os : Os} {f : FuncId} {fn : Func} {s : OpenSpec} {k : (H : Type) → List (DataW H) → Bool} (hk : s.cond = some k) {F : Stop.Interp} {conds : List PathCond} {apart fresh handsOn again : Bool}
  (own : ownKnob C.prog.godebug = none) (started : os.Started) (hfn : C.prog.funcs[f]? = some fn)
  (witness : ∃ (w : World) (tape : Tape) (i : Input), w.os = os ∧ (w.forCall tape i).Shaped C.prog ∧ i.vars = [] ∧ Input.okWide C.prog (w.forCall tape i) .any w.heap.size f i ∧
   s.pre6 enc C.prog fn conds apart (w.forCall tape i).memory i.args ∧ a.holds C.prog (lone (Frame.enter C.prog f i.args .normal) [] (w.forCall tape i)))
  (runs : ∀ (W : World) (base : Nat) (args : Array Value) (ds gs : List (DataW H)) (before : List MemPlace),
   (∀ (j : Nat) t v, fn.params[j]? = some t → args[j]? = some v → Value.okWide C.prog W .any base t v) →
   DataW.Whole enc C.prog fn.params.toList s.vars apart W args.toList ds gs before →
   conds.all (PathCond.test C.prog ⟨fn.params.toList, ds, s.bare.plain.varTypes C.prog, gs⟩) = true → k H (ds ++ gs) = true →
   a.holds C.prog (lone (Frame.enter C.prog f args .normal) [] W) →
   ∃ M last o w' t', runNT C.prog (M + 1) (solo (G (Frame.enter C.prog f args .normal) []) W) #[] = (.ended o w', t') ∧ runN C.prog M (solo (G (Frame.enter C.prog f args .normal) []) W) = .next last ∧
    step C.prog last = .ended o w' ∧ Conc.Good C.prog (fun v W' => (s.at F).post enc C.prog fn apart fresh handsOn again W args v W') last o w' t') :
  ReturnsInLeavingWide a C os f .any (s.pre6 enc C.prog fn conds apart) ((s.at F).post enc C.prog fn apart fresh handsOn again) := by
 refine returnsInLeavingWide_of_good own started witness ?_
 intro w tape i _ _ _ hok hpre hholds
 obtain ⟨_, _, _, fn', hfn', _, _, _, _, hval⟩ := hok
 have e : fn' = fn := Option.some.inj (hfn'.symm.trans hfn)
 subst e
 obtain ⟨ds, gs, before, hw, hc, hkk⟩ := (OpenSpec.pre_some hk conds apart _ _).1 hpre.1
 have hw' := DataW.Whole.of_heap (w' := w.forCall tape i) (by rfl) hw
 obtain ⟨M, last, o, w', t', h1, h2, h3, h4⟩ := runs (w.forCall tape i) w.heap.size i.args ds gs before hval hw' hc hkk hholds
 exact ⟨M, last, o, w', t', h1, h2, h3, h4.mono fun v hp => ChangeSpec.post_blind hp⟩
end
theorem holds_cond_leaving {p : Pinned} {s : OpenSpec} {c : OpenClaim} (f : FuncId) (fn : Func)
  (hn : c.program = p.name) (hs : c.sum = p.sum) (hsp : c.spec = s.name)
  (hstart : c.start = .entering) (hout : c.outside = []) (hin : c.inits = []) (hun : c.under = none) (hi4 : c.initsInPlace = [] ∧ c.initsUnfollowed = false ∧ c.initsRecurse = false ∧ c.initsNamed = [] ∧ c.initsPassed = []) (hnb : c.noBlocks = false) (hlv : c.leaving = true) (hfo : c.followed = none) (hnar : c.narrowed = s.cond.isSome) (hstill : c.still = false)
  (hfn : p.checked.prog.funcNamed c.func = some f) (hf : p.checked.prog.funcs[f]? = some fn)
  (closed : joinedFacts p.checked.prog f fn s.bare c = true)
  (hinst : fn.isInstance p.checked.prog c.origin c.targs) (hwrap : fn.isWrapper p.checked.prog c.wrapper c.mainSum)
  (h : ∀ os : Os, os.Started → ∀ (H : Type) (enc : TypeId × Value → H), (∀ a b, enc a = enc b → a = b) → ∀ F : Stop.Interp,
   ReturnsInLeavingWide c.assume p.checked os f .any (c.pre enc p.checked.prog fn s) ((s.at F).post enc p.checked.prog fn c.apart c.fresh c.handsOn c.again)) : c.holds p s := by
 simp only [joinedFacts, Bool.and_eq_true, beq_iff_eq, Array.all_eq_true_iff_forall_mem, List.all_eq_true, decide_eq_true_eq] at closed
 obtain ⟨⟨⟨⟨⟨⟨⟨⟨⟨⟨⟨⟨⟨⟨⟨⟨⟨⟨⟨⟨⟨⟨⟨⟨⟨⟨⟨⟨⟨⟨⟨k1, k2⟩, k3⟩, k4⟩, k5⟩, k6⟩, k7⟩, k8⟩, k9⟩, k10⟩, k11⟩, k12⟩, k13⟩, k14⟩, k15⟩, k16⟩, k17⟩, k17b⟩, k18⟩, k19⟩, k20⟩, k21⟩, k22⟩, k23⟩, k23b⟩, k24⟩, k24b⟩, k24c⟩, k25⟩, k26⟩, k27⟩, k28⟩ := closed
 have hq : ∀ os : Os, Stop.quiet p.checked.prog os := fun os k hk => by rw [k9] at hk; cases hk
 refine ⟨k1, hn, hs, hsp, k2, k3, by unfold OpenClaim.startFits; rw [hstart]; exact k24, by unfold OpenClaim.startTold; rw [hstart]; exact ⟨hin, hun, hi4⟩, f, fn, hfn, hf, ⟨k4, k19⟩, (fun hb => by rw [hnb] at hb; cases hb), by unfold OpenClaim.namedList; rw [hfo]; exact k5, hinst, hwrap,
  k6.trans k7.symm, ⟨k8.trans k9.symm, by unfold Program.envWorded; rw [k9]; rfl, k23b⟩, k10, k11, k12, k13, k14, ⟨k15, k27, k28⟩, ⟨k16, k20⟩, ⟨k17, k21, k25, k26⟩, ⟨k22, k24b, k24c, k17b⟩, (by rw [hout, hnar]; cases hsh : c.shortTexts with | none => simp | some _ => rw [hsh] at k23; cases k23), fun n hn' => varReadable_some (k18 n hn'),
  ⟨_, by unfold OpenClaim.world; rw [hout, hstart]; exact WideRow.started_initial, hq _⟩, [], by unfold OpenClaim.lists; rw [hfo], fun os st _ H enc inj => ?_⟩
 have st' : os.Started := by unfold OpenClaim.world at st; rw [hout, hstart] at st; exact st
 rw [OpenClaim.post_not_still hstill]
 unfold OpenClaim.form
 rw [hstart, k6]
 intro F
 have e1 : c.okInput = Input.okWide := by unfold OpenClaim.okInput; rw [hnb]
 have e2 : c.atReturn p.checked.prog = leavingAtReturn p.checked.prog := by unfold OpenClaim.atReturn; rw [hlv]
 have e3 : c.always p.checked.prog [] = nothingAlways := by unfold OpenClaim.always; rw [hfo]
 have e4 : s.post enc p.checked.prog fn F c.outside c.apart c.fresh c.handsOn c.again = (s.at F).post enc p.checked.prog fn c.apart c.fresh c.handsOn c.again := by rw [hout]; rfl
 rw [e1, e2, e3]
 show ReturnsInOpen _ _ _ _ _ _ _ _ (s.post enc p.checked.prog fn F c.outside c.apart c.fresh c.handsOn c.again) _ _
 rw [e4]
 exact h os st' H enc inj F k24
end
noncomputable section
open Go.ChangeShapes Go.WideShapes Go.ChangeAt
theorem Try.own : ownKnob Try.prog.godebug = none := by kernel_rfl
theorem Try.laidOut : laidOutB Try.prog = true := by kernel_rfl
theorem calls_lifted (os : Os) (started : os.Started) (H : Type) (enc : TypeId × Value → H) (F : Stop.Interp) :
  ReturnsInLeavingWide {} Try.checked os 4 .any ((Rows.OpenSpec.upto Rows.queueCallsSpec).pre6 enc Try.prog Try.f4 Rows.queueCallsUptoRow.domain false) (((Rows.OpenSpec.upto Rows.queueCallsSpec).at F).post enc Try.prog Try.f4 false true false false) := by
 refine leaving_of_cond (C := Try.checked) (s := Rows.OpenSpec.upto Rows.queueCallsSpec) (k := Rows.uptoSmall) rfl Try.own started Try.func4
  (OpenSpec.witness (enc := enc) (C := Try.checked) (s := Rows.OpenSpec.upto Rows.queueCallsSpec) (k := Rows.uptoSmall) rfl false ⟨#[], #[.slice none 0 0, .slice none 0 0], []⟩ 8 (by kernel_rfl) (by kernel_rfl) (by kernel_rfl)
   (x := ([.nil, .nil], [], [])) (by kernel_rfl) rfl (by kernel_rfl)) ?_
 intro W base args ds gs before hval0 hW _ hkk _
 have hval : ∀ (j : Nat) t v, Try.f4.params[j]? = some t → args[j]? = some v → Value.okWide Try.prog W .any base t v := hval0
 have hW' := hW
 obtain ⟨p, q, hA0, hV, rfl, hfz, _⟩ := hW
 have hA : DataW.TrodAll enc Try.prog W 0 (fun _ => true) true Try.f4.params.toList args.toList ds p := hA0
 rw [Try.params4] at hA hval
 obtain ⟨v0, v1, d0, d1, p0, p1, rfl, rfl, rfl, h0, h1⟩ := trodAll_two hA
 obtain ⟨rfl, rfl⟩ := trodVars_none hV
 clear hA0 hval0
 simp only [List.append_nil] at hW' hfz hkk
 have hlt : ∀ x ∈ p0 ++ p1, x.block < W.heap.size := fun x hx => by simpa using hW'.lt x hx
 have hb : Rows.uptoBulkAll [d0, d1] ≤ 1048576 := by simpa [Rows.uptoSmall] using hkk
 have b0 : Rows.uptoBulk d0 ≤ 1048576 := Nat.le_trans (bulk_part (by simp)) hb
 have b1 : Rows.uptoBulk d1 ≤ 1048576 := Nat.le_trans (bulk_part (by simp)) hb
 obtain ⟨va, vs, vc, vb, vo, rfl, l0, hvs⟩ := ints_in Try.underlying22 Try.underlying2 cells2 (hval 0 22 v0 rfl rfl) h0 (fun b o h => hfz b o (by simp [h])) (fun x hx => hlt x (by simp [hx]))
 obtain ⟨fuel1, hf1⟩ := h1
 obtain ⟨oa0, ol0, oc0, rfl⟩ := okWide_slice Try.underlying32 (hval 1 32 v1 rfl rfl)
 obtain ⟨oa, on, cp, ob, oo, X, e, _, l1, hX⟩ := ops_in (v := .slice oa0 ol0 oc0) hf1 (fun b o h => hfz b o (by simp [h]))
 cases e
 have hbes := bes_calls (An := ⟨W.heap.size, W⟩) (W := W) (vc := vc) (cp := oc0) (X := X) (by omega) (fun h => (hvs h).1) (fun h => (hvs h).2.1) (fun k v hk => by
  obtain ⟨_, _, _, _, _, _, e4⟩ := hvs (Nat.lt_of_le_of_lt (Nat.zero_le _) (List.getElem?_eq_some_iff.1 hk).1)
  exact (e4 k v hk).2.2.1) hX
 obtain ⟨N, last, o', w', t', g1, g2, g3, g4⟩ := bes_good (An := ⟨W.heap.size, W⟩) (Post := fun v w' => LawPost W v w' ∧ (⟨W.heap.size, W⟩ : Anchor).Holds w') (W := W) ⟨rfl, rfl, rfl, Nat.le_refl _, fun r o _ h _ => h⟩ (Bes.bind hbes fun g w h => Bes.stop ⟨h.1, fun d => by
  obtain ⟨v, e1, e2⟩ := h.2 d
  exact ⟨v, e1, fun hh => ⟨e2 hh, hh⟩⟩⟩)
 refine ⟨N, last, o', w', t', g1, g2, g3, g4.mono fun v hF => ?_⟩
 obtain ⟨⟨rfl, hk⟩, hh⟩ := hF
 have hbelow := below_of hh hk
 have r0 := Below.trod Try.laidOut (by kernel_rfl) (of_decide_eq_true (by kernel_rfl)) h0 hbelow (fun x hx => hlt x (by simp [hx]))
 have r1 := Below.trod Try.laidOut (by kernel_rfl) (of_decide_eq_true (by kernel_rfl)) ⟨fuel1, hf1⟩ hbelow (fun x hx => hlt x (by simp [hx]))
 refine ⟨_, _, _, [], p0 ++ p1, [], hW', ?_, ?_, rfl, hbelow.frame _, fun h => by cases h⟩
 ·exact trodAll_mk1 (shut_bool Try.underlying4 true)
 ·exact trodAll_mk2 r0 r1
theorem queueCalls_holds : Rows.QueueCallsUptoSaid :=
 holds_cond_leaving 4 Try.f4 rfl rfl rfl rfl rfl rfl rfl ⟨rfl, rfl, rfl, rfl, rfl⟩ rfl rfl rfl rfl rfl (by kernel_rfl) Try.func4 (by kernel_rfl)
  (of_decide_eq_true (by kernel_rfl)) (by unfold Func.isWrapper; first | (rw [if_pos (by decide +kernel)]; kernel_rfl) | (rw [if_neg (by decide +kernel)]; exact ⟨rfl, rfl⟩))
  (fun os started H enc _ F => calls_lifted os started H enc F)
end
end Go.Proofs.Ytcejbandeikdjaa
