/-
  The law QueueCalls holds of the given program: a queue's calls by themselves answer, step and keep what the document's reference does, for arguments of at most 1048576 items in all (QueueCallsUptoSaid).
  Part 4 of 6.
-/
import Derived.Test.YtcejbandeikdjaaZC
import Derived.WalkKit
import Derived.RegionTactic
import Derived.ChangeAlike
import Derived.Deep.QuietTactic
import Derived.BigQuiet
import Derived.StillTailTactics
set_option linter.unusedSimpArgs false
set_option linter.unusedVariables false
set_option maxRecDepth 100000
set_option maxHeartbeats 2000000
namespace Go.Proofs.Ytcejbandeikdjaa
open Go Go.Conc Go.RowKit Go.Proofs
noncomputable section
variable {F : Fz} {w w' : World} {L : Lay} {p : Par} {g : Gate} {x y : OX L} {i : Nat}
theorem NotedA.at {aa ab i m : Nat} {v a b c : Value} {xs : List Value} {v' : Value} (h : NotedA F aa ab i m v a b c xs w w' v') (d : Nat) : NotedA F aa ab i m v a b c xs w (w'.at d) v' :=
 ⟨⟨h.wf.own⟩, h.row, h.arr, h.size, h.own, h.old⟩
theorem ou_noted (hL : L.Ok) (hP : p.Ok L) (hi : i < p.n) {an : L.A} {ab : Nat} (h : OU L p g x w) (hc : (x.th i).call = none) (hk : (x.th i).k < (p.ops i).length) (hau : L.AU an w) (hna : ∀ r, L.AR an r → NF L p x r ∧ r ≠ ab) {F2 : Fz} {a b c : Value} (hac : (L.AV an).cells = [a, b, c]) {v' : Value}
  (hn : NotedA F2 p.aa ab i (x.th i).k (x.th i).row a b c (((x.th i).ans.map fun a => (L.AV a).cells).flatten) w w' v') :
  OU L p g (upd x i x.s ⟨(x.th i).k + 1, none, (x.th i).ans ++ [an], v'⟩) w' ∧ (∀ r, OR L p (upd x i x.s ⟨(x.th i).k + 1, none, (x.th i).ans ++ [an], v'⟩) r → OR L p x r ∨ L.AR an r ∨ w.heap.size ≤ r) := by
 have ht := h.thr i hi
 have hsame : ∀ r, r < w.heap.size → r ≠ p.aa → some r ≠ Value.ownBlock (x.th i).row → w'.heap[r]? = w.heap[r]? := hn.old
 have hT : ∀ r, TR (⟨(x.th i).k + 1, none, (x.th i).ans ++ [an], v'⟩ : Thr L) r → TR (x.th i) r ∨ L.AR an r ∨ w.heap.size ≤ r := by
  rintro r (h1 | ⟨a, ha, h1⟩ | ⟨c, A, ab, h1, h2⟩)
  ·rcases hn.own r h1 with h2 | h2
   ·exact .inl (.inl h2.symm)
   ·exact .inr (.inr h2)
  ·rcases List.mem_append.1 ha with ha | ha
   ·exact .inl (.inr (.inl ⟨a, ha, h1⟩))
   ·rw [List.mem_singleton] at ha
    subst ha
    exact .inr (.inl h1)
  ·cases h1
 have hO : ∀ r, OR L p (upd x i x.s ⟨(x.th i).k + 1, none, (x.th i).ans ++ [an], v'⟩) r → OR L p x r ∨ L.AR an r ∨ w.heap.size ≤ r := by
  rintro r (h1 | rfl | ⟨j, hj, h1⟩)
  ·exact .inl (.inl h1)
  ·exact .inl (.inr (.inl rfl))
  ·by_cases e : j = i
   ·subst e
    rw [upd_self] at h1
    rcases hT r h1 with h2 | h2 | h2
    ·exact .inl (.inr (.inr ⟨j, hj, h2⟩))
    ·exact .inr (.inl h2)
    ·exact .inr (.inr h2)
   ·rw [upd_ne e] at h1
    exact .inl (.inr (.inr ⟨j, hj, h1⟩))
 have hrow : ∀ r, some r = Value.ownBlock (x.th i).row → TR (x.th i) r := fun r hr => .inl hr.symm
 have hrowI : ∀ r, p.I r ≠ none → some r ≠ Value.ownBlock (x.th i).row := fun r hr e => hr (h.inone r (.inr (.inr ⟨i, hi, hrow r e⟩)))
 have haaI : ∀ r, p.I r ≠ none → r ≠ p.aa := fun r hr e => hr (h.inone r (.inr (.inl e)))
 have hX : ∀ r, TR (⟨(x.th i).k + 1, none, (x.th i).ans ++ [an], v'⟩ : Thr L) r → ∀ j, j < p.n → j ≠ i → ¬ TR (x.th j) r := by
  intro r hr j hj hne hh
  rcases hT r hr with h2 | h2 | h2
  ·exact h.tt j i hj hi hne r hh h2
  ·exact (hna r h2).1.1 (.inr (.inr ⟨j, hj, hh⟩))
  ·have := (h.thr j hj).low hL hh; omega
 refine ⟨⟨fixed_stable h.fix fun r hr => hsame r (fixed_lt h.fix hr) (haaI r hr) (hrowI r hr), hL.sS _ w w' h.su hn.size fun r hr => hsame r (hL.lS _ _ _ h.su hr) (by rintro rfl; exact h.sa hr) fun e => (h.ts i hi r (hrow r e)).1 hr, ?_, ?_, ?_, h.sa, ?_, ?_, ?_⟩, hO⟩
 ·obtain ⟨c, h1, h2, h3⟩ := h.arr
  refine ⟨_, hn.arr c h1, by simpa using h2, fun j hj => ?_⟩
  by_cases e : j = i
  ·subst e
   rw [upd_self, Array.getElem?_setIfInBounds_self_of_lt (by omega)]
  ·rw [upd_ne e, Array.getElem?_setIfInBounds_ne (fun e1 => e e1.symm)]
   exact h3 j hj
 ·intro j hj
  by_cases e : j = i
  ·subst e
   rw [upd_self]
   refine ⟨?_, ?_, ?_, ?_, ?_, fun c A ab h1 => by cases h1⟩
   ·have := hn.row
    simp only [List.map_append, List.map_cons, List.map_nil, List.flatten_append, List.flatten_cons, List.flatten_nil, List.append_nil, List.length_append, List.length_cons, List.length_nil, hac, ht.al]
    exact this
   ·intro a ha
    rcases List.mem_append.1 ha with ha | ha
    ·exact hL.sA a w w' (ht.au a ha) hn.size fun r hr => hsame r (ht.low hL (.inr (.inl ⟨a, ha, hr⟩))) (h.ts j hj r (.inr (.inl ⟨a, ha, hr⟩))).2 (ht.ar a ha r hr)
    ·rw [List.mem_singleton] at ha
     subst ha
     exact hL.sA a w w' hau hn.size fun r hr => hsame r (hL.lA a w r hau hr) (fun e => (hna r hr).1.1 (.inr (.inl e))) (fun e => (hna r hr).1.1 (.inr (.inr ⟨j, hj, hrow r e⟩)))
   ·simp [ht.al]
   ·exact hk
   ·intro a ha r hr e
    rcases hn.own r e.symm with h2 | h2
    ·rcases List.mem_append.1 ha with ha | ha
     ·exact ht.ar a ha r hr h2
     ·rw [List.mem_singleton] at ha
      subst ha
      exact (hna r hr).1.1 (.inr (.inr ⟨j, hj, hrow r h2⟩))
    ·rcases List.mem_append.1 ha with ha | ha
     ·have := ht.low hL (.inr (.inl ⟨a, ha, hr⟩)); omega
     ·rw [List.mem_singleton] at ha
      subst ha
      have := hL.lA a w r hau hr; omega
  ·rw [upd_ne e]
   exact (h.thr j hj).stable hL hn.size fun r hr => hsame r ((h.thr j hj).low hL hr) (h.ts j hj r hr).2 fun e1 => h.tt j i hj hi e r hr (hrow r e1)
 ·intro j hj r hr
  by_cases e : j = i
  ·subst e
   rw [upd_self] at hr
   rcases hT r hr with h2 | h2 | h2
   ·exact h.ts j hj r h2
   ·exact ⟨fun hh => (hna r h2).1.1 (.inl hh), fun e => (hna r h2).1.1 (.inr (.inl e))⟩
   ·refine ⟨fun hh => ?_, ?_⟩
    ·have := hL.lS _ _ _ h.su hh; omega
    ·rintro rfl
     have := h.aalt; omega
  ·rw [upd_ne e] at hr
   exact h.ts j hj r hr
 ·intro j hj c A ab hc
  by_cases e : j = i
  ·subst e
   rw [upd_self] at hc
   cases hc
  ·rw [upd_ne e] at hc
   exact h.jj j hj c A ab hc
 ·intro j k hj hk2 hne r h1 h2
  by_cases e : j = i
  ·subst e
   rw [upd_self] at h1
   rw [upd_ne (fun e => hne e.symm)] at h2
   exact hX r h1 k hk2 (fun e => hne e.symm) h2
  ·rw [upd_ne e] at h1
   by_cases e2 : k = i
   ·subst e2
    rw [upd_self] at h2
    exact hX r h2 j hj e h1
   ·rw [upd_ne e2] at h2
    exact h.tt j k hj hk2 hne r h1 h2
 ·intro r hr
  rcases hO r hr with h1 | h1 | h1
  ·exact h.inone r h1
  ·exact (hna r h1).1.2
  ·exact h.inone' (.inr h1)
theorem own_note (hL : L.Ok) (hP : p.Ok L) (hi : i < p.n) {an : L.A} {ab : Nat} {A0 : Array Value} (h : OU L p g x w) (hc : (x.th i).call = none) (hk : (x.th i).k < (p.ops i).length) (hau : L.AU an w) (hna : ∀ r, L.AR an r → NF L p x r ∧ r ≠ ab) (ha : Ans w ab) (hnb : NF L p x ab) (hwf : Wf F w) (hF : ∀ r, OR L p x r ∨ r = ab → F r = none) (hA : Slots 33 A0 (dgS8 p (g.st i) i (x.th i).k ab)) {cs : List Frame} {Stop : Goroutine → World → Prop}
  (K : ∀ w' A v', OU L p g (upd x i x.s ⟨(x.th i).k + 1, none, (x.th i).ans ++ [an], v'⟩) w' → (∀ r, OR L p (upd x i x.s ⟨(x.th i).k + 1, none, (x.th i).ans ++ [an], v'⟩) r → OR L p x r ∨ L.AR an r ∨ w.heap.size ≤ r) → w.heap.size ≤ w'.heap.size → Wf F w' → Slots 33 A (dgS p (g.st i) i ((x.th i).k + 1)) →
   Own Try.prog false F Stop (G ((Go.Conc.base 68).at ⟨A, []⟩ [.code dgs2, .inLoop dgs2, .inBlock 0]) cs) w') :
  Own Try.prog false F Stop (back (L.AV an).v (dgFr A0 :: cs)) w := by
 have hkl := hP.len i hi
 refine dg_2a (lc := (L.AV an).lc) ha (fun k hh => ?_) hA fun A1 hA1 => ?_
 ·obtain ⟨z, hz, _⟩ := hh
  rw [hF ab (.inr rfl)] at hz
  cases hz
 have hsz : ((((w.setCell ⟨ab, 0, none⟩ (.bool (L.AV an).ok)).setCell ⟨ab, 1, none⟩ (.int .i64 (L.AV an).n)).setCell ⟨ab, 2, none⟩ (.slice (L.AV an).la (L.AV an).ll (L.AV an).lc))).heap.size = w.heap.size := by simp
 have hne : ∀ r, r ≠ ab → ((((w.setCell ⟨ab, 0, none⟩ (.bool (L.AV an).ok)).setCell ⟨ab, 1, none⟩ (.int .i64 (L.AV an).n)).setCell ⟨ab, 2, none⟩ (.slice (L.AV an).la (L.AV an).ll (L.AV an).lc))).heap[r]? = w.heap[r]? := by
  intro r hr
  rw [heap_setCell_ne _ _ _ hr, heap_setCell_ne _ _ _ hr, heap_setCell_ne _ _ _ hr]
 have hab : ((((w.setCell ⟨ab, 0, none⟩ (.bool (L.AV an).ok)).setCell ⟨ab, 1, none⟩ (.int .i64 (L.AV an).n)).setCell ⟨ab, 2, none⟩ (.slice (L.AV an).la (L.AV an).ll (L.AV an).lc))).heap[ab]? = some (.cells #[.bool (L.AV an).ok, .int .i64 (L.AV an).n, .slice (L.AV an).la (L.AV an).ll (L.AV an).lc] 46 (0, 0)) := by
  obtain ⟨a, b, c, h1⟩ := ha.o
  rw [heap_setCell_eq (heap_setCell_eq (heap_setCell_eq h1 _) _) _]
  rfl
 generalize (((w.setCell ⟨ab, 0, none⟩ (.bool (L.AV an).ok)).setCell ⟨ab, 1, none⟩ (.int .i64 (L.AV an).n)).setCell ⟨ab, 2, none⟩ (.slice (L.AV an).la (L.AV an).ll (L.AV an).lc)) = W at hsz hne hab ⊢
 have hU : OU L p g x W := h.stable hL (by omega) fun r hr => hne r (by
  rintro rfl
  rcases hr with hr | hr
  ·exact hnb.1 hr
  ·exact hr hnb.2)
 have hauW : L.AU an W := hL.sA an w W hau (by omega) fun r hr => hne r (hna r hr).2
 have hwfW : Wf F W := by
  constructor
  intro r z hz
  obtain ⟨c, e, z0, h1, h2⟩ := hwf.own r z hz
  refine ⟨c, e, z0, (hne r ?_).trans h1, h2⟩
  rintro rfl
  rw [hF r (.inr rfl)] at hz
  cases hz
 have ht := hU.thr i hi
 have hmF : ∀ r, (r = p.aa ∨ some r = Value.ownBlock (x.th i).row) → F r = none := by
  rintro r (rfl | hr)
  ·exact hF _ (.inl (.inr (.inl rfl)))
  ·exact hF _ (.inl (.inr (.inr ⟨i, hi, .inl hr.symm⟩)))
 obtain ⟨c0, harr, hcs, hci⟩ := hU.arr
 have hrI : ∀ r, p.I r ≠ none → some r ≠ Value.ownBlock (x.th i).row := fun r hr e => hr (h.inone r (.inr (.inr ⟨i, hi, .inl e.symm⟩)))
 have key := dg_2b (F := FU F (fun r => r = p.aa ∨ some r = Value.ownBlock (x.th i).row) W) (w := W) (nn := W.heap.size) (main := false) (cs := cs) (kk := [.inBlock 1, .code dgr7, .inLoop dgs2, .inBlock 0]) (Stop := fun a u => ∃ v' A, a = G ((Go.Conc.base 68).at ⟨A, []⟩ [.inBlock 1, .code dgr7, .inLoop dgs2, .inBlock 0]) cs ∧ NotedA (FU F (fun r => r = p.aa ∨ some r = Value.ownBlock (x.th i).row) W) p.aa ab i (x.th i).k (x.th i).row (.bool (L.AV an).ok) (.int .i64 (L.AV an).n) (.slice (L.AV an).la (L.AV an).ll (L.AV an).lc) (((x.th i).ans.map fun a => (L.AV a).cells).flatten) W u v' ∧ Slots 33 A (dgS8 p (g.st i) i (x.th i).k ab))
  fu_under (Nat.le_refl _) ⟨rfl, rfl, rfl⟩ hi (by omega) ⟨fu_wf, hP.av W hU.fix, hP.ib W hU.fix i hi, ⟨c0, harr, hci i hi⟩, hab⟩ (by rw [← ht.al]; exact ht.row) (fu_mine (.inl rfl)) (fun b hb => fu_mine (.inr hb.symm)) ⟨fun e => (h.ts i hi _ (.inl e.symm)).2 rfl, fun e => hnb.1 (.inr (.inr ⟨i, hi, .inl e.symm⟩)), hrI _ hP.inI.1, hrI _ (hP.inI.2 i hi)⟩
  (fun r c e z0 h1 h2 h3 h4 => ⟨_, fu_cells (fun hm => hm.elim h2 h3) h1, fun e => by simp only [Prod.mk.injEq] at e; omega⟩) hA1 fun w2 v' A2 hn hA2 => .stop fun d => ⟨v', A2, rfl, hn.at d, hA2⟩
 refine (own_weaken (fun a ha => fu_held hwfW hmF ha) key).bind fun a u hs => ?_
 obtain ⟨v', A2, rfl, hn, hA2⟩ := hs u.drawn
 have hn : NotedA _ p.aa ab i (x.th i).k (x.th i).row (.bool (L.AV an).ok) (.int .i64 (L.AV an).n) (.slice (L.AV an).la (L.AV an).ll (L.AV an).lc) (((x.th i).ans.map fun a => (L.AV a).cells).flatten) W u v' := hn
 refine dg_2c (by omega) hA2 fun A3 hA3 => ?_
 obtain ⟨q1, q2⟩ := ou_noted hL hP hi hU hc hk hauW hna rfl hn
 refine K u A3 v' q1 (fun r hr => ?_) (by have := hn.size; omega) ?_ hA3
 ·rcases q2 r hr with h1 | h1 | h1
  ·exact .inl h1
  ·exact .inr (.inl h1)
  ·exact .inr (.inr (by omega))
 ·constructor
  intro r z hz
  obtain ⟨c, e, z0, h1, h2⟩ := hwfW.own r z hz
  refine ⟨c, e, z0, (hn.old r (Array.getElem?_eq_some_iff.1 h1).1 ?_ ?_).trans h1, h2⟩
  ·rintro rfl
   rw [hmF _ (.inl rfl)] at hz
   cases hz
  ·intro e
   rw [hmF _ (.inr e)] at hz
   cases hz
end
noncomputable section
variable {F : Fz} {w w' w0 : World} {L : Lay} {p : Par} {g : Gate} {x y x0 : OX L} {i : Nat}
theorem OU.at (hL : L.Ok) (h : OU L p g x w) (d : Nat) : OU L p g x (w.at d) := h.stable hL (Nat.le_refl _) fun _ _ => rfl
theorem wf_none (hw0 : Wf F w0) {r : Nat} (h : w0.heap.size ≤ r) : F r = none := by
 cases e : F r with
 | none => rfl
 | some z =>
  obtain ⟨c, e1, z0, h1, _⟩ := hw0.own r z e
  have := (Array.getElem?_eq_some_iff.1 h1).1
  omega
theorem wf_under (hw0 : Wf F w0) : Under F w0.heap.size := by
 intro r z h
 obtain ⟨c, e1, z0, h1, _⟩ := hw0.own r z h
 exact (Array.getElem?_eq_some_iff.1 h1).1
theorem nf_after (hL : L.Ok) (h : OU L p g x w) (hi : i < p.n) {s' : L.S} {r : Nat} (hr : (∃ c A ab, (x.th i).call = some (c, A, ab) ∧ L.CR c r) ∨ w.heap.size ≤ r) (hs : ¬ L.SR s' r) : NF L p (upd x i s' { x.th i with call := none }) r := by
 have hM : ∀ q, (∃ c A ab, (x.th i).call = some (c, A, ab) ∧ L.CR c q) → MineC L x i q := fun q h => .inr h
 refine ⟨?_, ?_⟩
 ·rintro (h1 | rfl | ⟨j, hj, h1⟩)
  ·exact hs h1
  ·rcases hr with hr | hr
   ·exact h.aaM hi (hM _ hr)
   ·have := h.aalt; omega
  ·by_cases e : j = i
   ·subst e
    rw [upd_self] at h1
    rcases h1 with h1 | ⟨a, ha, h1⟩ | ⟨c, A, ab, h1, _⟩
    ·rcases hr with hr | hr
     ·exact h.rowM hj h1 (hM _ hr)
     ·have := (h.thr j hj).low hL (.inl h1); omega
    ·rcases hr with hr | hr
     ·exact h.ansM hj ha h1 (hM _ hr)
     ·have := (h.thr j hj).low hL (.inr (.inl ⟨a, ha, h1⟩)); omega
    ·cases h1
   ·rw [upd_ne e] at h1
    rcases hr with hr | hr
    ·exact h.other hi hj e h1 (hM _ hr)
    ·have := (h.thr j hj).low hL h1; omega
 ·rcases hr with hr | hr
  ·exact h.inone r (mine_or hi (hM _ hr))
  ·exact h.inone' (.inr hr)
theorem nf_ab (hL : L.Ok) (h : OU L p g x w) (hi : i < p.n) {s' : L.S} (hsr : ∀ q, L.SR s' q → MineC L x i q ∨ w.heap.size ≤ q) {c0 : L.C} {A0 : Array Value} {ab : Nat} (hc : (x.th i).call = some (c0, A0, ab)) : NF L p (upd x i s' { x.th i with call := none }) ab := by
 have hT : TR (x.th i) ab := .inr (.inr ⟨c0, A0, ab, hc, .inl rfl⟩)
 obtain ⟨_, k2, _, k4, k5, _, k7, _⟩ := (h.thr i hi).call c0 A0 ab hc
 refine ⟨?_, h.inone ab (.inr (.inr ⟨i, hi, hT⟩))⟩
 rintro (h1 | e1 | ⟨j, hj, h1⟩)
 ·rcases hsr ab h1 with h2 | h2
  ·exact h.abM hi hc h2
  ·have := (h.thr i hi).low hL hT; omega
 ·exact (h.ts i hi ab hT).2 e1
 ·by_cases e : j = i
  ·subst e
   rw [upd_self] at h1
   rcases h1 with h1 | ⟨a, ha, h1⟩ | ⟨c, A, ab, h1, _⟩
   ·exact k5 h1.symm
   ·exact (k7 a ha ab h1).1 rfl
   ·cases h1
  ·rw [upd_ne e] at h1
   exact h.tt j i hj hi e ab h1 hT
theorem nf_fresh (hL : L.Ok) (h : OU L p g x w) (hi : i < p.n) {s' : L.S} (hsr : ∀ q, L.SR s' q → MineC L x i q ∨ w.heap.size ≤ q) {ab : Nat} (hlt : ab < w.heap.size) (hn : NF L p x ab) (hc : (x.th i).call = none) : NF L p (upd x i s' { x.th i with call := none }) ab := by
 refine ⟨?_, hn.2⟩
 rintro (h1 | e1 | ⟨j, hj, h1⟩)
 ·rcases hsr ab h1 with h2 | h2
  ·exact hn.1 (mine_or hi h2)
  ·omega
 ·exact hn.1 (.inr (.inl e1))
 ·by_cases e : j = i
  ·subst e
   rw [upd_self] at h1
   have h2 : TR (x.th j) ab := by
    rcases h1 with h1 | h1 | ⟨c, A, ab, h1, _⟩
    ·exact .inl h1
    ·exact .inr (.inl h1)
    ·cases h1
   exact hn.1 (.inr (.inr ⟨j, hj, h2⟩))
  ·rw [upd_ne e] at h1
   exact hn.1 (.inr (.inr ⟨j, hj, h1⟩))
def TEnd (L : Lay) (p : Par) (g : Gate) (i : Nat) (y : OX L) (cs : List Frame) (a : Goroutine) : Prop :=
 ((opsUsers L p g).liv y i = true ∧ a = G (Frame.enter Try.prog 119 #[.pointer (some ⟨g.st i, 0, none⟩)] .normal) ((opsUsers L p g).fr y i ++ cs)) ∨ ((opsUsers L p g).liv y i = false ∧ ∃ v, a = back v cs)
def AdvTo (L : Lay) (p : Par) (g : Gate) (i : Nat) (x0 : OX L) (w0 : World) (S : OX L → Prop) (x : OX L) (cs : List Frame) (a : Goroutine) (u : World) : Prop :=
 ∃ y, S y ∧ (∀ j, j ≠ i → y.th j = x.th j) ∧ OU L p g y u ∧ (∀ r, OR L p y r → OR L p x0 r ∨ w0.heap.size ≤ r) ∧ TEnd L p g i y cs a
theorem own_adv (hL : L.Ok) (hP : p.Ok L) (hi : i < p.n) (hF0 : ∀ r, OR L p x0 r → F r = none) (hw0 : Wf F w0) (c : Frame) (cs : List Frame) : ∀ (m : Nat) (x : OX L) (w : World) (A : Array Value), (p.ops i).length - (x.th i).k = m → OU L p g x w → (x.th i).call = none → Wf F w → w0.heap.size ≤ w.heap.size → (∀ r, OR L p x r → OR L p x0 r ∨ w0.heap.size ≤ r) → Slots 33 A (dgS p (g.st i) i (x.th i).k) →
  Own Try.prog false F (AdvTo L p g i x0 w0 (fun y => Adv L p i (x.s, x.th i) (y.s, y.th i)) x (c :: cs)) (G ((Go.Conc.base 68).at ⟨A, []⟩ [.code dgs2, .inLoop dgs2, .inBlock 0]) (c :: cs)) w := by
 have hFn : ∀ r, OR L p x0 r ∨ w0.heap.size ≤ r → F r = none := fun r h => h.elim (hF0 r) (wf_none hw0)
 intro m
 induction m with
 | zero =>
  intro x w A hm h hc hwf hsz hO hA
  have hk : (x.th i).k = (p.ops i).length := by have := (h.thr i hi).kl; omega
  rw [hk] at hA
  refine dg_3 hA (.stop fun d => ⟨x, .done hc hk, fun j _ => rfl, h.at hL d, hO, .inr ⟨?_, _, rfl⟩⟩)
  show (x.th i).call.isSome = false
  rw [hc]
  rfl
 | succ m ih =>
  intro x w A hm h hc hwf hsz hO hA
  have hk : (x.th i).k < (p.ops i).length := by omega
  obtain ⟨o, ho⟩ : ∃ o, (p.ops i)[(x.th i).k]? = some o := ⟨_, List.getElem?_eq_getElem hk⟩
  obtain ⟨opb, oo, hoa, f0, f1, f2, f3, g0, g1, g2, g3⟩ := hP.op w h.fix i hi _ o ho
  have hdb := hP.db w h.fix
  have hib := hP.ib w h.fix i hi
  have hA' := hA
  unfold dgS at hA'
  rw [hoa] at hA'
  refine dg_1 (wf_under hwf) (Nat.le_refl _) hL.call hk (hP.len i hi) hdb.c hdb.z hib.c hib.z hdb.lt hib.lt f0 f1 f2 f3 g0 g1 g2 g3 hA' fun A1 hA1 => ?_
  have hA1' : Slots 33 A1 (dgS8 p (g.st i) i (x.th i).k (w.heap.size + 1)) := by
   unfold dgS8
   rw [hoa]
   obtain ⟨b0, b1, b2, b3, b4, b5, b6, b7, b8⟩ := hA1
   exact ⟨b0, b1, b2, b3, b4, b5, b7, b8⟩
  have e1 : ∀ r, r < w.heap.size → ((w.alloc (.cells #[.int .i64 o.kd, .int .i64 o.a, .int .i64 o.b, .int .i64 o.c] 44)).alloc (.cells #[.bool false, .int .i64 0, .slice none 0 0] 46)).heap[r]? = w.heap[r]? := fun r hr => by
   rw [heap_alloc_lt _ _ (by simp; omega), heap_alloc_lt _ _ hr]
  have e2 : ((w.alloc (.cells #[.int .i64 o.kd, .int .i64 o.a, .int .i64 o.b, .int .i64 o.c] 44)).alloc (.cells #[.bool false, .int .i64 0, .slice none 0 0] 46)).heap[w.heap.size + 1]? = some (.cells #[.bool false, .int .i64 0, .slice none 0 0] 46 (0, 0)) := by
   have := heap_alloc_new (w.alloc (.cells #[.int .i64 o.kd, .int .i64 o.a, .int .i64 o.b, .int .i64 o.c] 44)) (.cells #[.bool false, .int .i64 0, .slice none 0 0] 46)
   simpa using this
  have e3 : ((w.alloc (.cells #[.int .i64 o.kd, .int .i64 o.a, .int .i64 o.b, .int .i64 o.c] 44)).alloc (.cells #[.bool false, .int .i64 0, .slice none 0 0] 46)).heap.size = w.heap.size + 2 := by simp
  generalize (w.alloc (.cells #[.int .i64 o.kd, .int .i64 o.a, .int .i64 o.b, .int .i64 o.c] 44)).alloc (.cells #[.bool false, .int .i64 0, .slice none 0 0] 46) = W at e1 e2 e3 ⊢
  have hx : OU L p g x W := h.stable hL (by omega) fun r hr => e1 r (hr.elim (h.low hL) (fixed_lt h.fix))
  have hans : Ans W (w.heap.size + 1) := ⟨⟨_, _, _, e2⟩⟩
  have hnf : NF L p x (w.heap.size + 1) := ⟨fun hh => by have := h.low hL hh; omega, h.inone' (.inr (by omega))⟩
  have hwf1 : Wf F W := by
   constructor
   intro r z hz
   obtain ⟨c, e, z0, h1, h2⟩ := hwf.own r z hz
   exact ⟨c, e, z0, (e1 r (Array.getElem?_eq_some_iff.1 h1).1).trans h1, h2⟩
  have hSF : ∀ r, L.SR x.s r → F r = none := fun r hr => hFn r (hO r (.inl hr))
  have key := own_gd (hL.beg x.s i o (g.st i) (FU F (fun r => L.SR x.s r) W) W (dgFr A1) (c :: cs) hx.su fu_wf fun r hr => fu_mine hr)
  refine (own_weaken (fun a ha => fu_held hwf1 hSF ha) key).bind fun a u hs => ?_
  obtain ⟨hgd, s', res, hrel, hsu, hsr, hres⟩ := hs u.drawn
  have hgd : Gd (FU F (fun r => L.SR x.s r) W) W u := hgd
  have hsu : L.SU s' u := hsu
  have hus : W.heap.size ≤ u.heap.size := hgd.size
  have hsame : ∀ r, r < W.heap.size → ¬ MineC L x i r → u.heap[r]? = W.heap[r]? := fun r hr hm => fu_same hgd (fun hh => hm (.inl hh)) hr
  have hsr2 : ∀ q, L.SR s' q → MineC L x i q ∨ W.heap.size ≤ q := by
   intro q hq
   rcases hsr q hq with h1 | h1 | h1
   ·exact .inl (.inl h1)
   ·exact h1.elim
   ·exact .inr h1
  have hwf2 : Wf F u := by
   constructor
   intro r z hz
   obtain ⟨c, e, z0, h1, h2⟩ := hwf1.own r z hz
   refine ⟨c, e, z0, (fu_same hgd (fun hh => ?_) (Array.getElem?_eq_some_iff.1 h1).1).trans h1, h2⟩
   rw [hSF r hh] at hz
   cases hz
  cases res with
  | inl c1 =>
   obtain ⟨hjj, hcu, hcr, hcs, rfl⟩ := hres
   have hcu : L.CU c1 u := hcu
   obtain ⟨q1, q2⟩ := ou_next hL hx hi hus hsame hsu hsr2 (call' := some (c1, A1, w.heap.size + 1)) (fun _ c2 h2 => hL.jb _ _ _ _ _ _ _ h2 hrel) (by
    intro c A ab e
    cases e
    exact ⟨hjj, hA1', hcu, fun q hq => (hcr q hq).elim False.elim .inr, hcs, hk, .inr ⟨hans, hnf⟩⟩)
   refine .stop fun d => ⟨_, ?_, fun j hj => upd_ne hj, q1.at hL d, fun r hr => ?_, .inl ⟨?_, ?_⟩⟩
   ·show Adv L p i (x.s, x.th i) (s', (upd x i s' { x.th i with call := some (c1, A1, w.heap.size + 1) }).th i)
    rw [upd_self]
    exact .live ho hrel
   ·rcases q2 r hr with h1 | h1 | ⟨c2, A2, h1⟩
    ·exact hO r h1
    ·exact .inr (by omega)
    ·cases h1
     exact .inr (by omega)
   ·show ((upd x i s' { x.th i with call := some (c1, A1, w.heap.size + 1) }).th i).call.isSome = true
    rw [upd_self]
    rfl
   ·simp only [opsUsers, upd_self, List.append_assoc, List.cons_append, List.nil_append]
  | inr an =>
   obtain ⟨hau, har, has, rfl⟩ := hres
   have hau : L.AU an u := hau
   obtain ⟨q1, q2⟩ := ou_next hL hx hi hus hsame hsu hsr2 (call' := none) (fun _ c2 h2 => hL.jb _ _ _ _ _ _ _ h2 hrel) (by intro c A ab e; cases e)
   have hq2 : ∀ r, OR L p (upd x i s' { x.th i with call := none }) r → OR L p x0 r ∨ w0.heap.size ≤ r := by
    intro r hr
    rcases q2 r hr with h1 | h1 | ⟨c2, A2, h1⟩
    ·exact hO r h1
    ·exact .inr (by omega)
    ·cases h1
   have hti : (upd x i s' { x.th i with call := none }).th i = { x.th i with call := none } := upd_self
   have hAn : ∀ q, L.AR an q → W.heap.size ≤ q := fun q hq => (har q hq).elim False.elim id
   refine own_note hL hP hi (ab := w.heap.size + 1) q1 (by rw [hti]) (by rw [hti]; exact hk) hau (fun r hr => ⟨nf_after hL hx hi (.inr (hAn r hr)) (has r hr), fun e => by have := hAn r hr; omega⟩) (ans_same hans (hsame _ (by omega) fun hm => hnf.1 (mine_or hi hm))) (nf_fresh hL hx hi hsr2 (by omega) hnf hc) hwf2 ?_ (by rw [hti]; exact hA1') ?_
   ·rintro r (h1 | rfl)
    ·exact hFn r (hq2 r h1)
    ·exact hFn _ (.inr (by omega))
   ·intro w' A2 v' r1 r2 r3 r4 r5
    rw [hti] at r1 r2 r5
    have hti2 : ∀ t : Thr L, (upd (upd x i s' { x.th i with call := none }) i (upd x i s' { x.th i with call := none }).s t).th i = t := fun t => upd_self
    refine (ih _ w' A2 (by rw [hti2]; simp only; omega) r1 (by rw [hti2]) r4 (by omega) ?_ (by rw [hti2]; exact r5)).bind fun a u hs => .stop fun d => ?_
    ·intro r hr
     rcases r2 r hr with h1 | h1 | h1
     ·exact hq2 r h1
     ·exact .inr (by have := hAn r h1; omega)
     ·exact .inr (by omega)
    ·obtain ⟨y, k1, k2, k3, k4, k5⟩ := hs d
     refine ⟨y, ?_, fun j hj => ?_, k3, k4, k5⟩
     ·rw [hti2] at k1
      exact .imm ho hrel k1
     ·rw [k2 j hj, upd_ne hj, upd_ne hj]
end
noncomputable section
variable {F : Fz} {w w' w0 : World} {L : Lay} {p : Par} {g : Gate} {x y x0 : OX L} {i : Nat}
theorem plain_dg (A : Array Value) : Plain (dgFr A) := ⟨rfl, rfl, ⟨_, Try.func68⟩⟩
theorem own_stp (hL : L.Ok) (hP : p.Ok L) (hi : i < p.n) (h : OU L p g x w) {c0 : L.C} {A : Array Value} {ab : Nat} (hc : (x.th i).call = some (c0, A, ab)) (hwf : Wf F w) (hF : ∀ r, OR L p x r → F r = none) (c : Frame) (cs : List Frame) :
  Own Try.prog false F (AdvTo L p g i x w (fun y => Stp L p i (x.s, x.th i) (y.s, y.th i)) x (c :: cs)) (back (.tuple #[]) (L.cf (g.st i) c0 ++ dgFr A :: c :: cs)) w := by
 obtain ⟨hA, hans, hcu0, k4, k5, k6, k7, hk⟩ := (h.thr i hi).call c0 A ab hc
 have hT : TR (x.th i) ab := .inr (.inr ⟨c0, A, ab, hc, .inl rfl⟩)
 have hablt : ab < w.heap.size := (h.thr i hi).low hL hT
 have hdis : ∀ q, L.CR c0 q → ¬ L.SR x.s q := fun q hq => (h.ts i hi q (.inr (.inr ⟨c0, A, ab, hc, .inr hq⟩))).1
 have hMF : ∀ r, (L.SR x.s r ∨ L.CR c0 r) → F r = none := fun r hr => hF r (hr.elim .inl fun hr => .inr (.inr ⟨i, hi, .inr (.inr ⟨c0, A, ab, hc, .inr hr⟩)⟩))
 have key := own_gd (hL.stp x.s c0 (g.st i) (FU F (fun r => L.SR x.s r ∨ L.CR c0 r) w) w (dgFr A) (c :: cs) (h.jj i hi c0 A ab hc) h.su hcu0 hdis fu_wf fun r hr => fu_mine hr)
 refine (own_weaken (fun a ha => fu_held hwf hMF ha) key).bind fun a u hs => ?_
 obtain ⟨hgd, s', res, hrel, hsu, hsr, hres⟩ := hs u.drawn
 have hgd : Gd (FU F (fun r => L.SR x.s r ∨ L.CR c0 r) w) w u := hgd
 have hsu : L.SU s' u := hsu
 have hus : w.heap.size ≤ u.heap.size := hgd.size
 have hCM : ∀ q, L.CR c0 q → MineC L x i q := fun q hq => .inr ⟨c0, A, ab, hc, hq⟩
 have hsame : ∀ r, r < w.heap.size → ¬ MineC L x i r → u.heap[r]? = w.heap[r]? := fun r hr hm => fu_same hgd (fun hh => hm (hh.elim .inl (hCM r))) hr
 have hsr2 : ∀ q, L.SR s' q → MineC L x i q ∨ w.heap.size ≤ q := by
  intro q hq
  rcases hsr q hq with h1 | h1 | h1
  ·exact .inl (.inl h1)
  ·exact .inl (hCM q h1)
  ·exact .inr h1
 have hwf2 : Wf F u := by
  constructor
  intro r z hz
  obtain ⟨c, e, z0, h1, h2⟩ := hwf.own r z hz
  refine ⟨c, e, z0, (fu_same hgd (fun hh => ?_) (Array.getElem?_eq_some_iff.1 h1).1).trans h1, h2⟩
  rw [hMF r hh] at hz
  cases hz
 cases res with
 | inl c1 =>
  obtain ⟨hjj, hcu, hcr, hcs, rfl⟩ := hres
  have hcu : L.CU c1 u := hcu
  obtain ⟨q1, q2⟩ := ou_next hL h hi hus hsame hsu hsr2 (call' := some (c1, A, ab)) (fun _ c2 h2 => hL.js _ _ _ _ _ _ h2 hrel) (by
   intro c A1 ab1 e
   cases e
   exact ⟨hjj, hA, hcu, fun q hq => (hcr q hq).elim (fun h1 => .inl (hCM q h1)) .inr, hcs, hk, .inl ⟨c0, A, hc⟩⟩)
  refine .stop fun d => ⟨_, ?_, fun j hj => upd_ne hj, q1.at hL d, fun r hr => ?_, .inl ⟨?_, ?_⟩⟩
  ·show Stp L p i (x.s, x.th i) (s', (upd x i s' { x.th i with call := some (c1, A, ab) }).th i)
   rw [upd_self]
   exact .live hc hrel
  ·rcases q2 r hr with h1 | h1 | ⟨c2, A2, h1⟩
   ·exact .inl h1
   ·exact .inr h1
   ·cases h1
    exact .inl (.inr (.inr ⟨i, hi, hT⟩))
  ·show ((upd x i s' { x.th i with call := some (c1, A, ab) }).th i).call.isSome = true
   rw [upd_self]
   rfl
  ·simp only [opsUsers, upd_self, List.append_assoc, List.cons_append, List.nil_append]
 | inr an =>
  obtain ⟨hau, har, has, rfl⟩ := hres
  have hau : L.AU an u := hau
  obtain ⟨q1, q2⟩ := ou_next hL h hi hus hsame hsu hsr2 (call' := none) (fun _ c2 h2 => hL.js _ _ _ _ _ _ h2 hrel) (by intro c A ab e; cases e)
  have hFn : ∀ r, OR L p x r ∨ w.heap.size ≤ r → F r = none := fun r h => h.elim (hF r) (wf_none hwf)
  have hq2 : ∀ r, OR L p (upd x i s' { x.th i with call := none }) r → OR L p x r ∨ w.heap.size ≤ r := by
   intro r hr
   rcases q2 r hr with h1 | h1 | ⟨c2, A2, h1⟩
   ·exact .inl h1
   ·exact .inr h1
   ·cases h1
  have hti : (upd x i s' { x.th i with call := none }).th i = { x.th i with call := none } := upd_self
  have hOA : ∀ q, L.AR an q → OR L p x q ∨ w.heap.size ≤ q := fun q hq => (har q hq).elim (fun h1 => .inl (mine_or hi (hCM q h1))) .inr
  refine own_note hL hP hi (ab := ab) q1 (by rw [hti]) (by rw [hti]; exact hk) hau (fun r hr => ⟨nf_after hL h hi ((har r hr).elim (fun h1 => .inl ⟨c0, A, ab, hc, h1⟩) .inr) (has r hr), ?_⟩) (ans_same hans (hsame _ hablt (h.abM hi hc))) (nf_ab hL h hi hsr2 hc) hwf2 ?_ (by rw [hti]; exact hA) ?_
  ·rintro rfl
   rcases har _ hr with h1 | h1
   ·exact k4 h1
   ·omega
  ·rintro r (h1 | rfl)
   ·exact hFn r (hq2 r h1)
   ·exact hFn _ (.inl (.inr (.inr ⟨i, hi, hT⟩)))
  ·intro w' A2 v' r1 r2 r3 r4 r5
   rw [hti] at r1 r2 r5
   have hti2 : ∀ t : Thr L, (upd (upd x i s' { x.th i with call := none }) i (upd x i s' { x.th i with call := none }).s t).th i = t := fun t => upd_self
   refine (own_adv hL hP hi hF hwf c cs _ _ w' A2 rfl r1 (by rw [hti2]) r4 (by omega) ?_ (by rw [hti2]; exact r5)).bind fun a u hs => .stop fun d => ?_
   ·intro r hr
    rcases r2 r hr with h1 | h1 | h1
    ·exact hq2 r h1
    ·exact hOA r h1
    ·exact .inr (by omega)
   ·obtain ⟨y, k1, k2, k3, k4, k5⟩ := hs d
    refine ⟨y, ?_, fun j hj => ?_, k3, k4, k5⟩
    ·rw [hti2] at k1
     exact .ans hc hrel k1
    ·rw [k2 j hj, upd_ne hj, upd_ne hj]
theorem ops_ok (hL : L.Ok) (hP : p.Ok L) (hn : g.n = p.n) : (opsUsers L p g).Ok g where
 call := callable68
 plain := by
  intro x i hl
  have hl : (x.th i).call.isSome = true := hl
  obtain ⟨⟨c0, A, ab⟩, hc⟩ := Option.isSome_iff_exists.1 hl
  have e : (opsUsers L p g).fr x i = L.cf (g.st i) c0 ++ [dgFr A] := by simp only [opsUsers, hc]
  rw [e]
  refine ⟨by simp, fun u hu => ?_⟩
  rcases List.mem_append.1 hu with hu | hu
  ·exact (hL.plain _ _).2 u hu
  ·rw [List.mem_singleton] at hu
   subst hu
   exact plain_dg A
 stable := fun x w w' h hsz hs => OU.stable hL h hsz hs
 fix := fun x w r o h hr => ⟨OU.fix h r o hr, hP.cells r o hr⟩
 low := fun x w r h hr => OU.low hL h hr
 stpO := by
  intro x i y j h hj
  have e := h.2 j hj
  exact ⟨by simp only [opsUsers, e], by simp only [opsUsers, e]⟩
 borO := by
  intro x i y j h hj
  have e := h.2 j hj
  exact ⟨by simp only [opsUsers, e], by simp only [opsUsers, e]⟩
 nwO := by
  intro x i y j h hj hnw
  have e := h.2 j hj
  simp only [opsUsers, e] at hnw ⊢
  exact hnw
 go := by
  intro x i hi hl F w c cs h hwf hF
  have hl : (x.th i).call.isSome = true := hl
  obtain ⟨⟨c0, A, ab⟩, hc⟩ := Option.isSome_iff_exists.1 hl
  have e : (opsUsers L p g).fr x i ++ c :: cs = L.cf (g.st i) c0 ++ dgFr A :: c :: cs := by simp only [opsUsers, hc, List.append_assoc, List.cons_append, List.nil_append]
  rw [e]
  refine (own_stp hL hP (by omega) h hc hwf hF c cs).bind fun a u hs => .stop fun d => ?_
  obtain ⟨y, k1, k2, k3, k4, k5⟩ := hs d
  exact ⟨y, ⟨k1, k2⟩, k3, k4, k5⟩
 born := by
  intro x i hi hnw F w c cs h hwf hF
  have h : OU L p g x w := h
  have hob := hP.ob w h.fix i (by omega)
  have hF : ∀ r, OR L p x r → F r = none := hF
  refine dg_0 (sv := stepperV (g.st i)) (ob := p.ob i) (db := p.db) (ib := p.ib i) (av := p.av) hob.c hob.z fun A hA => ?_
  refine (own_adv hL hP (by omega) hF hwf c cs _ x w A rfl h hnw.1 hwf (Nat.le_refl _) (fun r hr => .inl hr) (by rw [hnw.2]; exact hA)).bind fun a u hs => .stop fun d => ?_
  obtain ⟨y, k1, k2, k3, k4, k5⟩ := hs d
  exact ⟨y, ⟨k1, k2⟩, k3, k4, k5⟩
end
noncomputable section
variable {F : Fz} {w w' : World}
structure QS where
 q : RQ
 bl : List Nat
def QS.bk (s : QS) (k : Nat) : Nat := s.bl.getD k 0
def QS.pt (s : QS) (k : Nat) : Value := .pointer (some ⟨s.bk k, 0, none⟩)
def QS.nv (s : QS) (n : Option Nat) : Value := .pointer (n.map fun n => ⟨s.bk n, 0, none⟩)
structure QU (qb : Nat) (s : QS) (w : World) : Prop where
 len : s.bl.length = s.q.B.length
 hd : s.q.hd < s.q.B.length
 tl : s.q.tl < s.q.B.length
 nx : ∀ (k : Nat) (v : Int) (n : Nat), s.q.B[k]? = some (v, some n) → n < s.q.B.length
 bx : ∀ (k : Nat) (v : Int) (n : Option Nat), s.q.B[k]? = some (v, n) → w.heap[s.bk k]? = some (.cells #[.int .i64 v, s.nv n] 106 (0, 0))
 q0 : w.heap[qb]? = some (.cells #[s.pt s.q.hd, s.pt s.q.tl] 62 (0, 0))
 nd : ∀ j k, j < s.q.B.length → k < s.q.B.length → s.bk j = s.bk k → j = k
def QR (qb : Nat) (s : QS) (r : Nat) : Prop := r = qb ∨ ∃ k, k < s.q.B.length ∧ r = s.bk k
section
variable {qb : Nat} {s : QS}
theorem QU.get (h : QU qb s w) {k : Nat} (hk : k < s.q.B.length) : ∃ v n, s.q.B[k]? = some (v, n) ∧ s.q.nx k = n ∧ s.q.vl k = v ∧ (∀ m, n = some m → m < s.q.B.length) := by
 have e : s.q.B[k]? = some ((s.q.B[k]).1, (s.q.B[k]).2) := by rw [List.getElem?_eq_getElem hk]
 refine ⟨_, _, e, by simp [RQ.nx, e], by simp [RQ.vl, e], fun m hm => h.nx k (s.q.B[k]).1 m (by rw [e, hm])⟩
theorem QU.box (h : QU qb s w) {k : Nat} (hk : k < s.q.B.length) : w.heap[s.bk k]? = some (.cells #[.int .i64 (s.q.vl k), s.nv (s.q.nx k)] 106 (0, 0)) := by
 obtain ⟨v, n, h1, h2, h3, _⟩ := h.get hk
 rw [h2, h3]
 exact h.bx k v n h1
theorem QU.boxP (h : QU qb s w) {k : Nat} (hk : k < s.q.B.length) : BoxP w (some ⟨s.bk k, 0, none⟩) := .inr ⟨_, _, _, rfl, h.box hk, rfl⟩
theorem QU.nxlt (h : QU qb s w) {k m : Nat} (hm : s.q.nx k = some m) : m < s.q.B.length := by
 unfold RQ.nx at hm
 cases e : s.q.B[k]? with
 | none => rw [e] at hm; cases hm
 | some x =>
  rw [e] at hm
  obtain ⟨v, n⟩ := x
  have hm : n = some m := hm
  subst hm
  exact h.nx k v m e
theorem QU.apart (h : QU qb s w) {k : Nat} (hk : k < s.q.B.length) : s.bk k ≠ qb := by
 intro e
 have h1 := h.box hk
 rw [e, h.q0] at h1
 injection h1 with h1
 injection h1 with _ h1
 exact absurd h1 (by decide)
theorem QU.hc (h : QU qb s w) : w.cell? ⟨qb, 0, none⟩ = some (s.pt s.q.hd) := by simp [World.cell?, h.q0]
theorem QU.tc (h : QU qb s w) : w.cell? ⟨qb, 1, none⟩ = some (s.pt s.q.tl) := by simp [World.cell?, h.q0]
theorem QU.qz (h : QU qb s w) (k : Nat) : w.frozen? ⟨qb, k, none⟩ = false := by simp [World.frozen?, h.q0]
theorem QU.nc (h : QU qb s w) {k : Nat} (hk : k < s.q.B.length) : w.cell? ⟨s.bk k, 1, none⟩ = some (s.nv (s.q.nx k)) := by simp [World.cell?, h.box hk]
theorem QU.vc (h : QU qb s w) {k : Nat} (hk : k < s.q.B.length) : w.cell? ⟨s.bk k, 0, none⟩ = some (.int .i64 (s.q.vl k)) := by simp [World.cell?, h.box hk]
theorem QU.bz (h : QU qb s w) {k : Nat} (hk : k < s.q.B.length) (j : Nat) : w.frozen? ⟨s.bk k, j, none⟩ = false := by simp [World.frozen?, h.box hk]
theorem QU.same (h : QU qb s w) (hs : ∀ r, QR qb s r → w'.heap[r]? = w.heap[r]?) : QU qb s w' :=
 ⟨h.len, h.hd, h.tl, h.nx, fun k v n hk => (hs _ (.inr ⟨k, (List.getElem?_eq_some_iff.1 hk).1, rfl⟩)).trans (h.bx k v n hk), (hs _ (.inl rfl)).trans h.q0, h.nd⟩
theorem QU.low (h : QU qb s w) {r : Nat} (hr : QR qb s r) : r < w.heap.size := by
 rcases hr with rfl | ⟨k, hk, rfl⟩
 ·exact (Array.getElem?_eq_some_iff.1 h.q0).1
 ·exact (Array.getElem?_eq_some_iff.1 (h.box hk)).1
theorem QU.eq (h : QU qb s w) {j k : Nat} (hj : j < s.q.B.length) (hk : k < s.q.B.length) (d : Nat) : PtrEq Try.prog (w.at d) (some ⟨s.bk j, 0, none⟩) (some ⟨s.bk k, 0, none⟩) (decide (j = k)) := by
 by_cases e : j = k
 ·subst e
  have := ptrEq_block (P := Try.prog) (w.at d) ⟨s.bk j, 0, none⟩ ⟨s.bk j, 0, none⟩ rfl
  simpa using this
 ·rw [decide_eq_false e]
  exact ptrEq_apart (a := ⟨s.bk j, 0, none⟩) (b := ⟨s.bk k, 0, none⟩) (fun e1 => e (h.nd j k hj hk e1)) (h.box hj) (h.box hk)
theorem QU.setTl (h : QU qb s w) {n : Nat} (hn : n < s.q.B.length) : QU qb { s with q := { s.q with tl := n } } (w.setCell ⟨qb, 1, none⟩ (s.pt n)) :=
 ⟨h.len, h.hd, hn, h.nx, fun k v m hk => (heap_setCell_ne _ _ _ (h.apart (List.getElem?_eq_some_iff.1 hk).1)).trans (h.bx k v m hk), by rw [heap_setCell_eq h.q0]; rfl, h.nd⟩
theorem QU.setHd (h : QU qb s w) {n : Nat} (hn : n < s.q.B.length) : QU qb { s with q := { s.q with hd := n } } (w.setCell ⟨qb, 0, none⟩ (s.pt n)) :=
 ⟨h.len, hn, h.tl, h.nx, fun k v m hk => (heap_setCell_ne _ _ _ (h.apart (List.getElem?_eq_some_iff.1 hk).1)).trans (h.bx k v m hk), by rw [heap_setCell_eq h.q0]; rfl, h.nd⟩
theorem QU.help (h : QU qb s w) {t n : Nat} (hn : n < s.q.B.length) : QU qb { s with q := s.q.help t n } (if decide (s.q.tl = t) then w.setCell ⟨qb, 1, none⟩ (s.pt n) else w) := by
 unfold RQ.help
 by_cases e : s.q.tl = t
 ·rw [if_pos e, if_pos (by simpa using e)]
  exact h.setTl hn
 ·rw [if_neg e, if_neg (by simpa using e)]
  exact h
theorem QU.link (h : QU qb s w) {t n : Nat} (ht : t < s.q.B.length) (hn : n < s.q.B.length) : QU qb { s with q := s.q.link t n } (w.setCell ⟨s.bk t, 1, none⟩ (s.pt n)) := by
 have hl : (s.q.link t n).B.length = s.q.B.length := by simp [RQ.link]
 refine ⟨by rw [hl]; exact h.len, by rw [hl]; exact h.hd, by rw [hl]; exact h.tl, ?_, ?_, ?_, by rw [hl]; exact h.nd⟩
 ·intro k v m hk
  rw [hl]
  simp only [RQ.link, List.getElem?_modify] at hk
  cases e : s.q.B[k]? with
  | none => rw [e] at hk; cases hk
  | some x =>
   rw [e] at hk
   change some ((fun a : Int × Option Nat => if t = k then (a.1, some n) else a) x) = _ at hk
   by_cases e1 : t = k
   ·simp only [if_pos e1] at hk
    simp only [Option.map_some, Option.some.injEq, Prod.mk.injEq] at hk
    omega
   ·simp only [if_neg e1] at hk
    simp only [Option.map_some, Option.some.injEq] at hk
    exact h.nx k v m (by rw [e]; exact congrArg some hk)
 ·intro k v m hk
  simp only [RQ.link, List.getElem?_modify] at hk
  cases e : s.q.B[k]? with
  | none => rw [e] at hk; cases hk
  | some x =>
   have hkl := (List.getElem?_eq_some_iff.1 e).1
   rw [e] at hk
   change some ((fun a : Int × Option Nat => if t = k then (a.1, some n) else a) x) = _ at hk
   by_cases e1 : t = k
   ·subst e1
    simp only [if_true] at hk
    simp only [Option.map_some, Option.some.injEq, Prod.mk.injEq] at hk
    obtain ⟨rfl, rfl⟩ := hk
    show (w.setCell ⟨s.bk t, 1, none⟩ (s.pt n)).heap[s.bk t]? = _
    rw [heap_setCell_eq (h.bx t x.1 x.2 e)]
    rfl
   ·simp only [if_neg e1] at hk
    simp only [Option.map_some, Option.some.injEq] at hk
    refine (heap_setCell_ne _ _ _ ?_).trans (h.bx k v m (by rw [e]; exact congrArg some hk))
    intro e2
    exact e1 (h.nd t k ht hkl e2.symm)
 ·exact (heap_setCell_ne _ _ _ (fun e => h.apart ht e.symm)).trans h.q0
theorem bk_app {b k : Nat} (hk : k < s.bl.length) {q : RQ} : QS.bk ⟨q, s.bl ++ [b]⟩ k = s.bk k := by
 simp only [QS.bk, List.getD_eq_getElem?_getD, List.getElem?_append_left hk]
theorem QU.new (h : QU qb s w) (v : Int) : QU qb ⟨{ s.q with B := s.q.B ++ [(v, none)] }, s.bl ++ [w.heap.size]⟩ (w.alloc (.cells #[.int .i64 v, .pointer none] 106)) := by
 have hl := h.len
 have hnew : QS.bk ⟨{ s.q with B := s.q.B ++ [(v, none)] }, s.bl ++ [w.heap.size]⟩ s.q.B.length = w.heap.size := by
  simp [QS.bk, List.getD_eq_getElem?_getD, ← hl]
 have hold : ∀ k, k < s.q.B.length → QS.bk ⟨{ s.q with B := s.q.B ++ [(v, none)] }, s.bl ++ [w.heap.size]⟩ k = s.bk k := fun k hk => bk_app (by omega)
 have hlt : ∀ k, k < s.q.B.length → s.bk k < w.heap.size := fun k hk => h.low (.inr ⟨k, hk, rfl⟩)
 have hhd := h.hd
 have htl := h.tl
 refine ⟨by simp [hl], by simp; omega, by simp; omega, ?_, ?_, ?_, ?_⟩
 ·intro k v1 n hk
  simp only [List.length_append, List.length_cons, List.length_nil]
  simp only [List.getElem?_append] at hk
  split at hk
  ·have := h.nx k v1 n hk; omega
  ·rename_i h1
   have : k - s.q.B.length = 0 := by
    rcases Nat.eq_zero_or_pos (k - s.q.B.length) with h2 | h2
    ·exact h2
    ·rw [List.getElem?_eq_none (by simp; omega)] at hk
     cases hk
   rw [this] at hk
   simp at hk
 ·intro k v1 n hk
  simp only [List.getElem?_append] at hk
  split at hk
  ·rename_i h1
   rw [hold k h1, heap_alloc_lt _ _ (hlt k h1), h.bx k v1 n hk]
   have e : QS.nv ⟨{ s.q with B := s.q.B ++ [(v, none)] }, s.bl ++ [w.heap.size]⟩ n = s.nv n := by
    unfold QS.nv
    cases n with
    | none => rfl
    | some n => simp only [Option.map_some]; rw [hold n (h.nx k v1 n hk)]
   rw [e]
  ·rename_i h1
   have : k - s.q.B.length = 0 := by
    rcases Nat.eq_zero_or_pos (k - s.q.B.length) with h2 | h2
    ·exact h2
    ·rw [List.getElem?_eq_none (by simp; omega)] at hk
     cases hk
   rw [this] at hk
   simp only [List.getElem?_cons_zero, Option.some.injEq, Prod.mk.injEq] at hk
   obtain ⟨rfl, rfl⟩ := hk
   obtain rfl : k = s.q.B.length := by omega
   rw [hnew]
   exact heap_alloc_new _ _
 ·rw [heap_alloc_lt _ _ (h.low (.inl rfl)), h.q0]
  unfold QS.pt
  rw [hold _ h.hd, hold _ h.tl]
 ·intro j k hj hk e
  simp only [List.length_append, List.length_cons, List.length_nil] at hj hk
  by_cases ej : j < s.q.B.length
  ·by_cases ek : k < s.q.B.length
   ·rw [hold j ej, hold k ek] at e
    exact h.nd j k ej ek e
   ·obtain rfl : k = s.q.B.length := by omega
    rw [hold j ej, hnew] at e
    have := hlt j ej; omega
  ·obtain rfl : j = s.q.B.length := by omega
   by_cases ek : k < s.q.B.length
   ·rw [hold k ek, hnew] at e
    have := hlt k ek; omega
   ·omega
end
end
noncomputable section
variable {F : Fz} {w w' : World} {qb st : Nat}
structure QC where
 c : RC
 v : Int
 A : Array Value
 A2 : Array Value
 ab : Nat
 eb : Nat
def putIt (ph : Nat) : List Item := match ph with
 | 1 => [.inRegion puto2 [1], .code puts5, .inBlock 1, .inLoop putb1, .inBlock 0]
 | 2 => [.inRegion puto4 [1], .code puts7, .inBlock 1, .inLoop putb1, .inBlock 0]
 | 3 => [.inRegion puto7 [1], .code puts11, .code puts12, .inBlock 1, .inLoop putb1, .inBlock 0]
 | 4 => [.inRegion puto9 [1], .code puts13, .inBlock 1, .inLoop putb1, .inBlock 0]
 | _ => [.inRegion puto11 [1], .code puts15, .inBlock 1, .inLoop putb1, .inBlock 0]
def takIt (ph : Nat) : List Item := match ph with
 | 1 => [.inRegion tako3 [1], .code taks6, .inBlock 1, .inLoop takb1, .inBlock 0]
 | 2 => [.inRegion tako5 [1], .code taks8, .inBlock 1, .inLoop takb1, .inBlock 0]
 | 3 => [.inRegion tako7 [1], .code taks10, .inBlock 1, .inLoop takb1, .inBlock 0]
 | 4 => [.inRegion tako15 [1], .code takr16, .inBlock 2, .inBlock 1, .inLoop takb1, .inBlock 0]
 | _ => [.inRegion tako9 [1], .code taks16, .inBlock 2, .inBlock 1, .inLoop takb1, .inBlock 0]
def empIt (ph : Nat) : List Item := match ph with
 | 1 => [.inRegion empo3 [1], .code emps5]
 | _ => [.inRegion empo5 [1], .code emps7]
def QC.fr (c : QC) : List Frame := match c.c.kd with
 | 1 => [(Go.Conc.base 25).at ⟨c.A, []⟩ (putIt c.c.ph), (Go.Conc.base 38).at ⟨c.A2, []⟩ [.inRegion qdoo3 [4], .code qdos5, .inBlock 0, .code qdos14]]
 | 2 => [(Go.Conc.base 26).at ⟨c.A, []⟩ (takIt c.c.ph), (Go.Conc.base 38).at ⟨c.A2, []⟩ [.inRegion qdoo6 [2, 3, 4, 5, 6, 7], .code qdos8, .inBlock 0, .code qdos14]]
 | _ => [(Go.Conc.base 27).at ⟨c.A, []⟩ (empIt c.c.ph), (Go.Conc.base 38).at ⟨c.A2, []⟩ [.inRegion qdoo10 [2], .code qdoc39, .code qdos13, .inBlock 0, .code qdos14]]
def putSl (qb st : Nat) (s : QS) (c : QC) : List (Nat × Value) := (0, .pointer (some ⟨qb, 0, none⟩)) :: (1, stepperV st) :: (2, .int .i64 c.v) :: (6, s.pt c.c.new) :: (match c.c.ph with
 | 1 => []
 | 2 => [(7, s.pt c.c.T)]
 | 3 => [(7, s.pt c.c.T), (8, s.pt c.c.n)]
 | 4 => [(7, s.pt c.c.T), (8, .pointer none)]
 | _ => [(7, s.pt c.c.T)])
def takSl (qb st : Nat) (s : QS) (c : QC) : List (Nat × Value) := (0, .pointer (some ⟨qb, 0, none⟩)) :: (1, stepperV st) :: (match c.c.ph with
 | 1 => []
 | 2 => [(6, s.pt c.c.H)]
 | 3 => [(6, s.pt c.c.H), (7, s.pt c.c.T)]
 | 4 => [(6, s.pt c.c.H), (7, s.pt c.c.T), (8, s.pt c.c.n)]
 | _ => [(6, s.pt c.c.H), (7, s.pt c.c.T), (8, s.pt c.c.n)])
def empSl (qb st : Nat) (s : QS) (c : QC) : List (Nat × Value) := (0, .pointer (some ⟨qb, 0, none⟩)) :: (1, stepperV st) :: (match c.c.ph with
 | 1 => []
 | _ => [(5, s.pt c.c.H)])
structure QJ (qb st : Nat) (s : QS) (c : QC) : Prop where
 H : c.c.H < s.q.B.length
 T : c.c.T < s.q.B.length
 n : c.c.n < s.q.B.length
 new : c.c.new < s.q.B.length
 kd : c.c.kd = 1 ∨ c.c.kd = 2 ∨ c.c.kd = 3
 ph : 1 ≤ c.c.ph ∧ c.c.ph ≤ if c.c.kd = 3 then 2 else 5
 A : match c.c.kd with
  | 1 => Slots 51 c.A (putSl qb st s c)
  | 2 => Slots 56 c.A (takSl qb st s c)
  | _ => Slots 21 c.A (empSl qb st s c)
 A2 : match c.c.kd with
  | 1 => Slots 43 c.A2 [(8, .pointer (some ⟨c.ab, 0, none⟩))]
  | 2 => Slots 43 c.A2 [(8, .pointer (some ⟨c.ab, 0, none⟩))]
  | _ => Slots 43 c.A2 [(8, .pointer (some ⟨c.ab, 0, none⟩)), (11, .pointer (some ⟨c.eb, 0, none⟩))]
def QExt (s s' : QS) : Prop := s.q.B.length ≤ s'.q.B.length ∧ ∀ k, k < s.q.B.length → s'.bk k = s.bk k
theorem QJ.ext {s s' : QS} {c : QC} (h : QJ qb st s c) (he : QExt s s') : QJ qb st s' c := by
 obtain ⟨he1, he2⟩ := he
 have e : ∀ k, k < s.q.B.length → s'.pt k = s.pt k := fun k hk => by unfold QS.pt; rw [he2 k hk]
 have hH := h.H
 have hT := h.T
 have hn := h.n
 have hnew := h.new
 refine ⟨by omega, by omega, by omega, by omega, h.kd, h.ph, ?_, h.A2⟩
 have := h.A
 simpa only [putSl, takSl, empSl, e _ hH, e _ hT, e _ hn, e _ hnew] using this
def absR : QC ⊕ (Bool × Int) → RR
 | .inl c => .inl c.c
 | .inr a => .inr a
def QCR (c : QC) (r : Nat) : Prop := r = c.ab ∨ (c.c.kd = 3 ∧ r = c.eb)
def QCU (c : QC) (w : World) : Prop := Ans w c.ab ∧ (c.c.kd = 3 → w.heap[c.eb]? = some (.cells #[.bool true, .int .i64 0, .slice none 0 0] 46 (0, 0)) ∧ c.eb ≠ c.ab)
def QLay (qb : Nat) : Lay where
 S := QS
 C := QC
 A := Bool × Int
 SU := QU qb
 SR := QR qb
 CU := QCU
 CR := QCR
 AV := fun a => ⟨a.1, a.2, none, 0, 0⟩
 AU := fun _ _ => True
 AR := fun _ _ => False
 cf := fun st c => stepFr stK ⟨st, 0, none⟩ :: c.fr
 df := 38
 first := #[.pointer (some ⟨qb, 0, none⟩)]
 capt := #[]
 beg := fun s _ o y => QExt s y.1 ∧ (y.1.q, absR y.2) = s.q.begin o
 stp := fun s c y => QExt s y.1 ∧ (y.1.q, absR y.2) = s.q.step c.c
 J := fun st s c => QJ qb st s c
theorem QCU.same {c : QC} (h : QCU c w) (hs : ∀ r, QCR c r → w'.heap[r]? = w.heap[r]?) : QCU c w' :=
 ⟨ans_same h.1 (hs _ (.inl rfl)), fun hk => ⟨(hs _ (.inr ⟨hk, rfl⟩)).trans (h.2 hk).1, (h.2 hk).2⟩⟩
theorem qr_same {s : QS} {q' : RQ} (hl : q'.B.length = s.q.B.length) {r : Nat} (h : QR qb ⟨q', s.bl⟩ r) : QR qb s r := by
 rcases h with h | ⟨k, hk, h⟩
 ·exact .inl h
 ·exact .inr ⟨k, by simp only at hk; omega, h⟩
theorem q_live {s : QS} {c : QC} {q' : RQ} {rc' : RC} {A' : Array Value} {cs : List Frame} (hQ : QU qb ⟨q', s.bl⟩ w') (hl : q'.B.length = s.q.B.length) (hr : (q', .inl rc') = s.q.step c.c) (hk : rc'.kd = c.c.kd) (hJ : QJ qb st ⟨q', s.bl⟩ { c with c := rc', A := A' }) (hcu : QCU c w) (hdis : ∀ q, QCR c q → ¬ QR qb s q) (hsame : ∀ r, ¬ QR qb s r → w'.heap[r]? = w.heap[r]?) (d : Nat) :
  (QLay qb).Out st s (QCR c) ((QLay qb).stp s c) w cs (G (Frame.enter Try.prog 119 #[.pointer (some ⟨st, 0, none⟩)] .normal) ((QLay qb).cf st { c with c := rc', A := A' } ++ cs)) (w'.at d) := by
 have hcr : ∀ q, QCR { c with c := rc', A := A' } q → QCR c q := by
  rintro q (h | ⟨h1, h2⟩)
  ·exact .inl h
  ·exact .inr ⟨hk ▸ h1, h2⟩
 refine ⟨⟨q', s.bl⟩, .inl { c with c := rc', A := A' }, ⟨⟨by simp only; omega, fun k _ => rfl⟩, hr⟩, hQ.same fun _ _ => rfl, fun q h => .inl (qr_same hl h), hJ, ?_, fun q h => .inl (hcr q h), fun q h h2 => hdis q (hcr q h) (qr_same hl h2), rfl⟩
 have : QCU { c with c := rc', A := A' } w := ⟨hcu.1, fun h => hcu.2 (hk ▸ h)⟩
 exact this.same fun r hr => hsame r (hdis r (hcr r hr))
theorem q_ans {s : QS} {c : QC} {q' : RQ} {an : Bool × Int} {cs : List Frame} (hQ : QU qb ⟨q', s.bl⟩ w') (hl : q'.B.length = s.q.B.length) (hr : (q', .inr an) = s.q.step c.c) (d : Nat) :
  (QLay qb).Out st s (QCR c) ((QLay qb).stp s c) w cs (back (.agg #[.bool an.1, .int .i64 an.2, .slice none 0 0]) cs) (w'.at d) :=
 ⟨⟨q', s.bl⟩, .inr an, ⟨⟨by simp only; omega, fun k _ => rfl⟩, hr⟩, hQ.same fun _ _ => rfl, fun q h => .inl (qr_same hl h), trivial, fun q h => h.elim, fun q h => h.elim, rfl⟩
theorem help_same {s : QS} {t : Nat} {v : Value} (r : Nat) (hr : ¬ QR qb s r) : (if decide (s.q.tl = t) then w.setCell ⟨qb, 1, none⟩ v else w).heap[r]? = w.heap[r]? := by
 split
 ·exact heap_setCell_ne _ _ _ (fun e => hr (.inl e))
 ·rfl
theorem not_heldB {b : Nat} (h : F b = none) (k : Nat) : ¬ held F ⟨b, k, none⟩ := by
 rintro ⟨z, hz, _⟩
 rw [h] at hz
 cases hz
theorem ansW_same {ab : Nat} {b : Bool} {n : Int} {r : Nat} (hr : r ≠ ab) : (ansW w ab b n).heap[r]? = w.heap[r]? := by
 unfold ansW
 rw [heap_setCell_ne _ _ _ hr, heap_setCell_ne _ _ _ hr, heap_setCell_ne _ _ _ hr]
theorem stp_put {s : QS} {T : Nat} {H ph new : Nat} {N : Option Nat} {v : Int} {A A2 : Array Value} {ab eb : Nat} (hJ : QJ qb st s ⟨⟨1, ph, H, T, N, new⟩, v, A, A2, ab, eb⟩) (hs : QU qb s w) (hc : QCU ⟨⟨1, ph, H, T, N, new⟩, v, A, A2, ab, eb⟩ w) (hdis : ∀ q, QCR ⟨⟨1, ph, H, T, N, new⟩, v, A, A2, ab, eb⟩ q → ¬ QR qb s q) (hF : ∀ r, QR qb s r ∨ QCR ⟨⟨1, ph, H, T, N, new⟩, v, A, A2, ab, eb⟩ r → F r = none) (b : Frame) (cs : List Frame) :
  Own Try.prog false F ((QLay qb).Out st s (QCR ⟨⟨1, ph, H, T, N, new⟩, v, A, A2, ab, eb⟩) ((QLay qb).stp s ⟨⟨1, ph, H, T, N, new⟩, v, A, A2, ab, eb⟩) w (b :: cs)) (back (.tuple #[]) ((QLay qb).cf st ⟨⟨1, ph, H, T, N, new⟩, v, A, A2, ab, eb⟩ ++ b :: cs)) w := by
 have hA := hJ.A
 have hA2 := hJ.A2
 have hq : F qb = none := hF qb (.inl (.inl rfl))
 have hbF : ∀ k, k < s.q.B.length → F (s.bk k) = none := fun k hk => hF _ (.inl (.inr ⟨k, hk, rfl⟩))
 have hT : T < s.q.B.length := hJ.T
 have hnew : new < s.q.B.length := hJ.new
 have hH : H < s.q.B.length := hJ.H
 have hn : N.getD 0 < s.q.B.length := hJ.n
 have hp := hJ.ph
 simp only at hp
 have hph : ph = 1 ∨ ph = 2 ∨ ph = 3 ∨ ph = 4 ∨ ph = 5 := by
  rw [if_neg (by decide)] at hp
  omega
 rcases hph with rfl | rfl | rfl | rfl | rfl
 ·refine put_1 (K := stK) (t := s.bk s.q.tl) (hs.boxP hs.tl) hs.tc hA fun A' hA' => .stop fun d => q_live (rc' := ⟨1, 2, H, s.q.tl, N, new⟩) (A' := A') hs rfl rfl rfl ⟨hH, hs.tl, hn, hnew, .inl rfl, ⟨by simp, by simp⟩, hA', hA2⟩ hc hdis (fun r _ => rfl) d
 ·cases e : s.q.nx T with
  | none =>
   refine put_2b (K := stK) (t := s.bk T) (n := 0) (.inl rfl) ((hs.nc hT).trans (by rw [e]; rfl)) hA fun A' hA' => .stop fun d => q_live (rc' := ⟨1, 4, H, T, none, new⟩) (A' := A') hs rfl (by simp [RQ.step, RQ.put, e]) rfl ⟨hH, hT, by simp only [RC.n, Option.getD_none]; omega, hnew, .inl rfl, ⟨by simp, by simp⟩, hA', hA2⟩ hc hdis (fun r _ => rfl) d
  | some n =>
   have hnl := hs.nxlt e
   refine put_2a (K := stK) (t := s.bk T) (n := s.bk n) (hs.boxP hnl) ((hs.nc hT).trans (by rw [e]; rfl)) hA fun A' hA' => .stop fun d => q_live (rc' := ⟨1, 3, H, T, some n, new⟩) (A' := A') hs rfl (by simp [RQ.step, RQ.put, e]) rfl ⟨hH, hT, hnl, hnew, .inl rfl, ⟨by simp, by simp⟩, hA', hA2⟩ hc hdis (fun r _ => rfl) d
 ·refine put_3 (K := stK) (t := s.bk T) (n := s.bk (N.getD 0)) (eq := decide (s.q.tl = T)) (hs.boxP hT) (hs.boxP hn) hs.tc (hs.qz 1) (not_heldB hq 1) (fun d => hs.eq hs.tl hT d) hA fun A' hA' => .stop fun d => q_live (q' := s.q.help T (N.getD 0)) (rc' := ⟨1, 1, H, T, N, new⟩) (A' := A') (hs.help hn) (help_len _ _ _) rfl rfl ⟨by simp only [help_len]; exact hH, by simp only [help_len]; exact hT, by simp only [help_len]; exact hn, by simp only [help_len]; exact hnew, .inl rfl, ⟨by simp, by simp⟩, hA', hA2⟩ hc hdis help_same d
 ·cases e : s.q.nx T with
  | none =>
   have hll : (s.q.link T new).B.length = s.q.B.length := by simp [RQ.link]
   refine put_4a (K := stK) (t := s.bk T) (bx := s.bk new) (hs.boxP hnew) ((hs.nc hT).trans (by rw [e]; rfl)) (hs.bz hT 1) (not_heldB (hbF T hT) 1) hA fun A' hA' => .stop fun d => q_live (q' := s.q.link T new) (rc' := ⟨1, 5, H, T, N, new⟩) (A' := A') (hs.link hT hnew) hll (by simp [RQ.step, RQ.put, e]) rfl ⟨by simp only [hll]; exact hH, by simp only [hll]; exact hT, by simp only [hll]; exact hn, by simp only [hll]; exact hnew, .inl rfl, ⟨by simp, by simp⟩, hA', hA2⟩ hc hdis (fun r hr => heap_setCell_ne _ _ _ (fun e => hr (.inr ⟨T, hT, e⟩))) d
  | some n =>
   have hnl := hs.nxlt e
   refine put_4b (K := stK) (t := s.bk T) (bx := s.bk new) (cur := ⟨s.bk n, 0, none⟩) (hs.boxP hnew) ((hs.nc hT).trans (by rw [e]; rfl)) (hs.bz hT 1) (not_heldB (hbF T hT) 1) hA fun A' hA' => .stop fun d => q_live (rc' := ⟨1, 1, H, T, N, new⟩) (A' := A') hs rfl (by simp [RQ.step, RQ.put, e]) rfl ⟨hH, hT, hn, hnew, .inl rfl, ⟨by simp, by simp⟩, hA', hA2⟩ hc hdis (fun r _ => rfl) d
 ·refine put_5 (K := stK) (t := s.bk T) (n := 0) (bx := s.bk new) (eq := decide (s.q.tl = T)) (hs.boxP hT) (hs.boxP hnew) hs.tc (hs.qz 1) (not_heldB hq 1) (fun d => hs.eq hs.tl hT d) hA ?_
  have hab : ∀ r, QR qb s r → r ≠ ab := fun r hr e => hdis r (.inl e) hr
  have hans : Ans (if decide (s.q.tl = T) then w.setCell ⟨qb, 1, none⟩ (s.pt new) else w) ab := ans_same hc.1 (help_same ab (hdis ab (.inl rfl)))
  refine do_put1 hans (fun k => not_heldB (hF ab (.inr (.inl rfl))) k) hA2 (.stop fun d => q_ans (an := (true, 0)) (q' := s.q.help T new) ?_ (help_len _ _ _) rfl d)
  exact (hs.help hnew).same fun r hr => ansW_same (hab r (qr_same (s := s) (help_len _ _ _) hr))
end
noncomputable section
variable {F : Fz} {w w' : World} {qb st : Nat}
theorem stp_take {s : QS} {T : Nat} {H ph new : Nat} {N : Option Nat} {v : Int} {A A2 : Array Value} {ab eb : Nat} (hJ : QJ qb st s ⟨⟨2, ph, H, T, N, new⟩, v, A, A2, ab, eb⟩) (hs : QU qb s w) (hc : QCU ⟨⟨2, ph, H, T, N, new⟩, v, A, A2, ab, eb⟩ w) (hdis : ∀ q, QCR ⟨⟨2, ph, H, T, N, new⟩, v, A, A2, ab, eb⟩ q → ¬ QR qb s q) (hF : ∀ r, QR qb s r ∨ QCR ⟨⟨2, ph, H, T, N, new⟩, v, A, A2, ab, eb⟩ r → F r = none) (b : Frame) (cs : List Frame) :
  Own Try.prog false F ((QLay qb).Out st s (QCR ⟨⟨2, ph, H, T, N, new⟩, v, A, A2, ab, eb⟩) ((QLay qb).stp s ⟨⟨2, ph, H, T, N, new⟩, v, A, A2, ab, eb⟩) w (b :: cs)) (back (.tuple #[]) ((QLay qb).cf st ⟨⟨2, ph, H, T, N, new⟩, v, A, A2, ab, eb⟩ ++ b :: cs)) w := by
 have hA := hJ.A
 have hA2 := hJ.A2
 have hq : F qb = none := hF qb (.inl (.inl rfl))
 have hT : T < s.q.B.length := hJ.T
 have hnew : new < s.q.B.length := hJ.new
 have hH : H < s.q.B.length := hJ.H
 have hn : N.getD 0 < s.q.B.length := hJ.n
 have hp := hJ.ph
 simp only at hp
 have hab : ∀ r, QR qb s r → r ≠ ab := fun r hr e => hdis r (.inl e) hr
 have hph : ph = 1 ∨ ph = 2 ∨ ph = 3 ∨ ph = 4 ∨ ph = 5 := by
  rw [if_neg (by decide)] at hp
  omega
 rcases hph with rfl | rfl | rfl | rfl | rfl
 ·refine tak_1 (K := stK) (h0 := s.bk s.q.hd) (hs.boxP hs.hd) hs.hc hA fun A' hA' => .stop fun d => q_live (rc' := ⟨2, 2, s.q.hd, T, N, new⟩) (A' := A') hs rfl rfl rfl ⟨hs.hd, hT, hn, hnew, .inr (.inl rfl), ⟨by simp, by simp⟩, hA', hA2⟩ hc hdis (fun r _ => rfl) d
 ·refine tak_2 (K := stK) (h0 := s.bk H) (t := s.bk s.q.tl) (hs.boxP hs.tl) hs.tc hA fun A' hA' => .stop fun d => q_live (rc' := ⟨2, 3, H, s.q.tl, N, new⟩) (A' := A') hs rfl rfl rfl ⟨hH, hs.tl, hn, hnew, .inr (.inl rfl), ⟨by simp, by simp⟩, hA', hA2⟩ hc hdis (fun r _ => rfl) d
 ·cases e : s.q.nx H with
  | none =>
   refine tak_3n (K := stK) (h0 := s.bk H) (t := s.bk T) (.inl rfl) ((hs.nc hH).trans (by rw [e]; rfl)) hA ?_
   refine do_take1 (er := 4) (v := 0) hc.1 (fun k => not_heldB (hF ab (.inr (.inl rfl))) k) hA2 (.stop fun d => q_ans (an := (false, 0)) (q' := s.q) (hs.same fun r hr => ansW_same (hab r hr)) rfl (by simp [RQ.step, RQ.take, e]) d)
  | some n =>
   have hnl := hs.nxlt e
   by_cases e2 : H = T
   ·refine tak_3t (K := stK) (h0 := s.bk H) (t := s.bk T) (n := s.bk n) (hs.boxP hnl) ((hs.nc hH).trans (by rw [e]; rfl)) (fun d => by have := hs.eq hH hT d; rwa [decide_eq_true e2] at this) hA fun A' hA' => .stop fun d => q_live (rc' := ⟨2, 4, H, T, some n, new⟩) (A' := A') hs rfl (by simp only [RQ.step, RQ.take]; rw [e]; simp [e2]) rfl ⟨hH, hT, hnl, hnew, .inr (.inl rfl), ⟨by simp, by simp⟩, hA', hA2⟩ hc hdis (fun r _ => rfl) d
   ·refine tak_3h (K := stK) (h0 := s.bk H) (t := s.bk T) (n := s.bk n) (hs.boxP hnl) ((hs.nc hH).trans (by rw [e]; rfl)) (fun d => by have := hs.eq hH hT d; rwa [decide_eq_false e2] at this) hA fun A' hA' => .stop fun d => q_live (rc' := ⟨2, 5, H, T, some n, new⟩) (A' := A') hs rfl (by simp [RQ.step, RQ.take, e, e2]) rfl ⟨hH, hT, hnl, hnew, .inr (.inl rfl), ⟨by simp, by simp⟩, hA', hA2⟩ hc hdis (fun r _ => rfl) d
 ·refine tak_4 (K := stK) (h0 := s.bk H) (t := s.bk T) (n := s.bk (N.getD 0)) (eq := decide (s.q.tl = T)) (hs.boxP hT) (hs.boxP hn) hs.tc (hs.qz 1) (not_heldB hq 1) (fun d => hs.eq hs.tl hT d) hA fun A' hA' => .stop fun d => q_live (q' := s.q.help T (N.getD 0)) (rc' := ⟨2, 1, H, T, N, new⟩) (A' := A') (hs.help hn) (help_len _ _ _) rfl rfl ⟨by simp only [help_len]; exact hH, by simp only [help_len]; exact hT, by simp only [help_len]; exact hn, by simp only [help_len]; exact hnew, .inr (.inl rfl), ⟨by simp, by simp⟩, hA', hA2⟩ hc hdis help_same d
 ·by_cases e : s.q.hd = H
  ·have h2 := hs.setHd hn
   refine tak_5a (K := stK) (h0 := s.bk H) (t := s.bk T) (n := s.bk (N.getD 0)) (cur := some ⟨s.bk s.q.hd, 0, none⟩) (hs.boxP hH) (hs.boxP hn) hs.hc (hs.qz 0) (not_heldB hq 0) (fun d => by have := hs.eq hs.hd hH d; rwa [decide_eq_true e] at this) (h2.vc hn) (h2.bz hn 0) hA ?_
   refine do_take1 (er := 0) (ans_same hc.1 (heap_setCell_ne _ _ _ fun e1 => hdis ab (.inl rfl) (.inl e1))) (fun k => not_heldB (hF ab (.inr (.inl rfl))) k) hA2 (.stop fun d => q_ans (an := (true, s.q.vl (N.getD 0))) (q' := { s.q with hd := N.getD 0 }) (h2.same fun r hr => ansW_same (hab r (qr_same (s := s) rfl hr))) rfl (by simp [RQ.step, RQ.take, e, RC.n]) d)
  ·refine tak_5b (K := stK) (h0 := s.bk H) (t := s.bk T) (n := s.bk (N.getD 0)) (cur := some ⟨s.bk s.q.hd, 0, none⟩) (hs.boxP hH) (hs.boxP hn) hs.hc (hs.qz 0) (not_heldB hq 0) (fun d => by have := hs.eq hs.hd hH d; rwa [decide_eq_false e] at this) hA fun A' hA' => .stop fun d => q_live (rc' := ⟨2, 1, H, T, N, new⟩) (A' := A') hs rfl (by simp [RQ.step, RQ.take, e]) rfl ⟨hH, hT, hn, hnew, .inr (.inl rfl), ⟨by simp, by simp⟩, hA', hA2⟩ hc hdis (fun r _ => rfl) d
theorem stp_emp {s : QS} {T : Nat} {H ph new : Nat} {N : Option Nat} {v : Int} {A A2 : Array Value} {ab eb : Nat} (hJ : QJ qb st s ⟨⟨3, ph, H, T, N, new⟩, v, A, A2, ab, eb⟩) (hs : QU qb s w) (hc : QCU ⟨⟨3, ph, H, T, N, new⟩, v, A, A2, ab, eb⟩ w) (hdis : ∀ q, QCR ⟨⟨3, ph, H, T, N, new⟩, v, A, A2, ab, eb⟩ q → ¬ QR qb s q) (hF : ∀ r, QR qb s r ∨ QCR ⟨⟨3, ph, H, T, N, new⟩, v, A, A2, ab, eb⟩ r → F r = none) (b : Frame) (cs : List Frame) :
  Own Try.prog false F ((QLay qb).Out st s (QCR ⟨⟨3, ph, H, T, N, new⟩, v, A, A2, ab, eb⟩) ((QLay qb).stp s ⟨⟨3, ph, H, T, N, new⟩, v, A, A2, ab, eb⟩) w (b :: cs)) (back (.tuple #[]) ((QLay qb).cf st ⟨⟨3, ph, H, T, N, new⟩, v, A, A2, ab, eb⟩ ++ b :: cs)) w := by
 have hA := hJ.A
 have hA2 := hJ.A2
 have hT : T < s.q.B.length := hJ.T
 have hnew : new < s.q.B.length := hJ.new
 have hH : H < s.q.B.length := hJ.H
 have hn : N.getD 0 < s.q.B.length := hJ.n
 have hp := hJ.ph
 simp only at hp
 have hab : ∀ r, QR qb s r → r ≠ ab := fun r hr e => hdis r (.inl e) hr
 have heb : ∀ r, QR qb s r → r ≠ eb := fun r hr e => hdis r (.inr ⟨rfl, e⟩) hr
 obtain ⟨he, hne⟩ := hc.2 rfl
 have hph : ph = 1 ∨ ph = 2 := by
  simp only [if_true] at hp
  omega
 rcases hph with rfl | rfl
 ·refine emp_1 (K := stK) (h0 := s.bk s.q.hd) (hs.boxP hs.hd) hs.hc hA fun A' hA' => .stop fun d => q_live (rc' := ⟨3, 2, s.q.hd, T, N, new⟩) (A' := A') hs rfl rfl rfl ⟨hs.hd, hT, hn, hnew, .inr (.inr rfl), ⟨by simp, by simp⟩, hA', hA2⟩ hc hdis (fun r _ => rfl) d
 ·cases e : s.q.nx H with
  | none =>
   refine emp_2 (K := stK) (h0 := s.bk H) (nx := none) (.inl rfl) ((hs.nc hH).trans (by rw [e]; rfl)) hA ?_
   refine do_emp1t hc.1 (fun k => not_heldB (hF ab (.inr (.inl rfl))) k) he hne (fun k => not_heldB (hF eb (.inr (.inr ⟨rfl, rfl⟩))) k) hA2 (.stop fun d => q_ans (an := (true, 1)) (q' := s.q) (hs.same fun r hr => (ansW_same (hab r hr)).trans (heap_setCell_ne _ _ _ (heb r hr))) rfl (by simp [RQ.step, RQ.emp, e]) d)
  | some n =>
   have hnl := hs.nxlt e
   refine emp_2 (K := stK) (h0 := s.bk H) (nx := some ⟨s.bk n, 0, none⟩) (hs.boxP hnl) ((hs.nc hH).trans (by rw [e]; rfl)) hA ?_
   refine do_emp1f hc.1 (fun k => not_heldB (hF ab (.inr (.inl rfl))) k) he hne hA2 (.stop fun d => q_ans (an := (true, 0)) (q' := s.q) (hs.same fun r hr => ansW_same (hab r hr)) rfl (by simp [RQ.step, RQ.emp, e]) d)
end
noncomputable section
variable {F : Fz} {w : World}
theorem call_tick (a : Addr) (w : World) : (callMethod (.iface 37 (.pointer (some a))) "Step" #[]).run Try.prog w = .ok (.enter 117 #[.pointer (some a)]) w := by kernel_rfl
theorem call_tickE (a : Addr) (w : World) (es : Array Event) : (callMethod (.iface 37 (.pointer (some a))) "Step" #[]).events Try.prog w es = es := by kernel_rfl
@[go_sem] theorem mk37 (x : Value) (w : World) : (Instr.makeInterface 37 x).run Try.prog w = .ok (.iface 37 x) w := by simp [Instr.makeInterface, run_underlying Try.underlying37]
def tkBody : Code := Try.f117.body.getD .skip
def tkr0 : Code := Code.piece [] tkBody
def tko0 : Array Oper := Code.opsOf tkr0
theorem tkr0_eq : tkr0 = .region 0 tko0 false := by kernel_rfl
theorem enter_tk (args : Array Value) : Frame.enter Try.prog 117 args .normal = (Go.Conc.base 117).at { tmps := args ++ Array.replicate (9 - args.size) undef, defers := [] } [.code tkr0] := enter_at args Try.func117 rfl
theorem callable117 : Callable 117 := callable Try.func117 rfl rfl
def tkT (s : Nat → Value) : Array Value := #[s 0, s 1, s 2, s 3, s 4, s 5, s 6, s 7, s 8]
theorem tkT_of {A : Array Value} (h : A.size = 9) : ∃ s, A = tkT s := by
 obtain ⟨s, hs, _⟩ := arr_lit A h
 exact ⟨s, hs⟩
def cK : StK := ⟨37, 117, callable117, call_tick, call_tickE⟩
theorem tk_0 {sb : Nat} {n : Int} (hn : 0 ≤ n) (hn2 : n < 1000000000) (hc : w.cell? ⟨sb, 0, none⟩ = some (.int .i64 n)) (hz : w.frozen? ⟨sb, 0, none⟩ = false) (hnh : ¬ held F ⟨sb, 0, none⟩) {c : Frame} {cs : List Frame} {main : Bool} {Stop : Goroutine → World → Prop}
  (h : Own Try.prog main F Stop (G (c.finish (.tuple #[])) cs) (w.setCell ⟨sb, 0, none⟩ (.int .i64 (n + 1)))) :
  Own Try.prog main F Stop (G (Frame.enter Try.prog 117 #[.pointer (some ⟨sb, 0, none⟩)] .normal) (c :: cs)) w := by
 have hw : IntKind.i64.wrap (n + 1) = n + 1 := IntWalk.i64_in _ (by omega)
 rw [enter_tk]
 walk_nrm
 rw [tkr0_eq]
 refine ogR ?_
 simp only [tko0, Code.opsOf, tkr0, Code.piece, tkBody, Try.f117, Option.getD_some, List.size_toArray, List.length_cons, List.length_nil, Nat.reduceAdd, Nat.zero_add, List.range, List.range.loop]
 iterate 3 (refine oW fun dd K hK => ?_; go_simp; refine qT hK ?_; clear hK K)
 (refine oW fun dd K hK => ?_; go_simp; refine hK _ _ ⟨⟨⟨0, Grew.refl _ _⟩, fun e he => by (have hm := mem_listed he; clear he hK; simp [go_sem, hc, hz] at hm; subst hm; exact evT_read _ _)⟩, Own.at ?_ dd⟩; clear hK K)
 iterate 3 (refine oW fun dd K hK => ?_; go_simp; refine qT hK ?_; clear hK K)
 (refine oW fun dd K hK => ?_; go_simp; refine hK _ _ ⟨⟨⟨0, grew_setCell rfl hnh _⟩, fun e he => by (have hm := mem_listed he; clear he hK; simp [go_sem, storedEv, hc, hz] at hm; subst hm; exact evT_write _ _ hnh)⟩, ?_⟩; clear hK K; rw [setCell_at']; refine Own.at ?_ dd)
 refine ogE ?_
 refine own_go rfl (fun d => stepG_end) ?_
 refine own_go rfl (fun d => stepG_leave (fn := Try.f117) (v := .tuple #[]) rfl rfl Try.func117 (by simp [results, Try.f117]) (by simp [results, Try.f117, go_sem])) ?_
 exact h
def clBody : Code := Try.f21.body.getD .skip
def cls0 : Code := Code.piece [] clBody
def clr0 : Code := Code.piece [true] clBody
def clo0 : Array Oper := Code.opsOf clr0
def cls1 : Code := Code.piece [false] clBody
def cls2 : Code := Code.piece [false, true] clBody
def clr1 : Code := Code.piece [false, true, true] clBody
def clo1 : Array Oper := Code.opsOf clr1
def clb0 : Code := Code.piece [false, true, false] clBody
def cls3 : Code := Code.piece [false, true, false, true] clBody
def clr2 : Code := Code.piece [false, true, false, true, true] clBody
def clo2 : Array Oper := Code.opsOf clr2
def clc12 : Code := Code.piece [false, true, false, true, false] clBody
def cls4 : Code := Code.piece [false, true, false, true, false, true] clBody
def clr3 : Code := Code.piece [false, true, false, true, false, true, true] clBody
def clo3 : Array Oper := Code.opsOf clr3
def cls5 : Code := Code.piece [false, true, false, true, false, true, false] clBody
def clr4 : Code := Code.piece [false, true, false, true, false, true, false, true] clBody
def clo4 : Array Oper := Code.opsOf clr4
def cls6 : Code := Code.piece [false, true, false, true, false, false] clBody
def clr5 : Code := Code.piece [false, true, false, true, false, false, true] clBody
def clo5 : Array Oper := Code.opsOf clr5
def clc21 : Code := Code.piece [false, true, false, true, false, false, false] clBody
def cls7 : Code := Code.piece [false, true, false, true, false, false, false, true] clBody
def clr6 : Code := Code.piece [false, true, false, true, false, false, false, true, true] clBody
def clo6 : Array Oper := Code.opsOf clr6
def cls8 : Code := Code.piece [false, true, false, true, false, false, false, true, false] clBody
def clr7 : Code := Code.piece [false, true, false, true, false, false, false, true, false, true] clBody
def clo7 : Array Oper := Code.opsOf clr7
def cls9 : Code := Code.piece [false, true, false, true, false, false, false, false] clBody
def clr8 : Code := Code.piece [false, true, false, true, false, false, false, false, true] clBody
def clo8 : Array Oper := Code.opsOf clr8
def clc34 : Code := Code.piece [false, true, false, true, false, false, false, false, false] clBody
def cls10 : Code := Code.piece [false, true, false, true, false, false, false, false, false, true] clBody
def clr9 : Code := Code.piece [false, true, false, true, false, false, false, false, false, true, true] clBody
def clo9 : Array Oper := Code.opsOf clr9
def cls11 : Code := Code.piece [false, true, false, true, false, false, false, false, false, true, false] clBody
def cls12 : Code := Code.piece [false, true, false, true, false, false, false, false, false, true, false, true] clBody
def clr10 : Code := Code.piece [false, true, false, true, false, false, false, false, false, true, false, true, true] clBody
def clo10 : Array Oper := Code.opsOf clr10
def clc39 : Code := Code.piece [false, true, false, true, false, false, false, false, false, true, false, true, false] clBody
def clr11 : Code := Code.piece [false, true, false, true, false, false, false, false, false, true, false, true, false, true] clBody
def clo11 : Array Oper := Code.opsOf clr11
def cls13 : Code := Code.piece [false, true, false, true, false, false, false, false, false, true, false, false] clBody
def clr12 : Code := Code.piece [false, true, false, true, false, false, false, false, false, true, false, false, true] clBody
def clo12 : Array Oper := Code.opsOf clr12
def cls14 : Code := Code.piece [false, false] clBody
def clr13 : Code := Code.piece [false, false, true] clBody
def clo13 : Array Oper := Code.opsOf clr13
theorem cls0_eq : cls0 = .seq clr0 cls1 := by kernel_rfl
theorem clr0_eq : clr0 = .region 0 clo0 false := by kernel_rfl
theorem cls1_eq : cls1 = .seq cls2 cls14 := by kernel_rfl
theorem cls2_eq : cls2 = .seq clr1 clb0 := by kernel_rfl
theorem clr1_eq : clr1 = .region 1 clo1 false := by kernel_rfl
theorem clb0_eq : clb0 = .block 0 cls3 := by kernel_rfl
theorem cls3_eq : cls3 = .seq clr2 clc12 := by kernel_rfl
theorem clr2_eq : clr2 = .region 2 clo2 false := by kernel_rfl
theorem clc12_eq : clc12 = .cond (.tmp 12) cls4 cls6 := by kernel_rfl
theorem cls4_eq : cls4 = .seq clr3 cls5 := by kernel_rfl
theorem clr3_eq : clr3 = .region 3 clo3 false := by kernel_rfl
theorem cls5_eq : cls5 = .seq clr4 .ret := by kernel_rfl
theorem clr4_eq : clr4 = .region 4 clo4 false := by kernel_rfl
theorem cls6_eq : cls6 = .seq clr5 clc21 := by kernel_rfl
theorem clr5_eq : clr5 = .region 5 clo5 false := by kernel_rfl
theorem clc21_eq : clc21 = .cond (.tmp 21) cls7 cls9 := by kernel_rfl
theorem cls7_eq : cls7 = .seq clr6 cls8 := by kernel_rfl
theorem clr6_eq : clr6 = .region 6 clo6 false := by kernel_rfl
theorem cls8_eq : cls8 = .seq clr7 .ret := by kernel_rfl
theorem clr7_eq : clr7 = .region 7 clo7 false := by kernel_rfl
theorem cls9_eq : cls9 = .seq clr8 clc34 := by kernel_rfl
theorem clr8_eq : clr8 = .region 8 clo8 false := by kernel_rfl
theorem clc34_eq : clc34 = .cond (.tmp 34) cls10 .skip := by kernel_rfl
theorem cls10_eq : cls10 = .seq clr9 cls11 := by kernel_rfl
theorem clr9_eq : clr9 = .region 9 clo9 false := by kernel_rfl
theorem cls11_eq : cls11 = .seq cls12 cls13 := by kernel_rfl
theorem cls12_eq : cls12 = .seq clr10 clc39 := by kernel_rfl
theorem clr10_eq : clr10 = .region 10 clo10 false := by kernel_rfl
theorem clc39_eq : clc39 = .cond (.tmp 39) clr11 .skip := by kernel_rfl
theorem clr11_eq : clr11 = .region 11 clo11 false := by kernel_rfl
theorem cls13_eq : cls13 = .seq clr12 .ret := by kernel_rfl
theorem clr12_eq : clr12 = .region 12 clo12 false := by kernel_rfl
theorem cls14_eq : cls14 = .seq clr13 .ret := by kernel_rfl
theorem clr13_eq : clr13 = .region 13 clo13 false := by kernel_rfl
theorem enter_cl (args : Array Value) : Frame.enter Try.prog 21 args .normal = (Go.Conc.base 21).at { tmps := args ++ Array.replicate (43 - args.size) undef, defers := [] } [.code cls0] := enter_at args Try.func21 rfl
theorem callable21 : Callable 21 := callable Try.func21 rfl rfl
def clT (s : Nat → Value) : Array Value := #[s 0, s 1, s 2, s 3, s 4, s 5, s 6, s 7, s 8, s 9, s 10, s 11, s 12, s 13, s 14, s 15, s 16, s 17, s 18, s 19, s 20, s 21, s 22, s 23, s 24, s 25, s 26, s 27, s 28, s 29, s 30, s 31, s 32, s 33, s 34, s 35, s 36, s 37, s 38, s 39, s 40, s 41, s 42]
theorem clT_of {A : Array Value} (h : A.size = 43) : ∃ s, A = clT s := by
 obtain ⟨s, hs, _⟩ := arr_lit A h
 exact ⟨s, hs⟩
theorem cl_other {n : Nat} (hU : Under F n) (hn : n ≤ w.heap.size) {sa : Addr} {qb : Nat} {kd a b c0 : Int} (k1 : (kd == 1) = false) (k2 : (kd == 2) = false) (k3 : (kd == 3) = false) {c : Frame} {cs : List Frame} {main : Bool} {Stop : Goroutine → World → Prop}
  (h : Own Try.prog main F Stop (G (c.finish (.agg #[.bool false, .int .i64 0, .slice none 0 0])) cs) (ansW ((w.alloc (.cells #[.int .i64 kd, .int .i64 a, .int .i64 b, .int .i64 c0] 44)).alloc (.cells #[.bool false, .int .i64 0, .slice none 0 0] 46)) (w.heap.size + 1) false 0)) :
  Own Try.prog main F Stop (G (Frame.enter Try.prog 21 #[.pointer (some ⟨qb, 0, none⟩), .pointer (some sa), .agg #[.int .i64 kd, .int .i64 a, .int .i64 b, .int .i64 c0]] .normal) (c :: cs)) w := by
 rw [enter_cl]
 walk_nrm
 rw [cls0_eq]
 refine ogS ?_
 rw [clr0_eq]
 refine ogR ?_
 simp only [clo0, Code.opsOf, clr0, Code.piece, clBody, Try.f21, Option.getD_some, List.size_toArray, List.length_cons, List.length_nil, Nat.reduceAdd, Nat.zero_add, List.range, List.range.loop]
 iterate 2 (refine oW fun dd K hK => ?_; go_simp; refine qA hK hU ?_; clear hK K)
 refine ogE ?_
 rw [cls1_eq]
 refine ogS ?_
 rw [cls2_eq]
 refine ogS ?_
 rw [clr1_eq]
 refine ogR ?_
 simp only [clo1, Code.opsOf, clr1, Code.piece, clBody, Try.f21, Option.getD_some, List.size_toArray, List.length_cons, List.length_nil, Nat.reduceAdd, Nat.zero_add, List.range, List.range.loop]
 (refine oW fun dd K hK => ?_; go_simp; refine qT hK ?_; clear hK K)
 (refine oW fun dd K hK => ?_; go_simp; refine qL hK ?_; clear hK K)
 refine ogE ?_
 rw [clb0_eq]
 refine ogB ?_
 rw [cls3_eq]
 refine ogS ?_
 rw [clr2_eq]
 refine ogR ?_
 simp only [clo2, Code.opsOf, clr2, Code.piece, clBody, Try.f21, Option.getD_some, List.size_toArray, List.length_cons, List.length_nil, Nat.reduceAdd, Nat.zero_add, List.range, List.range.loop]
 iterate 2 (refine oW fun dd K hK => ?_; go_simp; refine qT hK ?_; clear hK K)
 refine ogE ?_
 rw [clc12_eq]
 refine ogF ?_
 simp only [Bool.false_eq_true, if_false]
 rw [cls6_eq]
 refine ogS ?_
 rw [clr5_eq]
 refine ogR ?_
 simp only [clo5, Code.opsOf, clr5, Code.piece, clBody, Try.f21, Option.getD_some, List.size_toArray, List.length_cons, List.length_nil, Nat.reduceAdd, Nat.zero_add, List.range, List.range.loop]
 iterate 2 (refine oW fun dd K hK => ?_; go_simp; refine qT hK ?_; clear hK K)
 refine ogE ?_
 rw [clc21_eq]
 refine ogF ?_
 simp only [Bool.false_eq_true, if_false]
 rw [cls9_eq]
 refine ogS ?_
 rw [clr8_eq]
 refine ogR ?_
 simp only [clo8, Code.opsOf, clr8, Code.piece, clBody, Try.f21, Option.getD_some, List.size_toArray, List.length_cons, List.length_nil, Nat.reduceAdd, Nat.zero_add, List.range, List.range.loop]
 iterate 2 (refine oW fun dd K hK => ?_; go_simp; refine qT hK ?_; clear hK K)
 refine ogE ?_
 rw [clc34_eq]
 refine ogF ?_
 simp only [Bool.false_eq_true, if_false]
 refine ogK ?_
 refine ogI ?_
 rw [cls14_eq]
 refine ogS ?_
 rw [clr13_eq]
 refine ogR ?_
 simp only [clo13, Code.opsOf, clr13, Code.piece, clBody, Try.f21, Option.getD_some, List.size_toArray, List.length_cons, List.length_nil, Nat.reduceAdd, Nat.zero_add, List.range, List.range.loop]
 (refine oW fun dd K hK => ?_; go_simp; refine qT hK ?_; clear hK K)
 (refine oW fun dd K hK => ?_; go_simp; refine hK _ _ ⟨⟨⟨0, grew3 (fun k => not_held hU (show n ≤ w.heap.size + 1 by omega)) _ _ _⟩, fun e he => by (have hm := mem_listed he; clear he hK; simp [go_sem, storedEv] at hm; rcases hm with rfl | rfl | rfl <;> exact evT_write _ _ ((fun k => not_held hU (show n ≤ w.heap.size + 1 by omega)) _))⟩, ?_⟩; clear hK K; simp only [setCell_at']; refine Own.at ?_ dd)
 refine ogE ?_
 refine ogX ?_
 refine own_leave (fn := Try.f21) (v := .agg #[.bool false, .int .i64 0, .slice none 0 0]) rfl rfl Try.func21 (fun d => by simp [results, Try.f21, go_sem]) (fun d e he => by (simp [results, Try.f21, go_sem] at he; rcases he with rfl | rfl | rfl <;> exact evT_read _ _)) ?_
 exact h
theorem cl_put0 {n : Nat} (hU : Under F n) (hn : n ≤ w.heap.size) {sa : Addr} {qb : Nat} {a b c0 : Int}  {cs : List Frame} {main : Bool} {Stop : Goroutine → World → Prop}
  (h : ∀ A, Slots 43 A [(6, .pointer (some ⟨w.heap.size + 1, 0, none⟩))] → Own Try.prog main F Stop (G (Frame.enter Try.prog 25 #[.pointer (some ⟨qb, 0, none⟩), .iface 37 (.pointer (some sa)), .int .i64 a] .normal) (((Go.Conc.base 21).at ⟨A, []⟩ [.inRegion clo3 [5], .code cls5, .inBlock 0, .code cls14]) :: cs)) ((w.alloc (.cells #[.int .i64 1, .int .i64 a, .int .i64 b, .int .i64 c0] 44)).alloc (.cells #[.bool false, .int .i64 0, .slice none 0 0] 46))) :
  Own Try.prog main F Stop (G (Frame.enter Try.prog 21 #[.pointer (some ⟨qb, 0, none⟩), .pointer (some sa), .agg #[.int .i64 1, .int .i64 a, .int .i64 b, .int .i64 c0]] .normal) cs) w := by
 rw [enter_cl]
 walk_nrm
 rw [cls0_eq]
 refine ogS ?_
 rw [clr0_eq]
 refine ogR ?_
 simp only [clo0, Code.opsOf, clr0, Code.piece, clBody, Try.f21, Option.getD_some, List.size_toArray, List.length_cons, List.length_nil, Nat.reduceAdd, Nat.zero_add, List.range, List.range.loop]
 iterate 2 (refine oW fun dd K hK => ?_; go_simp; refine qA hK hU ?_; clear hK K)
 refine ogE ?_
 rw [cls1_eq]
 refine ogS ?_
 rw [cls2_eq]
 refine ogS ?_
 rw [clr1_eq]
 refine ogR ?_
 simp only [clo1, Code.opsOf, clr1, Code.piece, clBody, Try.f21, Option.getD_some, List.size_toArray, List.length_cons, List.length_nil, Nat.reduceAdd, Nat.zero_add, List.range, List.range.loop]
 (refine oW fun dd K hK => ?_; go_simp; refine qT hK ?_; clear hK K)
 (refine oW fun dd K hK => ?_; go_simp; refine qL hK ?_; clear hK K)
 refine ogE ?_
 rw [clb0_eq]
 refine ogB ?_
 rw [cls3_eq]
 refine ogS ?_
 rw [clr2_eq]
 refine ogR ?_
 simp only [clo2, Code.opsOf, clr2, Code.piece, clBody, Try.f21, Option.getD_some, List.size_toArray, List.length_cons, List.length_nil, Nat.reduceAdd, Nat.zero_add, List.range, List.range.loop]
 iterate 2 (refine oW fun dd K hK => ?_; go_simp; refine qT hK ?_; clear hK K)
 refine ogE ?_
 rw [clc12_eq]
 refine ogT ?_
 simp only [if_true]
 rw [cls4_eq]
 refine ogS ?_
 rw [clr3_eq]
 refine ogR ?_
 simp only [clo3, Code.opsOf, clr3, Code.piece, clBody, Try.f21, Option.getD_some, List.size_toArray, List.length_cons, List.length_nil, Nat.reduceAdd, Nat.zero_add, List.range, List.range.loop]
 iterate 4 (refine oW fun dd K hK => ?_; go_simp; refine qT hK ?_; clear hK K)
 (refine oW fun dd K hK => ?_; go_simp; refine qL hK ?_; clear hK K)
 refine oc callable25 #[.pointer (some ⟨qb, 0, none⟩), .iface 37 (.pointer (some sa)), .int .i64 a] ?_
 refine h _ ?_
 exact ⟨rfl, rfl, trivial⟩
theorem cl_take0 {n : Nat} (hU : Under F n) (hn : n ≤ w.heap.size) {sa : Addr} {qb : Nat} {a b c0 : Int}  {cs : List Frame} {main : Bool} {Stop : Goroutine → World → Prop}
  (h : ∀ A, Slots 43 A [(6, .pointer (some ⟨w.heap.size + 1, 0, none⟩))] → Own Try.prog main F Stop (G (Frame.enter Try.prog 26 #[.pointer (some ⟨qb, 0, none⟩), .iface 37 (.pointer (some sa))] .normal) (((Go.Conc.base 21).at ⟨A, []⟩ [.inRegion clo6 [3, 4, 5, 6, 7, 8], .code cls8, .inBlock 0, .code cls14]) :: cs)) ((w.alloc (.cells #[.int .i64 2, .int .i64 a, .int .i64 b, .int .i64 c0] 44)).alloc (.cells #[.bool false, .int .i64 0, .slice none 0 0] 46))) :
  Own Try.prog main F Stop (G (Frame.enter Try.prog 21 #[.pointer (some ⟨qb, 0, none⟩), .pointer (some sa), .agg #[.int .i64 2, .int .i64 a, .int .i64 b, .int .i64 c0]] .normal) cs) w := by
 rw [enter_cl]
 walk_nrm
 rw [cls0_eq]
 refine ogS ?_
 rw [clr0_eq]
 refine ogR ?_
 simp only [clo0, Code.opsOf, clr0, Code.piece, clBody, Try.f21, Option.getD_some, List.size_toArray, List.length_cons, List.length_nil, Nat.reduceAdd, Nat.zero_add, List.range, List.range.loop]
 iterate 2 (refine oW fun dd K hK => ?_; go_simp; refine qA hK hU ?_; clear hK K)
 refine ogE ?_
 rw [cls1_eq]
 refine ogS ?_
 rw [cls2_eq]
 refine ogS ?_
 rw [clr1_eq]
 refine ogR ?_
 simp only [clo1, Code.opsOf, clr1, Code.piece, clBody, Try.f21, Option.getD_some, List.size_toArray, List.length_cons, List.length_nil, Nat.reduceAdd, Nat.zero_add, List.range, List.range.loop]
 (refine oW fun dd K hK => ?_; go_simp; refine qT hK ?_; clear hK K)
 (refine oW fun dd K hK => ?_; go_simp; refine qL hK ?_; clear hK K)
 refine ogE ?_
 rw [clb0_eq]
 refine ogB ?_
 rw [cls3_eq]
 refine ogS ?_
 rw [clr2_eq]
 refine ogR ?_
 simp only [clo2, Code.opsOf, clr2, Code.piece, clBody, Try.f21, Option.getD_some, List.size_toArray, List.length_cons, List.length_nil, Nat.reduceAdd, Nat.zero_add, List.range, List.range.loop]
 iterate 2 (refine oW fun dd K hK => ?_; go_simp; refine qT hK ?_; clear hK K)
 refine ogE ?_
 rw [clc12_eq]
 refine ogF ?_
 simp only [Bool.false_eq_true, if_false]
 rw [cls6_eq]
 refine ogS ?_
 rw [clr5_eq]
 refine ogR ?_
 simp only [clo5, Code.opsOf, clr5, Code.piece, clBody, Try.f21, Option.getD_some, List.size_toArray, List.length_cons, List.length_nil, Nat.reduceAdd, Nat.zero_add, List.range, List.range.loop]
 iterate 2 (refine oW fun dd K hK => ?_; go_simp; refine qT hK ?_; clear hK K)
 refine ogE ?_
 rw [clc21_eq]
 refine ogT ?_
 simp only [if_true]
 rw [cls7_eq]
 refine ogS ?_
 rw [clr6_eq]
 refine ogR ?_
 simp only [clo6, Code.opsOf, clr6, Code.piece, clBody, Try.f21, Option.getD_some, List.size_toArray, List.length_cons, List.length_nil, Nat.reduceAdd, Nat.zero_add, List.range, List.range.loop]
 iterate 3 (refine oW fun dd K hK => ?_; go_simp; refine qT hK ?_; clear hK K)
 refine oc callable26 #[.pointer (some ⟨qb, 0, none⟩), .iface 37 (.pointer (some sa))] ?_
 refine h _ ?_
 exact ⟨rfl, rfl, trivial⟩
theorem cl_emp0 {n : Nat} (hU : Under F n) (hn : n ≤ w.heap.size) {sa : Addr} {qb : Nat} {a b c0 : Int}  {cs : List Frame} {main : Bool} {Stop : Goroutine → World → Prop}
  (h : ∀ A, Slots 43 A [(6, .pointer (some ⟨w.heap.size + 1, 0, none⟩)), (9, .int .i64 0)] → Own Try.prog main F Stop (G (Frame.enter Try.prog 27 #[.pointer (some ⟨qb, 0, none⟩), .iface 37 (.pointer (some sa))] .normal) (((Go.Conc.base 21).at ⟨A, []⟩ [.inRegion clo10 [3], .code clc39, .code cls13, .inBlock 0, .code cls14]) :: cs)) ((w.alloc (.cells #[.int .i64 3, .int .i64 a, .int .i64 b, .int .i64 c0] 44)).alloc (.cells #[.bool false, .int .i64 0, .slice none 0 0] 46))) :
  Own Try.prog main F Stop (G (Frame.enter Try.prog 21 #[.pointer (some ⟨qb, 0, none⟩), .pointer (some sa), .agg #[.int .i64 3, .int .i64 a, .int .i64 b, .int .i64 c0]] .normal) cs) w := by
 rw [enter_cl]
 walk_nrm
 rw [cls0_eq]
 refine ogS ?_
 rw [clr0_eq]
 refine ogR ?_
 simp only [clo0, Code.opsOf, clr0, Code.piece, clBody, Try.f21, Option.getD_some, List.size_toArray, List.length_cons, List.length_nil, Nat.reduceAdd, Nat.zero_add, List.range, List.range.loop]
 iterate 2 (refine oW fun dd K hK => ?_; go_simp; refine qA hK hU ?_; clear hK K)
 refine ogE ?_
 rw [cls1_eq]
 refine ogS ?_
 rw [cls2_eq]
 refine ogS ?_
 rw [clr1_eq]
 refine ogR ?_
 simp only [clo1, Code.opsOf, clr1, Code.piece, clBody, Try.f21, Option.getD_some, List.size_toArray, List.length_cons, List.length_nil, Nat.reduceAdd, Nat.zero_add, List.range, List.range.loop]
 (refine oW fun dd K hK => ?_; go_simp; refine qT hK ?_; clear hK K)
 (refine oW fun dd K hK => ?_; go_simp; refine qL hK ?_; clear hK K)
 refine ogE ?_
 rw [clb0_eq]
 refine ogB ?_
 rw [cls3_eq]
 refine ogS ?_
 rw [clr2_eq]
 refine ogR ?_
 simp only [clo2, Code.opsOf, clr2, Code.piece, clBody, Try.f21, Option.getD_some, List.size_toArray, List.length_cons, List.length_nil, Nat.reduceAdd, Nat.zero_add, List.range, List.range.loop]
 iterate 2 (refine oW fun dd K hK => ?_; go_simp; refine qT hK ?_; clear hK K)
 refine ogE ?_
 rw [clc12_eq]
 refine ogF ?_
 simp only [Bool.false_eq_true, if_false]
 rw [cls6_eq]
 refine ogS ?_
 rw [clr5_eq]
 refine ogR ?_
 simp only [clo5, Code.opsOf, clr5, Code.piece, clBody, Try.f21, Option.getD_some, List.size_toArray, List.length_cons, List.length_nil, Nat.reduceAdd, Nat.zero_add, List.range, List.range.loop]
 iterate 2 (refine oW fun dd K hK => ?_; go_simp; refine qT hK ?_; clear hK K)
 refine ogE ?_
 rw [clc21_eq]
 refine ogF ?_
 simp only [Bool.false_eq_true, if_false]
 rw [cls9_eq]
 refine ogS ?_
 rw [clr8_eq]
 refine ogR ?_
 simp only [clo8, Code.opsOf, clr8, Code.piece, clBody, Try.f21, Option.getD_some, List.size_toArray, List.length_cons, List.length_nil, Nat.reduceAdd, Nat.zero_add, List.range, List.range.loop]
 iterate 2 (refine oW fun dd K hK => ?_; go_simp; refine qT hK ?_; clear hK K)
 refine ogE ?_
 rw [clc34_eq]
 refine ogT ?_
 simp only [if_true]
 rw [cls10_eq]
 refine ogS ?_
 rw [clr9_eq]
 refine ogR ?_
 simp only [clo9, Code.opsOf, clr9, Code.piece, clBody, Try.f21, Option.getD_some, List.size_toArray, List.length_cons, List.length_nil, Nat.reduceAdd, Nat.zero_add, List.range, List.range.loop]
 (refine oW fun dd K hK => ?_; go_simp; refine qT hK ?_; clear hK K)
 refine ogE ?_
 rw [cls11_eq]
 refine ogS ?_
 rw [cls12_eq]
 refine ogS ?_
 rw [clr10_eq]
 refine ogR ?_
 simp only [clo10, Code.opsOf, clr10, Code.piece, clBody, Try.f21, Option.getD_some, List.size_toArray, List.length_cons, List.length_nil, Nat.reduceAdd, Nat.zero_add, List.range, List.range.loop]
 iterate 3 (refine oW fun dd K hK => ?_; go_simp; refine qT hK ?_; clear hK K)
 refine oc callable27 #[.pointer (some ⟨qb, 0, none⟩), .iface 37 (.pointer (some sa))] ?_
 refine h _ ?_
 exact ⟨rfl, rfl, rfl, trivial⟩
theorem cl_put1 {ab : Nat} (ha : Ans w ab) (hnh : ∀ k, ¬ held F ⟨ab, k, none⟩) {A : Array Value} (hA : Slots 43 A [(6, .pointer (some ⟨ab, 0, none⟩))]) {c : Frame} {cs : List Frame} {main : Bool} {Stop : Goroutine → World → Prop}
  (h : Own Try.prog main F Stop (G (c.finish (.agg #[.bool true, .int .i64 0, .slice none 0 0])) cs) (ansW w ab true 0)) :
  Own Try.prog main F Stop (G (((Go.Conc.base 21).at ⟨A, []⟩ [.inRegion clo3 [5], .code cls5, .inBlock 0, .code cls14]).finish (.tuple #[])) (c :: cs)) w := by
 obtain ⟨hsz, h6, _⟩ := hA
 obtain ⟨s, rfl⟩ := clT_of hsz
 change s 6 = _ at h6
 clear hsz
 simp only [clT, h6]
 clear h6
 obtain ⟨x0, x1, x2, c0, c1, c2⟩ := ha.c
 have z0 := ha.z 0
 have z1 := ha.z 1
 have z2 := ha.z 2
 rw [Frame.finish_at]
 simp only [clo3, Code.opsOf, clr3, Code.piece, clBody, Try.f21, Option.getD_some, List.size_toArray, List.length_cons, List.length_nil, Nat.reduceAdd, Nat.zero_add, List.range, List.range.loop]
 walk_nrm
 refine ogE ?_
 rw [cls5_eq]
 refine ogS ?_
 rw [clr4_eq]
 refine ogR ?_
 simp only [clo4, Code.opsOf, clr4, Code.piece, clBody, Try.f21, Option.getD_some, List.size_toArray, List.length_cons, List.length_nil, Nat.reduceAdd, Nat.zero_add, List.range, List.range.loop]
 (refine oW fun dd K hK => ?_; go_simp; refine qT hK ?_; clear hK K)
 (refine oW fun dd K hK => ?_; go_simp; refine hK _ _ ⟨⟨⟨0, grew3 hnh _ _ _⟩, fun e he => by (have hm := mem_listed he; clear he hK; simp [go_sem, storedEv, c0, c1, c2, z0, z1, z2] at hm; rcases hm with rfl | rfl | rfl <;> exact evT_write _ _ (hnh _))⟩, ?_⟩; clear hK K; simp only [setCell_at']; refine Own.at ?_ dd)
 refine ogE ?_
 refine ogX ?_
 refine own_leave (fn := Try.f21) (v := .agg #[.bool true, .int .i64 0, .slice none 0 0]) rfl rfl Try.func21 (fun d => by simp [results, Try.f21, go_sem, c0, c1, c2, z0, z1, z2]) (fun d e he => by (simp [results, Try.f21, go_sem, c0, c1, c2, z0, z1, z2] at he; rcases he with rfl | rfl | rfl <;> exact evT_read _ _)) ?_
 exact h
theorem cl_take1 {ab : Nat} (ha : Ans w ab) (hnh : ∀ k, ¬ held F ⟨ab, k, none⟩) {v er : Int} {A : Array Value} (hA : Slots 43 A [(6, .pointer (some ⟨ab, 0, none⟩))]) {c : Frame} {cs : List Frame} {main : Bool} {Stop : Goroutine → World → Prop}
  (h : Own Try.prog main F Stop (G (c.finish (.agg #[.bool (er == 0), .int .i64 v, .slice none 0 0])) cs) (ansW w ab (er == 0) v)) :
  Own Try.prog main F Stop (G (((Go.Conc.base 21).at ⟨A, []⟩ [.inRegion clo6 [3, 4, 5, 6, 7, 8], .code cls8, .inBlock 0, .code cls14]).finish (.tuple #[.int .i64 v, .int .i64 er])) (c :: cs)) w := by
 obtain ⟨hsz, h6, _⟩ := hA
 obtain ⟨s, rfl⟩ := clT_of hsz
 change s 6 = _ at h6
 clear hsz
 simp only [clT, h6]
 clear h6
 obtain ⟨x0, x1, x2, c0, c1, c2⟩ := ha.c
 have z0 := ha.z 0
 have z1 := ha.z 1
 have z2 := ha.z 2
 rw [Frame.finish_at]
 simp only [clo6, Code.opsOf, clr6, Code.piece, clBody, Try.f21, Option.getD_some, List.size_toArray, List.length_cons, List.length_nil, Nat.reduceAdd, Nat.zero_add, List.range, List.range.loop]
 walk_nrm
 iterate 5 (refine oW fun dd K hK => ?_; go_simp; refine qT hK ?_; clear hK K)
 refine ogE ?_
 rw [cls8_eq]
 refine ogS ?_
 rw [clr7_eq]
 refine ogR ?_
 simp only [clo7, Code.opsOf, clr7, Code.piece, clBody, Try.f21, Option.getD_some, List.size_toArray, List.length_cons, List.length_nil, Nat.reduceAdd, Nat.zero_add, List.range, List.range.loop]
 iterate 4 (refine oW fun dd K hK => ?_; go_simp; refine qT hK ?_; clear hK K)
 (refine oW fun dd K hK => ?_; go_simp; refine hK _ _ ⟨⟨⟨0, grew3 hnh _ _ _⟩, fun e he => by (have hm := mem_listed he; clear he hK; simp [go_sem, storedEv, c0, c1, c2, z0, z1, z2] at hm; rcases hm with rfl | rfl | rfl <;> exact evT_write _ _ (hnh _))⟩, ?_⟩; clear hK K; simp only [setCell_at']; refine Own.at ?_ dd)
 refine ogE ?_
 refine ogX ?_
 refine own_leave (fn := Try.f21) (v := .agg #[.bool (er == 0), .int .i64 v, .slice none 0 0]) rfl rfl Try.func21 (fun d => by simp [results, Try.f21, go_sem, c0, c1, c2, z0, z1, z2]) (fun d e he => by (simp [results, Try.f21, go_sem, c0, c1, c2, z0, z1, z2] at he; rcases he with rfl | rfl | rfl <;> exact evT_read _ _)) ?_
 exact h
theorem cl_emp1f {ab : Nat} (ha : Ans w ab) (hnh : ∀ k, ¬ held F ⟨ab, k, none⟩) {A : Array Value} (hA : Slots 43 A [(6, .pointer (some ⟨ab, 0, none⟩)), (9, .int .i64 0)]) {c : Frame} {cs : List Frame} {main : Bool} {Stop : Goroutine → World → Prop}
  (h : Own Try.prog main F Stop (G (c.finish (.agg #[.bool true, .int .i64 0, .slice none 0 0])) cs) (ansW w ab true 0)) :
  Own Try.prog main F Stop (G (((Go.Conc.base 21).at ⟨A, []⟩ [.inRegion clo10 [3], .code clc39, .code cls13, .inBlock 0, .code cls14]).finish (.bool false)) (c :: cs)) w := by
 obtain ⟨hsz, h6, h9, _⟩ := hA
 obtain ⟨s, rfl⟩ := clT_of hsz
 change s 6 = _ at h6
 change s 9 = _ at h9
 clear hsz
 simp only [clT, h6, h9]
 clear h6 h9
 obtain ⟨x0, x1, x2, c0, c1, c2⟩ := ha.c
 have z0 := ha.z 0
 have z1 := ha.z 1
 have z2 := ha.z 2
 rw [Frame.finish_at]
 simp only [clo10, Code.opsOf, clr10, Code.piece, clBody, Try.f21, Option.getD_some, List.size_toArray, List.length_cons, List.length_nil, Nat.reduceAdd, Nat.zero_add, List.range, List.range.loop]
 walk_nrm
 refine ogE ?_
 rw [clc39_eq]
 refine ogF ?_
 simp only [Bool.false_eq_true, if_false]
 refine ogK ?_
 rw [cls13_eq]
 refine ogS ?_
 rw [clr12_eq]
 refine ogR ?_
 simp only [clo12, Code.opsOf, clr12, Code.piece, clBody, Try.f21, Option.getD_some, List.size_toArray, List.length_cons, List.length_nil, Nat.reduceAdd, Nat.zero_add, List.range, List.range.loop]
 iterate 2 (refine oW fun dd K hK => ?_; go_simp; refine qT hK ?_; clear hK K)
 (refine oW fun dd K hK => ?_; go_simp; refine hK _ _ ⟨⟨⟨0, grew3 hnh _ _ _⟩, fun e he => by (have hm := mem_listed he; clear he hK; simp [go_sem, storedEv, c0, c1, c2, z0, z1, z2] at hm; rcases hm with rfl | rfl | rfl <;> exact evT_write _ _ (hnh _))⟩, ?_⟩; clear hK K; simp only [setCell_at']; refine Own.at ?_ dd)
 refine ogE ?_
 refine ogX ?_
 refine own_leave (fn := Try.f21) (v := .agg #[.bool true, .int .i64 0, .slice none 0 0]) rfl rfl Try.func21 (fun d => by simp [results, Try.f21, go_sem, c0, c1, c2, z0, z1, z2]) (fun d e he => by (simp [results, Try.f21, go_sem, c0, c1, c2, z0, z1, z2] at he; rcases he with rfl | rfl | rfl <;> exact evT_read _ _)) ?_
 exact h
theorem cl_emp1t {ab : Nat} (ha : Ans w ab) (hnh : ∀ k, ¬ held F ⟨ab, k, none⟩) {A : Array Value} (hA : Slots 43 A [(6, .pointer (some ⟨ab, 0, none⟩)), (9, .int .i64 0)]) {c : Frame} {cs : List Frame} {main : Bool} {Stop : Goroutine → World → Prop}
  (h : Own Try.prog main F Stop (G (c.finish (.agg #[.bool true, .int .i64 1, .slice none 0 0])) cs) (ansW w ab true 1)) :
  Own Try.prog main F Stop (G (((Go.Conc.base 21).at ⟨A, []⟩ [.inRegion clo10 [3], .code clc39, .code cls13, .inBlock 0, .code cls14]).finish (.bool true)) (c :: cs)) w := by
 obtain ⟨hsz, h6, h9, _⟩ := hA
 obtain ⟨s, rfl⟩ := clT_of hsz
 change s 6 = _ at h6
 change s 9 = _ at h9
 clear hsz
 simp only [clT, h6, h9]
 clear h6 h9
 obtain ⟨x0, x1, x2, c0, c1, c2⟩ := ha.c
 have z0 := ha.z 0
 have z1 := ha.z 1
 have z2 := ha.z 2
 rw [Frame.finish_at]
 simp only [clo10, Code.opsOf, clr10, Code.piece, clBody, Try.f21, Option.getD_some, List.size_toArray, List.length_cons, List.length_nil, Nat.reduceAdd, Nat.zero_add, List.range, List.range.loop]
 walk_nrm
 refine ogE ?_
 rw [clc39_eq]
 refine ogT ?_
 simp only [if_true]
 rw [clr11_eq]
 refine ogR ?_
 simp only [clo11, Code.opsOf, clr11, Code.piece, clBody, Try.f21, Option.getD_some, List.size_toArray, List.length_cons, List.length_nil, Nat.reduceAdd, Nat.zero_add, List.range, List.range.loop]
 (refine oW fun dd K hK => ?_; go_simp; refine qT hK ?_; clear hK K)
 refine ogE ?_
 rw [cls13_eq]
 refine ogS ?_
 rw [clr12_eq]
 refine ogR ?_
 simp only [clo12, Code.opsOf, clr12, Code.piece, clBody, Try.f21, Option.getD_some, List.size_toArray, List.length_cons, List.length_nil, Nat.reduceAdd, Nat.zero_add, List.range, List.range.loop]
 iterate 2 (refine oW fun dd K hK => ?_; go_simp; refine qT hK ?_; clear hK K)
 (refine oW fun dd K hK => ?_; go_simp; refine hK _ _ ⟨⟨⟨0, grew3 hnh _ _ _⟩, fun e he => by (have hm := mem_listed he; clear he hK; simp [go_sem, storedEv, c0, c1, c2, z0, z1, z2] at hm; rcases hm with rfl | rfl | rfl <;> exact evT_write _ _ (hnh _))⟩, ?_⟩; clear hK K; simp only [setCell_at']; refine Own.at ?_ dd)
 refine ogE ?_
 refine ogX ?_
 refine own_leave (fn := Try.f21) (v := .agg #[.bool true, .int .i64 1, .slice none 0 0]) rfl rfl Try.func21 (fun d => by simp [results, Try.f21, go_sem, c0, c1, c2, z0, z1, z2]) (fun d e he => by (simp [results, Try.f21, go_sem, c0, c1, c2, z0, z1, z2] at he; rcases he with rfl | rfl | rfl <;> exact evT_read _ _)) ?_
 exact h
end
noncomputable section
theorem nx_new (vs : List Int) {k : Nat} (hk : k ≤ vs.length) : (newRQ vs).nx k = if k < vs.length then some (k + 1) else none := by
 unfold RQ.nx newRQ
 simp only [List.getElem?_map]
 rw [List.getElem?_range (by omega)]
 rfl
theorem newRQ_step {vs : List Int} {k : Nat} {v : Int} (hv : vs[k]? = some v) :
  newRQ (vs.take (k + 1)) = { (({ newRQ (vs.take k) with B := (newRQ (vs.take k)).B ++ [(v, none)] } : RQ).link k (k + 1)) with tl := k + 1 } := by
 have hk := (List.getElem?_eq_some_iff.1 hv).1
 have h1 : (vs.take k).length = k := by simp; omega
 have h2 : (vs.take (k + 1)).length = k + 1 := by simp; omega
 have hw : ∀ j, j ≤ k → newV (vs.take (k + 1)) j = newV (vs.take k) j := fun j hj => by
  unfold newV
  by_cases e : j = 0
  ·rw [if_pos e, if_pos e]
  ·rw [if_neg e, if_neg e, List.getD_eq_getElem?_getD, List.getD_eq_getElem?_getD, List.getElem?_take_of_lt (by omega), List.getElem?_take_of_lt (by omega)]
 have hlast : newV (vs.take (k + 1)) (k + 1) = v := by
  unfold newV
  rw [if_neg (by omega), List.getD_eq_getElem?_getD, List.getElem?_take_of_lt (by omega), show k + 1 - 1 = k by omega, hv]
  rfl
 have hB : (newRQ (vs.take (k + 1))).B = ((newRQ (vs.take k)).B ++ [(v, none)]).modify k fun b => (b.1, some (k + 1)) := by
  apply List.ext_getElem?
  intro j
  rw [List.getElem?_modify]
  simp only [newRQ, h1, h2]
  rcases Nat.lt_or_ge j (k + 1) with hj | hj
  ·rw [List.getElem?_append_left (by simp; omega), List.getElem?_map, List.getElem?_map, List.getElem?_range (by omega), List.getElem?_range (by omega)]
   simp only [Option.map_some, hw j (by omega)]
   by_cases e : j = k
   ·subst e
    simp
   ·rw [if_pos (by omega), if_pos (by omega)]
    simp [Ne.symm e]
  ·by_cases e : j = k + 1
   ·subst e
    rw [List.getElem?_append_right (by simp), List.getElem?_map, List.getElem?_range (by omega)]
    simp [hlast]
   ·rw [List.getElem?_eq_none (by simp; omega), List.getElem?_eq_none (by simp; omega)]
    rfl
 have : ∀ a b : RQ, a.B = b.B → a.hd = b.hd → a.tl = b.tl → a = b := fun a b h1 h2 h3 => by
  cases a; cases b; simp only at h1 h2 h3; subst h1; subst h2; subst h3; rfl
 refine this _ _ hB rfl ?_
 show (vs.take (k + 1)).length = k + 1
 exact h2
end
noncomputable section
variable {w w' : World}
def nxI : Option Nat → Int
 | none => -1
 | some n => n
def boxC (l : List (Int × Option Nat)) : List Value := (l.map fun b => [Value.int .i64 b.1, .int .i64 (nxI b.2)]).flatten
def callC (k : Int) (c : RC) (dn ok : Bool) (n : Int) : Array Value := #[.int .i64 k, .int .i64 c.ph, .int .i64 c.H, .int .i64 c.T, .int .i64 (nxI c.N), .int .i64 c.new, .bool dn, .bool ok, .int .i64 n, .slice none 0 0]
theorem end_calls {cb : Nat} {ok : Bool} {n : Int} {c0 c1 c2 c3 c4 c5 c6 c7 c8 c9 : Value} (h : w.heap[cb]? = some (.cells #[c0, c1, c2, c3, c4, c5, c6, c7, c8, c9] 48 (0, 0))) :
  Calls Try.prog 48 #[.pointer (some ⟨cb, 0, none⟩), .bool ok, .int .i64 n] w fun e w' => e = .returned (.tuple #[]) ∧
   w' = ((w.setCell ⟨cb, 6, none⟩ (.bool true)).setCell ⟨cb, 7, none⟩ (.bool ok)).setCell ⟨cb, 8, none⟩ (.int .i64 n) := by
 have e6 : w.cell? ⟨cb, 6, none⟩ = some c6 := by simp [World.cell?, h]
 have e7 : w.cell? ⟨cb, 7, none⟩ = some c7 := by simp [World.cell?, h]
 have e8 : w.cell? ⟨cb, 8, none⟩ = some c8 := by simp [World.cell?, h]
 have z : ∀ k, w.frozen? ⟨cb, k, none⟩ = false := fun k => by simp [World.frozen?, h]
 have z6 := z 6
 have z7 := z 7
 have z8 := z 8
 clear z
 go_enter Try.func48, Try.ntmps48
 go_wp2
 go_end0
 exact ⟨rfl, rfl⟩
def helpW (w : World) (rq : Nat) (tl T n : Int) : World := if tl = T then w.setCell ⟨rq, 2, none⟩ (.int .i64 n) else w
theorem help_calls {rq cb : Nat} {n hd tl T : Int} {bv c0 c1 c2 c4 c5 c6 c7 c8 c9 : Value} (hq : w.heap[rq]? = some (.cells #[bv, .int .i64 hd, .int .i64 tl] 112 (0, 0))) (h : w.heap[cb]? = some (.cells #[c0, c1, c2, .int .i64 T, c4, c5, c6, c7, c8, c9] 48 (0, 0))) :
  Calls Try.prog 64 #[.pointer (some ⟨rq, 0, none⟩), .pointer (some ⟨cb, 0, none⟩), .int .i64 n] w fun e w' => e = .returned (.tuple #[]) ∧
   w'.heap = (helpW w rq tl T n).heap := by
 have e3 : w.cell? ⟨cb, 3, none⟩ = some (.int .i64 T) := by simp [World.cell?, h]
 have e2 : w.cell? ⟨rq, 2, none⟩ = some (.int .i64 tl) := by simp [World.cell?, hq]
 have z : w.frozen? ⟨rq, 2, none⟩ = false := by simp [World.frozen?, hq]
 go_enter Try.func64, Try.ntmps64
 go_wp2
 go_quiet (fail)
 go_wp2
 all_goals go_end0
 all_goals refine ⟨rfl, ?_⟩
 ·rename_i hh
  rw [helpW, if_pos (by simpa using hh)]
  rfl
 ·rename_i hh
  rw [helpW, if_neg (by simpa using hh)]
  rfl
structure RefQ (w : World) (rq bb bc : Nat) (q : RQ) : Prop where
 o : w.heap[rq]? = some (.cells #[.slice (some ⟨bb, 0, none⟩) q.B.length bc, .int .i64 q.hd, .int .i64 q.tl] 112 (0, 0))
 b : ∃ cur, w.heap[bb]? = some (.cells cur 109 (0, 0)) ∧ cur.size = bc * 2 ∧ q.B.length ≤ bc ∧ bc ≤ maxLen ∧ ∀ k x, q.B[k]? = some x → cur[k * 2]? = some (.int .i64 x.1) ∧ cur[k * 2 + 1]? = some (.int .i64 (nxI x.2))
structure WfQ (q : RQ) : Prop where
 hd : q.hd < q.B.length
 tl : q.tl < q.B.length
 nx : ∀ (k : Nat) (v : Int) (n : Nat), q.B[k]? = some (v, some n) → n < q.B.length
structure VdC (q : RQ) (c : RC) : Prop where
 H : c.H < q.B.length
 T : c.T < q.B.length
 N : ∀ n, c.N = some n → n < q.B.length
 new : c.new < q.B.length
theorem heap_set_eq {b k : Nat} {c : Array Value} {e : TypeId} {z : Nat × Nat} {v : Value} (h : w.heap[b]? = some (.cells c e z)) : (w.setCell ⟨b, k, none⟩ v).heap[b]? = some (.cells (c.setIfInBounds k v) e z) := by
 rw [heap_setCell_eq h]
theorem RefQ.nxt {rq bb bc : Nat} {q : RQ} (h : RefQ w rq bb bc q) {k : Nat} (hk : k < q.B.length) : w.cell? ⟨bb, k * 2 + 1, none⟩ = some (.int .i64 (nxI (q.nx k))) ∧ w.cell? ⟨bb, k * 2, none⟩ = some (.int .i64 (q.vl k)) ∧ ∀ j, w.frozen? ⟨bb, j, none⟩ = false := by
 obtain ⟨cur, h1, h2, h3, _, h4⟩ := h.b
 obtain ⟨e1, e2⟩ := h4 k _ (List.getElem?_eq_getElem hk)
 refine ⟨?_, ?_, fun j => by simp [World.frozen?, h1]⟩
 ·simp only [World.cell?, h1]
  simpa [RQ.nx, List.getElem?_eq_getElem hk] using e2
 ·simp only [World.cell?, h1]
  simpa [RQ.vl, List.getElem?_eq_getElem hk] using e1
section
variable {rq cb bb bc : Nat} {q : RQ} {c : RC} {k : Int}
structure Fx (w : World) (rq cb bb bc : Nat) (q : RQ) (k : Int) (c : RC) : Prop where
 q0 : w.cell? ⟨rq, 0, none⟩ = some (.slice (some ⟨bb, 0, none⟩) q.B.length bc)
 q1 : w.cell? ⟨rq, 1, none⟩ = some (.int .i64 q.hd)
 q2 : w.cell? ⟨rq, 2, none⟩ = some (.int .i64 q.tl)
 c0 : w.cell? ⟨cb, 0, none⟩ = some (.int .i64 k)
 c1 : w.cell? ⟨cb, 1, none⟩ = some (.int .i64 c.ph)
 c2 : w.cell? ⟨cb, 2, none⟩ = some (.int .i64 c.H)
 c3 : w.cell? ⟨cb, 3, none⟩ = some (.int .i64 c.T)
 c4 : w.cell? ⟨cb, 4, none⟩ = some (.int .i64 (nxI c.N))
 c5 : w.cell? ⟨cb, 5, none⟩ = some (.int .i64 c.new)
 zq : ∀ j, w.frozen? ⟨rq, j, none⟩ = false
 zc : ∀ j, w.frozen? ⟨cb, j, none⟩ = false
theorem fx_of {dn ok : Bool} {n : Int} (h : RefQ w rq bb bc q) (hc : w.heap[cb]? = some (.cells (callC k c dn ok n) 48 (0, 0))) : Fx w rq cb bb bc q k c := by
 have ho := h.o
 constructor <;> first | (simp [World.cell?, ho]; done) | (simp [World.cell?, hc, callC]; done) | (simp [World.frozen?, ho]; done) | (simp [World.frozen?, hc]; done)
theorem put1_calls (hQ : RefQ w rq bb bc q) (hc : w.heap[cb]? = some (.cells (callC k c false false 0) 48 (0, 0))) (hp : c.ph = 1) :
  Calls Try.prog 49 #[.pointer (some ⟨rq, 0, none⟩), .pointer (some ⟨cb, 0, none⟩)] w fun e w' => e = .returned (.tuple #[]) ∧
   w'.heap = ((w.setCell ⟨cb, 3, none⟩ (.int .i64 q.tl)).setCell ⟨cb, 1, none⟩ (.int .i64 2)).heap := by
 obtain ⟨q0, q1, q2, c0, c1, c2, c3, c4, c5, zq, zc⟩ := fx_of hQ hc
 rw [hp] at c1
 have zq2 := zq 2
 have zc1 := zc 1
 have zc3 := zc 3
 clear zq zc hQ hc
 go_enter Try.func49, Try.ntmps49
 go_wp2
 go_end0
 exact ⟨rfl, rfl⟩
end
end
noncomputable section
variable {w w' : World} {rq cb bb bc : Nat} {q : RQ} {c : RC} {k : Int}
theorem help_keep {r : Nat} {tl T n : Int} (h : r ≠ rq) : (helpW w rq tl T n).heap[r]? = w.heap[r]? := by
 unfold helpW
 split
 ·exact heap_setCell_ne _ _ _ h
 ·rfl
theorem cell_heap {b j : Nat} (hw : w'.heap[b]? = w.heap[b]?) : w'.cell? ⟨b, j, none⟩ = w.cell? ⟨b, j, none⟩ ∧ w'.frozen? ⟨b, j, none⟩ = w.frozen? ⟨b, j, none⟩ := by
 constructor
 ·unfold World.cell?; simp only [hw]
 ·unfold World.frozen?; simp only [hw]
theorem set_heap {a : Addr} {v : Value} {u : World} (h : w.heap = u.heap) : (w.setCell a v).heap = (u.setCell a v).heap := by
 simp only [World.setCell, h]
structure Fc (w : World) (cb : Nat) : Prop where
 c6 : w.cell? ⟨cb, 6, none⟩ = some (.bool false)
 c7 : w.cell? ⟨cb, 7, none⟩ = some (.bool false)
 c8 : w.cell? ⟨cb, 8, none⟩ = some (.int .i64 0)
theorem fc_of (hc : w.heap[cb]? = some (.cells (callC k c false false 0) 48 (0, 0))) : Fc w cb := by
 constructor <;> simp [World.cell?, hc, callC]
set_option maxHeartbeats 1000000 in
theorem put2n (hQ : RefQ w rq bb bc q) (hc : w.heap[cb]? = some (.cells (callC k c false false 0) 48 (0, 0))) (hne : ¬ cb = rq) (hnb : ¬ cb = bb) (hp : c.ph = 2) (hT : c.T < q.B.length) (hl : q.B.length < 100000000) (hn : q.nx c.T = none) :
  Calls Try.prog 49 #[.pointer (some ⟨rq, 0, none⟩), .pointer (some ⟨cb, 0, none⟩)] w fun e w' => e = .returned (.tuple #[]) ∧
   w'.heap = (((w.setCell ⟨cb, 4, none⟩ (.int .i64 (-1))).setCell ⟨cb, 1, none⟩ (.int .i64 4))).heap := by
 have hC := hc
 have hqr := hQ.o
 obtain ⟨q0, q1, q2, c0, c1, c2, c3, c4, c5, zq, zc⟩ := fx_of hQ hc
 obtain ⟨c6, c7, c8⟩ := fc_of hc
 have hne2 : ¬ rq = cb := fun e => hne e.symm
 have hnb2 : ¬ bb = cb := fun e => hnb e.symm
 rw [hp] at c1
 obtain ⟨b1, b0, zb⟩ := hQ.nxt hT
 rw [hn] at b1
 simp only [nxI] at b1
 have zc1 := zc 1
 have zc4 := zc 4
 clear zq zc hQ hc zb hqr hC
 go_enter Try.func49, Try.ntmps49
 go_wp2
 go_region
 all_goals go_wp2
 all_goals go_end0
 all_goals exact ⟨rfl, rfl⟩
set_option maxHeartbeats 1000000 in
theorem put2s (hQ : RefQ w rq bb bc q) (hc : w.heap[cb]? = some (.cells (callC k c false false 0) 48 (0, 0))) (hne : ¬ cb = rq) (hnb : ¬ cb = bb) (hp : c.ph = 2) {n : Nat} (hT : c.T < q.B.length) (hl : q.B.length < 100000000) (hn : q.nx c.T = some n) :
  Calls Try.prog 49 #[.pointer (some ⟨rq, 0, none⟩), .pointer (some ⟨cb, 0, none⟩)] w fun e w' => e = .returned (.tuple #[]) ∧
   w'.heap = ((((w.setCell ⟨cb, 4, none⟩ (.int .i64 n)).setCell ⟨cb, 1, none⟩ (.int .i64 4)).setCell ⟨cb, 1, none⟩ (.int .i64 3))).heap := by
 have hC := hc
 have hqr := hQ.o
 obtain ⟨q0, q1, q2, c0, c1, c2, c3, c4, c5, zq, zc⟩ := fx_of hQ hc
 obtain ⟨c6, c7, c8⟩ := fc_of hc
 have hne2 : ¬ rq = cb := fun e => hne e.symm
 have hnb2 : ¬ bb = cb := fun e => hnb e.symm
 rw [hp] at c1
 obtain ⟨b1, b0, zb⟩ := hQ.nxt hT
 rw [hn] at b1
 simp only [nxI] at b1
 have zc1 := zc 1
 have zc4 := zc 4
 clear zq zc hQ hc zb hqr hC
 have hn0 : (0 : Int) ≤ n := Int.natCast_nonneg n
 go_enter Try.func49, Try.ntmps49
 go_wp2
 go_region
 all_goals go_wp2
 all_goals go_end0
 all_goals exact ⟨rfl, rfl⟩
set_option maxHeartbeats 1000000 in
theorem put3 (hQ : RefQ w rq bb bc q) (hc : w.heap[cb]? = some (.cells (callC k c false false 0) 48 (0, 0))) (hne : ¬ cb = rq) (hnb : ¬ cb = bb) (hp : c.ph = 3) {n : Nat} (hN : c.N = some n) :
  Calls Try.prog 49 #[.pointer (some ⟨rq, 0, none⟩), .pointer (some ⟨cb, 0, none⟩)] w fun e w' => e = .returned (.tuple #[]) ∧
   w'.heap = (((helpW w rq q.tl c.T n).setCell ⟨cb, 1, none⟩ (.int .i64 1))).heap := by
 have hC := hc
 have hqr := hQ.o
 obtain ⟨q0, q1, q2, c0, c1, c2, c3, c4, c5, zq, zc⟩ := fx_of hQ hc
 obtain ⟨c6, c7, c8⟩ := fc_of hc
 have hne2 : ¬ rq = cb := fun e => hne e.symm
 have hnb2 : ¬ bb = cb := fun e => hnb e.symm
 rw [hp] at c1
 rw [hN] at c4
 simp only [nxI] at c4
 have zc1 := zc 1
 go_enter Try.func49, Try.ntmps49
 go_wp2_with (fail)
 go_at_call 64
 refine (help_calls (n := n) hqr hC).mono ?_
 rintro e w1 ⟨rfl, hw⟩
 have hk : w1.heap[cb]? = w.heap[cb]? := by rw [hw]; exact help_keep hne
 have d1 := (cell_heap (j := 1) hk).1.trans c1
 have y1 := (cell_heap (j := 1) hk).2.trans zc1
 go_wp2
 go_end0
 exact ⟨rfl, set_heap hw⟩
set_option maxHeartbeats 1000000 in
theorem put4n (hQ : RefQ w rq bb bc q) (hc : w.heap[cb]? = some (.cells (callC k c false false 0) 48 (0, 0))) (hne : ¬ cb = rq) (hnb : ¬ cb = bb) (hp : c.ph = 4) (hT : c.T < q.B.length) (hl : q.B.length < 100000000) (hn : q.nx c.T = none) :
  Calls Try.prog 49 #[.pointer (some ⟨rq, 0, none⟩), .pointer (some ⟨cb, 0, none⟩)] w fun e w' => e = .returned (.tuple #[]) ∧
   w'.heap = ((((w.setCell ⟨cb, 1, none⟩ (.int .i64 1)).setCell ⟨bb, c.T * 2 + 1, none⟩ (.int .i64 c.new)).setCell ⟨cb, 1, none⟩ (.int .i64 5))).heap := by
 have hC := hc
 have hqr := hQ.o
 obtain ⟨q0, q1, q2, c0, c1, c2, c3, c4, c5, zq, zc⟩ := fx_of hQ hc
 obtain ⟨c6, c7, c8⟩ := fc_of hc
 have hne2 : ¬ rq = cb := fun e => hne e.symm
 have hnb2 : ¬ bb = cb := fun e => hnb e.symm
 rw [hp] at c1
 obtain ⟨b1, b0, zb⟩ := hQ.nxt hT
 rw [hn] at b1
 simp only [nxI] at b1
 have zb1 := zb (c.T * 2 + 1)
 have zc1 := zc 1
 clear zq zc hQ hc zb hqr hC
 go_enter Try.func49, Try.ntmps49
 go_wp2
 go_quiet (fail)
 go_wp2
 go_region
 all_goals go_wp2
 all_goals go_end0
 all_goals exact ⟨rfl, rfl⟩
set_option maxHeartbeats 1000000 in
theorem put4s (hQ : RefQ w rq bb bc q) (hc : w.heap[cb]? = some (.cells (callC k c false false 0) 48 (0, 0))) (hne : ¬ cb = rq) (hnb : ¬ cb = bb) (hp : c.ph = 4) {n : Nat} (hT : c.T < q.B.length) (hl : q.B.length < 100000000) (hn : q.nx c.T = some n) :
  Calls Try.prog 49 #[.pointer (some ⟨rq, 0, none⟩), .pointer (some ⟨cb, 0, none⟩)] w fun e w' => e = .returned (.tuple #[]) ∧
   w'.heap = ((w.setCell ⟨cb, 1, none⟩ (.int .i64 1))).heap := by
 have hC := hc
 have hqr := hQ.o
 obtain ⟨q0, q1, q2, c0, c1, c2, c3, c4, c5, zq, zc⟩ := fx_of hQ hc
 obtain ⟨c6, c7, c8⟩ := fc_of hc
 have hne2 : ¬ rq = cb := fun e => hne e.symm
 have hnb2 : ¬ bb = cb := fun e => hnb e.symm
 rw [hp] at c1
 obtain ⟨b1, b0, zb⟩ := hQ.nxt hT
 rw [hn] at b1
 simp only [nxI] at b1
 have zc1 := zc 1
 clear zq zc hQ hc zb hqr hC
 have hn0 : ¬ (n : Int) < 0 := by omega
 go_enter Try.func49, Try.ntmps49
 go_wp2
 go_quiet (fail)
 go_wp2
 all_goals go_end0
 all_goals exact ⟨rfl, rfl⟩
set_option maxHeartbeats 1000000 in
theorem put5 (hQ : RefQ w rq bb bc q) (hc : w.heap[cb]? = some (.cells (callC k c false false 0) 48 (0, 0))) (hne : ¬ cb = rq) (hnb : ¬ cb = bb) (hp : c.ph = 5) :
  Calls Try.prog 49 #[.pointer (some ⟨rq, 0, none⟩), .pointer (some ⟨cb, 0, none⟩)] w fun e w' => e = .returned (.tuple #[]) ∧
   w'.heap = (((((helpW w rq q.tl c.T c.new).setCell ⟨cb, 6, none⟩ (.bool true)).setCell ⟨cb, 7, none⟩ (.bool true)).setCell ⟨cb, 8, none⟩ (.int .i64 0))).heap := by
 have hC := hc
 have hqr := hQ.o
 obtain ⟨q0, q1, q2, c0, c1, c2, c3, c4, c5, zq, zc⟩ := fx_of hQ hc
 obtain ⟨c6, c7, c8⟩ := fc_of hc
 have hne2 : ¬ rq = cb := fun e => hne e.symm
 have hnb2 : ¬ bb = cb := fun e => hnb e.symm
 rw [hp] at c1
 have zc6 := zc 6
 have zc7 := zc 7
 have zc8 := zc 8
 go_enter Try.func49, Try.ntmps49
 go_wp2_with (fail)
 go_at_call 64
 refine (help_calls (n := c.new) hqr hC).mono ?_
 rintro e w1 ⟨rfl, hw⟩
 have hk : w1.heap[cb]? = w.heap[cb]? := by rw [hw]; exact help_keep hne
 have d6 := (cell_heap (j := 6) hk).1.trans c6
 have y6 := (cell_heap (j := 6) hk).2.trans zc6
 have d7 := (cell_heap (j := 7) hk).1.trans c7
 have y7 := (cell_heap (j := 7) hk).2.trans zc7
 have d8 := (cell_heap (j := 8) hk).1.trans c8
 have y8 := (cell_heap (j := 8) hk).2.trans zc8
 go_wp2
 go_end0
 go_wp2
 go_end0
 exact ⟨rfl, set_heap (set_heap (set_heap hw))⟩
end
noncomputable section
variable {w w' : World} {rq cb bb bc : Nat} {q : RQ} {c : RC} {k : Int}
set_option maxHeartbeats 1000000 in
theorem tak1 (hQ : RefQ w rq bb bc q) (hc : w.heap[cb]? = some (.cells (callC k c false false 0) 48 (0, 0))) (hne : ¬ cb = rq) (hnb : ¬ cb = bb) (hp : c.ph = 1) :
  Calls Try.prog 50 #[.pointer (some ⟨rq, 0, none⟩), .pointer (some ⟨cb, 0, none⟩)] w fun e w' => e = .returned (.tuple #[]) ∧
   w'.heap = (((w.setCell ⟨cb, 2, none⟩ (.int .i64 q.hd)).setCell ⟨cb, 1, none⟩ (.int .i64 2))).heap := by
 have hC := hc
 have hqr := hQ.o
 obtain ⟨q0, q1, q2, c0, c1, c2, c3, c4, c5, zq, zc⟩ := fx_of hQ hc
 obtain ⟨c6, c7, c8⟩ := fc_of hc
 have hne2 : ¬ rq = cb := fun e => hne e.symm
 have hnb2 : ¬ bb = cb := fun e => hnb e.symm
 rw [hp] at c1
 have zc1 := zc 1
 have zc2 := zc 2
 clear zq zc hQ hc hqr hC
 go_enter Try.func50, Try.ntmps50
 go_wp2
 all_goals go_end0
 all_goals exact ⟨rfl, rfl⟩
set_option maxHeartbeats 1000000 in
theorem tak2 (hQ : RefQ w rq bb bc q) (hc : w.heap[cb]? = some (.cells (callC k c false false 0) 48 (0, 0))) (hne : ¬ cb = rq) (hnb : ¬ cb = bb) (hp : c.ph = 2) :
  Calls Try.prog 50 #[.pointer (some ⟨rq, 0, none⟩), .pointer (some ⟨cb, 0, none⟩)] w fun e w' => e = .returned (.tuple #[]) ∧
   w'.heap = (((w.setCell ⟨cb, 3, none⟩ (.int .i64 q.tl)).setCell ⟨cb, 1, none⟩ (.int .i64 3))).heap := by
 have hC := hc
 have hqr := hQ.o
 obtain ⟨q0, q1, q2, c0, c1, c2, c3, c4, c5, zq, zc⟩ := fx_of hQ hc
 obtain ⟨c6, c7, c8⟩ := fc_of hc
 have hne2 : ¬ rq = cb := fun e => hne e.symm
 have hnb2 : ¬ bb = cb := fun e => hnb e.symm
 rw [hp] at c1
 have zc1 := zc 1
 have zc3 := zc 3
 clear zq zc hQ hc hqr hC
 go_enter Try.func50, Try.ntmps50
 go_wp2
 all_goals go_end0
 all_goals exact ⟨rfl, rfl⟩
set_option maxHeartbeats 1000000 in
theorem tak3ne (hQ : RefQ w rq bb bc q) (hc : w.heap[cb]? = some (.cells (callC k c false false 0) 48 (0, 0))) (hne : ¬ cb = rq) (hnb : ¬ cb = bb) (hp : c.ph = 3) (hH : c.H < q.B.length) (hl : q.B.length < 100000000) (hn : q.nx c.H = none) (he : c.H = c.T) :
  Calls Try.prog 50 #[.pointer (some ⟨rq, 0, none⟩), .pointer (some ⟨cb, 0, none⟩)] w fun e w' => e = .returned (.tuple #[]) ∧
   w'.heap = (((((((w.setCell ⟨cb, 4, none⟩ (.int .i64 (-1))).setCell ⟨cb, 1, none⟩ (.int .i64 5)).setCell ⟨cb, 1, none⟩ (.int .i64 4)).setCell ⟨cb, 6, none⟩ (.bool true)).setCell ⟨cb, 7, none⟩ (.bool false)).setCell ⟨cb, 8, none⟩ (.int .i64 0))).heap := by
 have hC := hc
 have hqr := hQ.o
 obtain ⟨q0, q1, q2, c0, c1, c2, c3, c4, c5, zq, zc⟩ := fx_of hQ hc
 obtain ⟨c6, c7, c8⟩ := fc_of hc
 have hne2 : ¬ rq = cb := fun e => hne e.symm
 have hnb2 : ¬ bb = cb := fun e => hnb e.symm
 rw [hp] at c1
 rw [he] at hH c2 hn
 obtain ⟨b1, b0, zb⟩ := hQ.nxt hH
 rw [hn] at b1
 simp only [nxI] at b1
 have zc1 := zc 1
 have zc4 := zc 4
 have zc6 := zc 6
 have zc7 := zc 7
 have zc8 := zc 8
 clear zq zc hQ hc zb hqr hC
 go_enter Try.func50, Try.ntmps50
 go_wp2
 go_region
 all_goals go_wp2
 all_goals go_quiet (fail)
 all_goals go_wp2
 all_goals go_end0
 all_goals go_wp2
 all_goals go_end0
 all_goals exact ⟨rfl, rfl⟩
set_option maxHeartbeats 1000000 in
theorem tak3se (hQ : RefQ w rq bb bc q) (hc : w.heap[cb]? = some (.cells (callC k c false false 0) 48 (0, 0))) (hne : ¬ cb = rq) (hnb : ¬ cb = bb) (hp : c.ph = 3) (hH : c.H < q.B.length) (hl : q.B.length < 100000000) {n : Nat} (hn : q.nx c.H = some n) (he : c.H = c.T) :
  Calls Try.prog 50 #[.pointer (some ⟨rq, 0, none⟩), .pointer (some ⟨cb, 0, none⟩)] w fun e w' => e = .returned (.tuple #[]) ∧
   w'.heap = ((((w.setCell ⟨cb, 4, none⟩ (.int .i64 n)).setCell ⟨cb, 1, none⟩ (.int .i64 5)).setCell ⟨cb, 1, none⟩ (.int .i64 4))).heap := by
 have hC := hc
 have hqr := hQ.o
 obtain ⟨q0, q1, q2, c0, c1, c2, c3, c4, c5, zq, zc⟩ := fx_of hQ hc
 obtain ⟨c6, c7, c8⟩ := fc_of hc
 have hne2 : ¬ rq = cb := fun e => hne e.symm
 have hnb2 : ¬ bb = cb := fun e => hnb e.symm
 rw [hp] at c1
 rw [he] at hH c2 hn
 obtain ⟨b1, b0, zb⟩ := hQ.nxt hH
 rw [hn] at b1
 simp only [nxI] at b1
 have zc1 := zc 1
 have zc4 := zc 4
 clear zq zc hQ hc zb hqr hC
 have hn0 : ¬ (n : Int) < 0 := by omega
 go_enter Try.func50, Try.ntmps50
 go_wp2
 go_region
 all_goals go_wp2
 all_goals go_quiet (fail)
 all_goals go_wp2
 all_goals go_end0
 all_goals exact ⟨rfl, rfl⟩
set_option maxHeartbeats 1000000 in
theorem tak3nd (hQ : RefQ w rq bb bc q) (hc : w.heap[cb]? = some (.cells (callC k c false false 0) 48 (0, 0))) (hne : ¬ cb = rq) (hnb : ¬ cb = bb) (hp : c.ph = 3) (hH : c.H < q.B.length) (hl : q.B.length < 100000000) (hn : q.nx c.H = none) (he : ¬ c.H = c.T) :
  Calls Try.prog 50 #[.pointer (some ⟨rq, 0, none⟩), .pointer (some ⟨cb, 0, none⟩)] w fun e w' => e = .returned (.tuple #[]) ∧
   w'.heap = ((((((w.setCell ⟨cb, 4, none⟩ (.int .i64 (-1))).setCell ⟨cb, 1, none⟩ (.int .i64 5)).setCell ⟨cb, 6, none⟩ (.bool true)).setCell ⟨cb, 7, none⟩ (.bool false)).setCell ⟨cb, 8, none⟩ (.int .i64 0))).heap := by
 have hC := hc
 have hqr := hQ.o
 obtain ⟨q0, q1, q2, c0, c1, c2, c3, c4, c5, zq, zc⟩ := fx_of hQ hc
 obtain ⟨c6, c7, c8⟩ := fc_of hc
 have hne2 : ¬ rq = cb := fun e => hne e.symm
 have hnb2 : ¬ bb = cb := fun e => hnb e.symm
 rw [hp] at c1
 obtain ⟨b1, b0, zb⟩ := hQ.nxt hH
 rw [hn] at b1
 simp only [nxI] at b1
 have zc1 := zc 1
 have zc4 := zc 4
 have zc6 := zc 6
 have zc7 := zc 7
 have zc8 := zc 8
 clear zq zc hQ hc zb hqr hC
 have hh2 : ¬ (c.H : Int) = c.T := by omega
 go_enter Try.func50, Try.ntmps50
 go_wp2
 go_region
 all_goals go_wp2
 all_goals go_quiet (fail)
 all_goals go_wp2
 all_goals go_end0
 all_goals go_wp2
 all_goals go_end0
 all_goals exact ⟨rfl, rfl⟩
set_option maxHeartbeats 1000000 in
theorem tak3sd (hQ : RefQ w rq bb bc q) (hc : w.heap[cb]? = some (.cells (callC k c false false 0) 48 (0, 0))) (hne : ¬ cb = rq) (hnb : ¬ cb = bb) (hp : c.ph = 3) (hH : c.H < q.B.length) (hl : q.B.length < 100000000) {n : Nat} (hn : q.nx c.H = some n) (he : ¬ c.H = c.T) :
  Calls Try.prog 50 #[.pointer (some ⟨rq, 0, none⟩), .pointer (some ⟨cb, 0, none⟩)] w fun e w' => e = .returned (.tuple #[]) ∧
   w'.heap = (((w.setCell ⟨cb, 4, none⟩ (.int .i64 n)).setCell ⟨cb, 1, none⟩ (.int .i64 5))).heap := by
 have hC := hc
 have hqr := hQ.o
 obtain ⟨q0, q1, q2, c0, c1, c2, c3, c4, c5, zq, zc⟩ := fx_of hQ hc
 obtain ⟨c6, c7, c8⟩ := fc_of hc
 have hne2 : ¬ rq = cb := fun e => hne e.symm
 have hnb2 : ¬ bb = cb := fun e => hnb e.symm
 rw [hp] at c1
 obtain ⟨b1, b0, zb⟩ := hQ.nxt hH
 rw [hn] at b1
 simp only [nxI] at b1
 have zc1 := zc 1
 have zc4 := zc 4
 clear zq zc hQ hc zb hqr hC
 have hn0 : ¬ (n : Int) < 0 := by omega
 have hh2 : ¬ (c.H : Int) = c.T := by omega
 go_enter Try.func50, Try.ntmps50
 go_wp2
 go_region
 all_goals go_wp2
 all_goals go_quiet (fail)
 all_goals go_wp2
 all_goals go_end0
 all_goals exact ⟨rfl, rfl⟩
set_option maxHeartbeats 1000000 in
theorem tak4 (hQ : RefQ w rq bb bc q) (hc : w.heap[cb]? = some (.cells (callC k c false false 0) 48 (0, 0))) (hne : ¬ cb = rq) (hnb : ¬ cb = bb) (hp : c.ph = 4) {n : Nat} (hN : c.N = some n) :
  Calls Try.prog 50 #[.pointer (some ⟨rq, 0, none⟩), .pointer (some ⟨cb, 0, none⟩)] w fun e w' => e = .returned (.tuple #[]) ∧
   w'.heap = (((helpW w rq q.tl c.T n).setCell ⟨cb, 1, none⟩ (.int .i64 1))).heap := by
 have hC := hc
 have hqr := hQ.o
 obtain ⟨q0, q1, q2, c0, c1, c2, c3, c4, c5, zq, zc⟩ := fx_of hQ hc
 obtain ⟨c6, c7, c8⟩ := fc_of hc
 have hne2 : ¬ rq = cb := fun e => hne e.symm
 have hnb2 : ¬ bb = cb := fun e => hnb e.symm
 rw [hp] at c1
 rw [hN] at c4
 simp only [nxI] at c4
 have zc1 := zc 1
 go_enter Try.func50, Try.ntmps50
 go_wp2_with (fail)
 go_at_call 64
 refine (help_calls (n := n) hqr hC).mono ?_
 rintro e w1 ⟨rfl, hw⟩
 have hk : w1.heap[cb]? = w.heap[cb]? := by rw [hw]; exact help_keep hne
 have d1 := (cell_heap (j := 1) hk).1.trans c1
 have y1 := (cell_heap (j := 1) hk).2.trans zc1
 go_wp2
 go_end0
 exact ⟨rfl, set_heap hw⟩
set_option maxHeartbeats 1000000 in
theorem tak5n (hQ : RefQ w rq bb bc q) (hc : w.heap[cb]? = some (.cells (callC k c false false 0) 48 (0, 0))) (hne : ¬ cb = rq) (hnb : ¬ cb = bb) (hp : c.ph = 5) (hh : ¬ q.hd = c.H) :
  Calls Try.prog 50 #[.pointer (some ⟨rq, 0, none⟩), .pointer (some ⟨cb, 0, none⟩)] w fun e w' => e = .returned (.tuple #[]) ∧
   w'.heap = ((w.setCell ⟨cb, 1, none⟩ (.int .i64 1))).heap := by
 have hC := hc
 have hqr := hQ.o
 obtain ⟨q0, q1, q2, c0, c1, c2, c3, c4, c5, zq, zc⟩ := fx_of hQ hc
 obtain ⟨c6, c7, c8⟩ := fc_of hc
 have hne2 : ¬ rq = cb := fun e => hne e.symm
 have hnb2 : ¬ bb = cb := fun e => hnb e.symm
 rw [hp] at c1
 have zc1 := zc 1
 clear zq zc hQ hc hqr hC
 have hh2 : ¬ (q.hd : Int) = c.H := by omega
 go_enter Try.func50, Try.ntmps50
 go_wp2
 go_quiet (fail)
 go_wp2
 all_goals go_end0
 all_goals exact ⟨rfl, rfl⟩
set_option maxHeartbeats 1000000 in
theorem tak5y (hQ : RefQ w rq bb bc q) (hc : w.heap[cb]? = some (.cells (callC k c false false 0) 48 (0, 0))) (hne : ¬ cb = rq) (hnb : ¬ cb = bb) (hp : c.ph = 5) {n : Nat} (hN : c.N = some n) (hNl : n < q.B.length) (hl : q.B.length < 100000000) (hh : q.hd = c.H) (hrb : ¬ bb = rq) :
  Calls Try.prog 50 #[.pointer (some ⟨rq, 0, none⟩), .pointer (some ⟨cb, 0, none⟩)] w fun e w' => e = .returned (.tuple #[]) ∧
   w'.heap = ((((((w.setCell ⟨cb, 1, none⟩ (.int .i64 1)).setCell ⟨rq, 1, none⟩ (.int .i64 n)).setCell ⟨cb, 6, none⟩ (.bool true)).setCell ⟨cb, 7, none⟩ (.bool true)).setCell ⟨cb, 8, none⟩ (.int .i64 (q.vl n)))).heap := by
 have hC := hc
 have hqr := hQ.o
 obtain ⟨q0, q1, q2, c0, c1, c2, c3, c4, c5, zq, zc⟩ := fx_of hQ hc
 obtain ⟨c6, c7, c8⟩ := fc_of hc
 have hne2 : ¬ rq = cb := fun e => hne e.symm
 have hnb2 : ¬ bb = cb := fun e => hnb e.symm
 rw [hp] at c1
 rw [hN] at c4
 simp only [nxI] at c4
 obtain ⟨b1, b0, zb⟩ := hQ.nxt hNl
 have zc1 := zc 1
 have zc6 := zc 6
 have zc7 := zc 7
 have zc8 := zc 8
 have zq1 := zq 1
 clear zq zc hQ hc zb hqr hC
 have hh2 : (q.hd : Int) = c.H := by omega
 have hrb2 : ¬ rq = bb := fun e => hrb e.symm
 go_enter Try.func50, Try.ntmps50
 go_wp2
 go_quiet (fail)
 go_wp2
 rename_i nq
 generalize hW : (((w.setCell ⟨cb, 1, none⟩ (.int .i64 1)).drewN nq).setCell ⟨rq, 1, none⟩ (.int .i64 n)) = W
 have f1 : W.cell? ⟨rq, 0, none⟩ = some (.slice (some ⟨bb, 0, none⟩) q.B.length bc) := by rw [← hW]; simpa [go_sem, hne, hne2] using q0
 have f2 : W.cell? ⟨cb, 4, none⟩ = some (.int .i64 n) := by rw [← hW]; simpa [go_sem, hne, hne2] using c4
 have f3 : W.cell? ⟨bb, n * 2, none⟩ = some (.int .i64 (q.vl n)) := by rw [← hW]; simpa [go_sem, hne, hne2, hrb, hrb2, hnb, hnb2] using b0
 have f6 : W.cell? ⟨cb, 6, none⟩ = some (.bool false) := by rw [← hW]; simpa [go_sem, hne, hne2] using c6
 have f7 : W.cell? ⟨cb, 7, none⟩ = some (.bool false) := by rw [← hW]; simpa [go_sem, hne, hne2] using c7
 have f8 : W.cell? ⟨cb, 8, none⟩ = some (.int .i64 0) := by rw [← hW]; simpa [go_sem, hne, hne2] using c8
 have g6 : W.frozen? ⟨cb, 6, none⟩ = false := by rw [← hW]; simpa [go_sem] using zc6
 have g7 : W.frozen? ⟨cb, 7, none⟩ = false := by rw [← hW]; simpa [go_sem] using zc7
 have g8 : W.frozen? ⟨cb, 8, none⟩ = false := by rw [← hW]; simpa [go_sem] using zc8
 go_still_tail 12, (by kernel_rfl)
 change wpList _ _ _ _ _ W.drew
 go_wp2
 go_end0
 go_wp2
 go_end0
 rw [← hW]
 exact ⟨rfl, rfl⟩
end
noncomputable section
variable {w w' : World} {rq cb bb bc : Nat} {q : RQ} {c : RC} {k : Int}
theorem RefQ.heap (h : RefQ w rq bb bc q) (e : w'.heap = w.heap) : RefQ w' rq bb bc q := ⟨by rw [e]; exact h.o, by rw [e]; exact h.b⟩
theorem RefQ.same (h : RefQ w rq bb bc q) (e1 : w'.heap[rq]? = w.heap[rq]?) (e2 : w'.heap[bb]? = w.heap[bb]?) : RefQ w' rq bb bc q := ⟨by rw [e1]; exact h.o, by rw [e2]; exact h.b⟩
theorem RefQ.ne (h : RefQ w rq bb bc q) : bb ≠ rq := by
 rintro rfl
 obtain ⟨cur, h1, _⟩ := h.b
 rw [h.o] at h1
 simp only [Option.some.injEq, Obj.cells.injEq] at h1
 exact absurd h1.2.1 (by decide)
theorem RefQ.other (h : RefQ w rq bb bc q) {r j : Nat} {v : Value} (h1 : r ≠ rq) (h2 : r ≠ bb) : RefQ (w.setCell ⟨r, j, none⟩ v) rq bb bc q :=
 h.same (heap_setCell_ne _ _ _ h1.symm) (heap_setCell_ne _ _ _ h2.symm)
theorem RefQ.setTl (h : RefQ w rq bb bc q) (n : Nat) : RefQ (w.setCell ⟨rq, 2, none⟩ (.int .i64 n)) rq bb bc { q with tl := n } :=
 ⟨by rw [heap_set_eq h.o]; rfl, by rw [heap_setCell_ne _ _ _ h.ne]; exact h.b⟩
theorem RefQ.setHd (h : RefQ w rq bb bc q) (n : Nat) : RefQ (w.setCell ⟨rq, 1, none⟩ (.int .i64 n)) rq bb bc { q with hd := n } :=
 ⟨by rw [heap_set_eq h.o]; rfl, by rw [heap_setCell_ne _ _ _ h.ne]; exact h.b⟩
theorem RefQ.setNx (h : RefQ w rq bb bc q) {T : Nat} (hT : T < q.B.length) (n : Nat) : RefQ (w.setCell ⟨bb, T * 2 + 1, none⟩ (.int .i64 n)) rq bb bc (q.link T n) := by
 obtain ⟨cur, h1, h2, h3, h4, h5⟩ := h.b
 have hl : (q.link T n).B.length = q.B.length := by simp [RQ.link]
 refine ⟨?_, ⟨_, heap_set_eq h1, by simpa using h2, by rw [hl]; exact h3, h4, fun k x hx => ?_⟩⟩
 ·rw [heap_setCell_ne _ _ _ (Ne.symm h.ne), hl]
  exact h.o
 ·simp only [RQ.link, List.getElem?_modify] at hx
  obtain ⟨y, hy, rfl⟩ := Option.map_eq_some_iff.1 hx
  obtain ⟨e1, e2⟩ := h5 k y hy
  by_cases e : T = k
  ·subst e
   rw [if_pos rfl]
   have hlt : T * 2 + 1 < cur.size := by have := (List.getElem?_eq_some_iff.1 hy).1; omega
   refine ⟨?_, ?_⟩
   ·rw [Array.getElem?_setIfInBounds_ne (by omega)]; exact e1
   ·rw [Array.getElem?_setIfInBounds_self_of_lt hlt]; rfl
  ·rw [if_neg e]
   refine ⟨?_, ?_⟩
   ·rw [Array.getElem?_setIfInBounds_ne (by omega)]; exact e1
   ·rw [Array.getElem?_setIfInBounds_ne (by omega)]; exact e2
theorem RefQ.help (h : RefQ w rq bb bc q) (T n : Nat) : RefQ (helpW w rq q.tl T n) rq bb bc (q.help T n) := by
 unfold helpW RQ.help
 by_cases e : q.tl = T
 ·rw [if_pos (by omega), if_pos e]
  exact h.setTl n
 ·rw [if_neg (by omega), if_neg e]
  exact h
def StepOut (w : World) (rq cb bb bc : Nat) (w' : World) (r : RQ × RR) : Prop :=
 RefQ w' rq bb bc r.1 ∧ (match r.2 with
  | .inl c => w'.heap[cb]? = some (.cells (callC c.kd c false false 0) 48 (0, 0))
  | .inr a => ∃ (k : Int) (c : RC), w'.heap[cb]? = some (.cells (callC k c true a.1 a.2) 48 (0, 0))) ∧
 w'.heap.size = w.heap.size ∧ ∀ r, r ≠ rq → r ≠ cb → r ≠ bb → w'.heap[r]? = w.heap[r]?
theorem help_size {tl T n : Int} : (helpW w rq tl T n).heap.size = w.heap.size := by
 unfold helpW; split <;> simp
structure PhC (c : RC) : Prop where
 kd : c.kd = 1 ∨ c.kd = 2 ∨ c.kd = 3
 lo : 1 ≤ c.ph
 hi : c.ph ≤ 5
 e : c.kd = 3 → c.ph ≤ 2
 n1 : c.kd = 1 → c.ph = 3 → ∃ n, c.N = some n
 n2 : c.kd = 2 → 4 ≤ c.ph → ∃ n, c.N = some n
theorem step_put {U : World} (hc : w.heap[cb]? = some (.cells (callC 1 c false false 0) 48 (0, 0))) (H : Calls Try.prog 49 #[.pointer (some ⟨rq, 0, none⟩), .pointer (some ⟨cb, 0, none⟩)] w fun e w' => e = .returned (.tuple #[]) ∧ w'.heap = U.heap) :
  Calls Try.prog 20 #[.pointer (some ⟨rq, 0, none⟩), .pointer (some ⟨cb, 0, none⟩)] w fun e w' => e = .returned (.tuple #[]) ∧ w'.heap = U.heap := by
 have c0 : w.cell? ⟨cb, 0, none⟩ = some (.int .i64 1) := by simp [World.cell?, hc, callC]
 go_enter Try.func20, Try.ntmps20
 go_wp2_with (fail)
 go_at_call 49
 refine H.mono ?_
 rintro e w1 ⟨rfl, hw⟩
 go_wp2
 go_end0
 exact ⟨rfl, hw⟩
theorem step_take {U : World} (hc : w.heap[cb]? = some (.cells (callC 2 c false false 0) 48 (0, 0))) (H : Calls Try.prog 50 #[.pointer (some ⟨rq, 0, none⟩), .pointer (some ⟨cb, 0, none⟩)] w fun e w' => e = .returned (.tuple #[]) ∧ w'.heap = U.heap) :
  Calls Try.prog 20 #[.pointer (some ⟨rq, 0, none⟩), .pointer (some ⟨cb, 0, none⟩)] w fun e w' => e = .returned (.tuple #[]) ∧ w'.heap = U.heap := by
 have c0 : w.cell? ⟨cb, 0, none⟩ = some (.int .i64 2) := by simp [World.cell?, hc, callC]
 go_enter Try.func20, Try.ntmps20
 go_wp2_with (fail)
 go_at_call 50
 refine H.mono ?_
 rintro e w1 ⟨rfl, hw⟩
 go_wp2
 go_end0
 exact ⟨rfl, hw⟩
theorem emp1 (hQ : RefQ w rq bb bc q) (hc : w.heap[cb]? = some (.cells (callC 3 c false false 0) 48 (0, 0))) (hne : ¬ cb = rq) (hp : c.ph = 1) :
  Calls Try.prog 20 #[.pointer (some ⟨rq, 0, none⟩), .pointer (some ⟨cb, 0, none⟩)] w fun e w' => e = .returned (.tuple #[]) ∧ w'.heap = ((w.setCell ⟨cb, 2, none⟩ (.int .i64 q.hd)).setCell ⟨cb, 1, none⟩ (.int .i64 2)).heap := by
 obtain ⟨q0, q1, q2, c0, c1, c2, c3, c4, c5, zq, zc⟩ := fx_of hQ hc
 have hne2 : ¬ rq = cb := fun e => hne e.symm
 rw [hp] at c1
 have zc1 := zc 1
 have zc2 := zc 2
 clear zq zc hQ hc
 go_enter Try.func20, Try.ntmps20
 go_wp2
 go_end0
 exact ⟨rfl, rfl⟩
theorem emp2n (hQ : RefQ w rq bb bc q) (hc : w.heap[cb]? = some (.cells (callC 3 c false false 0) 48 (0, 0))) (hne : ¬ cb = rq) (hnb : ¬ cb = bb) (hp : c.ph = 2) (hH : c.H < q.B.length) (hl : q.B.length < 100000000) (hn : q.nx c.H = none) :
  Calls Try.prog 20 #[.pointer (some ⟨rq, 0, none⟩), .pointer (some ⟨cb, 0, none⟩)] w fun e w' => e = .returned (.tuple #[]) ∧ w'.heap = (((w.setCell ⟨cb, 6, none⟩ (.bool true)).setCell ⟨cb, 7, none⟩ (.bool true)).setCell ⟨cb, 8, none⟩ (.int .i64 1)).heap := by
 obtain ⟨q0, q1, q2, c0, c1, c2, c3, c4, c5, zq, zc⟩ := fx_of hQ hc
 obtain ⟨c6, c7, c8⟩ := fc_of hc
 obtain ⟨b1, _, zb⟩ := hQ.nxt hH
 rw [hn] at b1
 simp only [nxI] at b1
 rw [hp] at c1
 have zc6 := zc 6
 have zc7 := zc 7
 have zc8 := zc 8
 clear zq zc hQ hc zb
 go_enter Try.func20, Try.ntmps20
 go_wp2
 go_quiet (fail)
 go_wp2
 go_end0
 go_wp2
 go_end0
 exact ⟨rfl, rfl⟩
theorem emp2s {n : Nat} (hQ : RefQ w rq bb bc q) (hc : w.heap[cb]? = some (.cells (callC 3 c false false 0) 48 (0, 0))) (hne : ¬ cb = rq) (hnb : ¬ cb = bb) (hp : c.ph = 2) (hH : c.H < q.B.length) (hl : q.B.length < 100000000) (hn : q.nx c.H = some n) :
  Calls Try.prog 20 #[.pointer (some ⟨rq, 0, none⟩), .pointer (some ⟨cb, 0, none⟩)] w fun e w' => e = .returned (.tuple #[]) ∧ w'.heap = (((w.setCell ⟨cb, 6, none⟩ (.bool true)).setCell ⟨cb, 7, none⟩ (.bool true)).setCell ⟨cb, 8, none⟩ (.int .i64 0)).heap := by
 obtain ⟨q0, q1, q2, c0, c1, c2, c3, c4, c5, zq, zc⟩ := fx_of hQ hc
 obtain ⟨c6, c7, c8⟩ := fc_of hc
 obtain ⟨b1, _, zb⟩ := hQ.nxt hH
 rw [hn] at b1
 simp only [nxI] at b1
 rw [hp] at c1
 have zc6 := zc 6
 have zc7 := zc 7
 have zc8 := zc 8
 clear zq zc hQ hc zb
 have hn0 : ¬ (n : Int) < 0 := by omega
 go_enter Try.func20, Try.ntmps20
 go_wp2
 go_quiet (fail)
 go_wp2
 go_end0
 go_wp2
 go_end0
 exact ⟨rfl, rfl⟩
end
noncomputable section
variable {w w' U : World} {rq cb bb bc : Nat} {q : RQ} {c : RC} {k : Int} {a : Array Value}
structure Mid (w : World) (rq cb bb bc : Nat) (U : World) (q : RQ) (a : Array Value) : Prop where
 q : RefQ U rq bb bc q
 c : U.heap[cb]? = some (.cells a 48 (0, 0))
 s : U.heap.size = w.heap.size
 o : ∀ r, r ≠ rq → r ≠ cb → r ≠ bb → U.heap[r]? = w.heap[r]?
theorem Mid.st (h : Mid w rq cb bb bc U q a) (h1 : cb ≠ rq) (h2 : cb ≠ bb) (j : Nat) (v : Value) : Mid w rq cb bb bc (U.setCell ⟨cb, j, none⟩ v) q (a.setIfInBounds j v) :=
 ⟨h.q.other h1 h2, heap_set_eq h.c, by rw [World.size_setCell]; exact h.s, fun r e1 e2 e3 => (heap_setCell_ne _ _ _ e2).trans (h.o r e1 e2 e3)⟩
theorem Mid.hd (h : Mid w rq cb bb bc U q a) (h1 : cb ≠ rq) (n : Nat) : Mid w rq cb bb bc (U.setCell ⟨rq, 1, none⟩ (.int .i64 n)) { q with hd := n } a :=
 ⟨h.q.setHd n, (heap_setCell_ne _ _ _ h1).trans h.c, by rw [World.size_setCell]; exact h.s, fun r e1 e2 e3 => (heap_setCell_ne _ _ _ e1).trans (h.o r e1 e2 e3)⟩
theorem Mid.nx (h : Mid w rq cb bb bc U q a) (h2 : cb ≠ bb) {T : Nat} (hT : T < q.B.length) (n : Nat) : Mid w rq cb bb bc (U.setCell ⟨bb, T * 2 + 1, none⟩ (.int .i64 n)) (q.link T n) a :=
 ⟨h.q.setNx hT n, (heap_setCell_ne _ _ _ h2).trans h.c, by rw [World.size_setCell]; exact h.s, fun r e1 e2 e3 => (heap_setCell_ne _ _ _ e3).trans (h.o r e1 e2 e3)⟩
theorem Mid.help (h : Mid w rq cb bb bc U q a) (h1 : cb ≠ rq) (T n : Nat) : Mid w rq cb bb bc (helpW U rq q.tl T n) (q.help T n) a :=
 ⟨h.q.help T n, (help_keep h1).trans h.c, help_size.trans h.s, fun r e1 e2 e3 => (help_keep e1).trans (h.o r e1 e2 e3)⟩
theorem Mid.heap (h : Mid w rq cb bb bc U q a) (e : w'.heap = U.heap) : Mid w rq cb bb bc w' q a :=
 ⟨h.q.heap e, by rw [e]; exact h.c, by rw [e]; exact h.s, fun r e1 e2 e3 => by rw [e]; exact h.o r e1 e2 e3⟩
theorem Mid.out {q' : RQ} {c' : RC} (h : Mid w rq cb bb bc U q' a) (ha : a = callC c'.kd c' false false 0) : StepOut w rq cb bb bc U (q', .inl c') := ⟨h.q, by subst ha; exact h.c, h.s, h.o⟩
theorem Mid.end {q' : RQ} {c' : RC} {x : Bool × Int} (h : Mid w rq cb bb bc U q' a) (ha : a = callC k c' true x.1 x.2) : StepOut w rq cb bb bc U (q', .inr x) := ⟨h.q, ⟨k, c', by subst ha; exact h.c⟩, h.s, h.o⟩
theorem step_ref (hQ : RefQ w rq bb bc q) (hc : w.heap[cb]? = some (.cells (callC c.kd c false false 0) 48 (0, 0))) (hne : cb ≠ rq) (hnb : cb ≠ bb) (hv : VdC q c) (hp : PhC c) (hl : q.B.length < 100000000) :
  Calls Try.prog 20 #[.pointer (some ⟨rq, 0, none⟩), .pointer (some ⟨cb, 0, none⟩)] w fun e w' => e = .returned (.tuple #[]) ∧ StepOut w rq cb bb bc w' (q.step c) := by
 obtain ⟨kd, ph, H, T, N, new⟩ := c
 have M0 : Mid w rq cb bb bc w q (callC kd ⟨kd, ph, H, T, N, new⟩ false false 0) := ⟨hQ, hc, rfl, fun _ _ _ _ => rfl⟩
 obtain ⟨hkd, hlo, hhi, he, hn1, hn2⟩ := hp
 obtain ⟨vH, vT, vN, vw⟩ := hv
 simp only at hkd hlo hhi he hn1 hn2 vH vT vN vw hc M0
 rcases hkd with rfl | rfl | rfl
 ·have hph : ph = 1 ∨ ph = 2 ∨ ph = 3 ∨ ph = 4 ∨ ph = 5 := by omega
  rcases hph with rfl | rfl | rfl | rfl | rfl
  ·refine (step_put hc (put1_calls hQ hc rfl)).mono ?_
   rintro e w1 ⟨rfl, hw⟩
   exact ⟨by first | rfl | trivial, (((M0.st hne hnb _ _).st hne hnb _ _).heap hw).out rfl⟩
  ·cases hn : q.nx T with
   | none =>
    refine (step_put hc (put2n hQ hc hne hnb rfl vT hl hn)).mono ?_
    rintro e w1 ⟨rfl, hw⟩
    simp only [RQ.step, RQ.put, hn]
    exact ⟨by first | rfl | trivial, (((M0.st hne hnb _ _).st hne hnb _ _).heap hw).out rfl⟩
   | some n =>
    refine (step_put hc (put2s hQ hc hne hnb rfl vT hl hn)).mono ?_
    rintro e w1 ⟨rfl, hw⟩
    simp only [RQ.step, RQ.put, hn]
    exact ⟨by first | rfl | trivial, ((((M0.st hne hnb _ _).st hne hnb _ _).st hne hnb _ _).heap hw).out rfl⟩
  ·obtain ⟨n, rfl⟩ := hn1 rfl rfl
   refine (step_put hc (put3 hQ hc hne hnb rfl rfl)).mono ?_
   rintro e w1 ⟨rfl, hw⟩
   exact ⟨by first | rfl | trivial, (((M0.help hne T n).st hne hnb _ _).heap hw).out rfl⟩
  ·cases hn : q.nx T with
   | none =>
    refine (step_put hc (put4n hQ hc hne hnb rfl vT hl hn)).mono ?_
    rintro e w1 ⟨rfl, hw⟩
    simp only [RQ.step, RQ.put, hn]
    exact ⟨by first | rfl | trivial, ((((M0.st hne hnb _ _).nx hnb vT new).st hne hnb _ _).heap hw).out rfl⟩
   | some n =>
    refine (step_put hc (put4s hQ hc hne hnb rfl vT hl hn)).mono ?_
    rintro e w1 ⟨rfl, hw⟩
    simp only [RQ.step, RQ.put, hn]
    exact ⟨by first | rfl | trivial, ((M0.st hne hnb _ _).heap hw).out rfl⟩
  ·refine (step_put hc (put5 hQ hc hne hnb rfl)).mono ?_
   rintro e w1 ⟨rfl, hw⟩
   exact ⟨by first | rfl | trivial, (((((M0.help hne T new).st hne hnb _ _).st hne hnb _ _).st hne hnb _ _).heap hw).end (c' := ⟨1, 5, H, T, N, new⟩) rfl⟩
 ·have hph : ph = 1 ∨ ph = 2 ∨ ph = 3 ∨ ph = 4 ∨ ph = 5 := by omega
  rcases hph with rfl | rfl | rfl | rfl | rfl
  ·refine (step_take hc (tak1 hQ hc hne hnb rfl)).mono ?_
   rintro e w1 ⟨rfl, hw⟩
   exact ⟨by first | rfl | trivial, (((M0.st hne hnb _ _).st hne hnb _ _).heap hw).out rfl⟩
  ·refine (step_take hc (tak2 hQ hc hne hnb rfl)).mono ?_
   rintro e w1 ⟨rfl, hw⟩
   exact ⟨by first | rfl | trivial, (((M0.st hne hnb _ _).st hne hnb _ _).heap hw).out rfl⟩
  ·cases hn : q.nx H with
   | none =>
    by_cases hHT : H = T
    ·refine (step_take hc (tak3ne hQ hc hne hnb rfl vH hl hn hHT)).mono ?_
     rintro e w1 ⟨rfl, hw⟩
     simp only [RQ.step, RQ.take, hn]
     exact ⟨by first | rfl | trivial, (((((((M0.st hne hnb _ _).st hne hnb _ _).st hne hnb _ _).st hne hnb _ _).st hne hnb _ _).st hne hnb _ _).heap hw).end (c' := ⟨2, 4, H, T, none, new⟩) rfl⟩
    ·refine (step_take hc (tak3nd hQ hc hne hnb rfl vH hl hn hHT)).mono ?_
     rintro e w1 ⟨rfl, hw⟩
     simp only [RQ.step, RQ.take, hn]
     exact ⟨by first | rfl | trivial, ((((((M0.st hne hnb _ _).st hne hnb _ _).st hne hnb _ _).st hne hnb _ _).st hne hnb _ _).heap hw).end (c' := ⟨2, 5, H, T, none, new⟩) rfl⟩
   | some n =>
    by_cases hHT : H = T
    ·refine (step_take hc (tak3se hQ hc hne hnb rfl vH hl hn hHT)).mono ?_
     rintro e w1 ⟨rfl, hw⟩
     simp only [RQ.step, RQ.take, hn, if_pos hHT]
     exact ⟨by first | rfl | trivial, ((((M0.st hne hnb _ _).st hne hnb _ _).st hne hnb _ _).heap hw).out rfl⟩
    ·refine (step_take hc (tak3sd hQ hc hne hnb rfl vH hl hn hHT)).mono ?_
     rintro e w1 ⟨rfl, hw⟩
     simp only [RQ.step, RQ.take, hn, if_neg hHT]
     exact ⟨by first | rfl | trivial, (((M0.st hne hnb _ _).st hne hnb _ _).heap hw).out rfl⟩
  ·obtain ⟨n, rfl⟩ := hn2 rfl (by omega)
   refine (step_take hc (tak4 hQ hc hne hnb rfl rfl)).mono ?_
   rintro e w1 ⟨rfl, hw⟩
   exact ⟨by first | rfl | trivial, (((M0.help hne T n).st hne hnb _ _).heap hw).out rfl⟩
  ·obtain ⟨n, rfl⟩ := hn2 rfl (by omega)
   by_cases hh : q.hd = H
   ·refine (step_take hc (tak5y hQ hc hne hnb rfl rfl (vN n rfl) hl hh hQ.ne)).mono ?_
    rintro e w1 ⟨rfl, hw⟩
    simp only [RQ.step, RQ.take, if_pos hh]
    exact ⟨by first | rfl | trivial, ((((((M0.st hne hnb _ _).hd hne n).st hne hnb _ _).st hne hnb _ _).st hne hnb _ _).heap hw).end (c' := ⟨2, 1, H, T, some n, new⟩) rfl⟩
   ·refine (step_take hc (tak5n hQ hc hne hnb rfl hh)).mono ?_
    rintro e w1 ⟨rfl, hw⟩
    simp only [RQ.step, RQ.take, if_neg hh]
    exact ⟨by first | rfl | trivial, ((M0.st hne hnb _ _).heap hw).out rfl⟩
 ·have hph : ph = 1 ∨ ph = 2 := by have := he rfl; omega
  rcases hph with rfl | rfl
  ·refine (emp1 hQ hc hne rfl).mono ?_
   rintro e w1 ⟨rfl, hw⟩
   exact ⟨by first | rfl | trivial, (((M0.st hne hnb _ _).st hne hnb _ _).heap hw).out rfl⟩
  ·cases hn : q.nx H with
   | none =>
    refine (emp2n hQ hc hne hnb rfl vH hl hn).mono ?_
    rintro e w1 ⟨rfl, hw⟩
    simp only [RQ.step, RQ.emp, hn]
    exact ⟨by first | rfl | trivial, ((((M0.st hne hnb _ _).st hne hnb _ _).st hne hnb _ _).heap hw).end (c' := ⟨3, 2, H, T, N, new⟩) rfl⟩
   | some n =>
    refine (emp2s hQ hc hne hnb rfl vH hl hn).mono ?_
    rintro e w1 ⟨rfl, hw⟩
    simp only [RQ.step, RQ.emp, hn]
    exact ⟨by first | rfl | trivial, ((((M0.st hne hnb _ _).st hne hnb _ _).st hne hnb _ _).heap hw).end (c' := ⟨3, 2, H, T, N, new⟩) rfl⟩
end
noncomputable section
def alone (q : RQ) (o : Op4) : RQ × (Bool × Int) × Nat :=
 if o.kd = 1 then ({ B := (q.B ++ [(o.a, none)]).modify q.tl fun b => (b.1, some q.B.length), hd := q.hd, tl := q.B.length }, (true, 0), 4)
 else if o.kd = 2 then match q.nx q.hd with
  | none => (q, (false, 0), 3)
  | some n => ({ q with hd := n }, (true, q.vl n), 4)
 else if o.kd = 3 then (q, (true, if (q.nx q.hd).isNone then 1 else 0), 2)
 else (q, (false, 0), 0)
inductive Runs : RQ → RR → Nat → RQ → Bool × Int → Prop
 | done {q : RQ} {a : Bool × Int} : Runs q (.inr a) 0 q a
 | step {q q' : RQ} {c : RC} {n : Nat} {a : Bool × Int} (hv : VdC q c) (hp : PhC c) (hB : q.B.length < 100000000) (h : Runs (q.step c).1 (q.step c).2 n q' a) : Runs q (.inl c) (n + 1) q' a
structure Calm (q : RQ) : Prop where
 hd : q.hd < q.B.length
 tl : q.tl < q.B.length
 last : q.nx q.tl = none
 path : ∃ p, Path q (some q.hd) (p ++ [q.tl]) ∧ p.length < q.B.length
theorem Path.inv {q : RQ} {x : Nat} {l : List Nat} (h : Path q (some x) l) : ∃ l', l = x :: l' ∧ x < q.B.length ∧ Path q (q.nx x) l' := by
 cases h with
 | cons hk hp => exact ⟨_, rfl, hk, hp⟩
theorem nx_lt {q : RQ} {x : Nat} {l : List Nat} {n : Nat} (h : Path q (q.nx x) l) (e : q.nx x = some n) : n < q.B.length := by
 rw [e] at h
 exact h.inv.choose_spec.2.1
theorem Path.put {q q' : RQ} {v : Int} (hB : q'.B = (q.B ++ [(v, none)]).modify q.tl fun b => (b.1, some q.B.length)) (ht : q.tl < q.B.length) (hl : q.nx q.tl = none) :
  ∀ (p : List Nat) (x : Nat), Path q (some x) (p ++ [q.tl]) → Path q' (some x) (p ++ [q.tl, q.B.length]) := by
 have hlen : q'.B.length = q.B.length + 1 := by rw [hB]; simp
 have nxo : ∀ k, k < q.B.length → k ≠ q.tl → q'.nx k = q.nx k := fun k hk hne => by
  simp only [RQ.nx, hB, List.getElem?_modify, List.getElem?_append_left hk, if_neg (Ne.symm hne)]
  cases q.B[k]? <;> rfl
 have nxt : q'.nx q.tl = some q.B.length := by
  simp only [RQ.nx, hB, List.getElem?_modify, List.getElem?_append_left ht, if_true]
  simp [List.getElem?_eq_getElem ht]
 have nxn : q'.nx q.B.length = none := by
  have hne : ¬ q.tl = q.B.length := by omega
  simp [RQ.nx, hB, List.getElem?_modify, hne]
 intro p
 induction p with
 | nil =>
  intro x h
  obtain ⟨l', e, hx, _⟩ := h.inv
  simp only [List.nil_append, List.cons.injEq] at e
  obtain ⟨rfl, _⟩ := e
  refine .cons (by omega) ?_
  rw [nxt]
  refine .cons (by omega) ?_
  rw [nxn]
  exact .nil
 | cons y p ih =>
  intro x h
  obtain ⟨l', e, hx, hp⟩ := h.inv
  simp only [List.cons_append, List.cons.injEq] at e
  obtain ⟨rfl, rfl⟩ := e
  have hne : y ≠ q.tl := fun e2 => by
   rw [e2, hl] at hp
   cases p <;> cases hp
  refine .cons (by omega) ?_
  rw [nxo y hx hne]
  cases e3 : q.nx y with
  | none =>
   rw [e3] at hp
   cases p <;> cases hp
  | some z =>
   rw [e3] at hp
   exact ih z hp
theorem Path.hd {q : RQ} {n : Nat} {x : Option Nat} {l : List Nat} (h : Path q x l) : Path { q with hd := n } x l := by
 induction h with
 | nil => exact .nil
 | cons hk _ ih => exact .cons hk ih
theorem Calm.alone {q : RQ} (h : Calm q) (o : Op4) : Calm (alone q o).1 := by
 obtain ⟨hh, ht, hl, p, hp, hpl⟩ := h
 unfold Go.Proofs.Ytcejbandeikdjaa.alone
 by_cases k1 : o.kd = 1
 ·rw [if_pos k1]
  refine ⟨by simp; omega, by simp, ?_, p ++ [q.tl], ?_, by simp; omega⟩
  ·have hne : ¬ q.tl = q.B.length := by omega
   simp [RQ.nx, List.getElem?_modify, hne]
  ·have := Path.put (q := q) (q' := ⟨(q.B ++ [(o.a, none)]).modify q.tl fun b => (b.1, some q.B.length), q.hd, q.B.length⟩) (v := o.a) rfl ht hl p q.hd hp
   simpa using this
 ·rw [if_neg k1]
  by_cases k2 : o.kd = 2
  ·rw [if_pos k2]
   cases e : q.nx q.hd with
   | none => exact ⟨hh, ht, hl, p, hp, hpl⟩
   | some n =>
    obtain ⟨l', e1, _, hp'⟩ := hp.inv
    have hn := nx_lt hp' e
    rw [e] at hp'
    cases p with
    | nil =>
     simp only [List.nil_append, List.cons.injEq] at e1
     rw [← e1.2] at hp'
     cases hp'
    | cons y p =>
     simp only [List.cons_append, List.cons.injEq] at e1
     rw [← e1.2] at hp'
     exact ⟨hn, ht, hl, p, hp'.hd, by simp only [List.length_cons] at hpl; show p.length < q.B.length; omega⟩
  ·rw [if_neg k2]
   split <;> exact ⟨hh, ht, hl, p, hp, hpl⟩
theorem alone_len (q : RQ) (o : Op4) : (alone q o).1.B.length ≤ q.B.length + 1 := by
 unfold alone
 split
 ·simp
 ·split
  ·split <;> simp
  ·split <;> simp
theorem alone_runs {q : RQ} (h : Calm q) (hb : q.B.length < 99999999) (o : Op4) : Runs (q.begin o).1 (q.begin o).2 (alone q o).2.2 (alone q o).1 (alone q o).2.1 := by
 obtain ⟨hh, ht, hl, p, hp, hpl⟩ := h
 unfold alone RQ.begin
 by_cases k1 : o.kd = 1
 ·rw [if_pos k1, if_pos k1]
  have hn : ({ q with B := q.B ++ [(o.a, none)] } : RQ).nx q.tl = none := by
   simp only [RQ.nx, List.getElem?_append_left ht]
   exact hl
  have len : ({ q with B := q.B ++ [(o.a, none)] } : RQ).B.length = q.B.length + 1 := by simp
  refine .step ⟨by (try simp [RQ.link]) <;> omega, by (try simp [RQ.link]) <;> omega, fun m hm => by (try simp [RQ.link] at hm ⊢) <;> omega, by (try simp [RQ.link]) <;> omega⟩ ⟨.inl rfl, by simp, by simp, by simp, by simp, by simp⟩ (by (try simp [RQ.link]) <;> omega) ?_
  simp only [RQ.step, RQ.put]
  refine .step ⟨by (try simp [RQ.link]) <;> omega, by (try simp [RQ.link]) <;> omega, fun m hm => by (try simp [RQ.link] at hm ⊢) <;> omega, by (try simp [RQ.link]) <;> omega⟩ ⟨.inl rfl, by simp, by simp, by simp, by simp, by simp⟩ (by (try simp [RQ.link]) <;> omega) ?_
  simp only [RQ.step, RQ.put, hn]
  refine .step ⟨by (try simp [RQ.link]) <;> omega, by (try simp [RQ.link]) <;> omega, fun m hm => by (try simp [RQ.link] at hm ⊢) <;> omega, by (try simp [RQ.link]) <;> omega⟩ ⟨.inl rfl, by simp, by simp, by simp, by simp, by simp⟩ (by (try simp [RQ.link]) <;> omega) ?_
  simp only [RQ.step, RQ.put, hn]
  refine .step ⟨by (try simp [RQ.link]) <;> omega, by (try simp [RQ.link]) <;> omega, fun m hm => by (try simp [RQ.link] at hm ⊢) <;> omega, by (try simp [RQ.link]) <;> omega⟩ ⟨.inl rfl, by simp, by simp, by simp, by simp, by simp⟩ (by (try simp [RQ.link]) <;> omega) ?_
  simp only [RQ.step, RQ.put, RQ.help, RQ.link, if_true]
  exact .done
 ·rw [if_neg k1, if_neg k1]
  by_cases k2 : o.kd = 2
  ·rw [if_pos k2, if_pos k2]
   cases e : q.nx q.hd with
   | none =>
    refine .step ⟨by (try simp [RQ.link]) <;> omega, by (try simp [RQ.link]) <;> omega, fun m hm => by (try simp [RQ.link] at hm ⊢) <;> omega, by (try simp [RQ.link]) <;> omega⟩ ⟨.inr (.inl rfl), by simp, by simp, by simp, by simp, by simp⟩ (by (try simp [RQ.link]) <;> omega) ?_
    simp only [RQ.step, RQ.take]
    refine .step ⟨by (try simp [RQ.link]) <;> omega, by (try simp [RQ.link]) <;> omega, fun m hm => by (try simp [RQ.link] at hm ⊢) <;> omega, by (try simp [RQ.link]) <;> omega⟩ ⟨.inr (.inl rfl), by simp, by simp, by simp, by simp, by simp⟩ (by (try simp [RQ.link]) <;> omega) ?_
    simp only [RQ.step, RQ.take]
    refine .step ⟨by (try simp [RQ.link]) <;> omega, by (try simp [RQ.link]) <;> omega, fun m hm => by (try simp [RQ.link] at hm ⊢) <;> omega, by (try simp [RQ.link]) <;> omega⟩ ⟨.inr (.inl rfl), by simp, by simp, by simp, by simp, by simp⟩ (by (try simp [RQ.link]) <;> omega) ?_
    simp only [RQ.step, RQ.take, e]
    exact .done
   | some n =>
    have hne : q.hd ≠ q.tl := fun e2 => by rw [e2, hl] at e; cases e
    obtain ⟨l', e1, _, hp'⟩ := hp.inv
    have hn := nx_lt hp' e
    refine .step ⟨by (try simp [RQ.link]) <;> omega, by (try simp [RQ.link]) <;> omega, fun m hm => by (try simp [RQ.link] at hm ⊢) <;> omega, by (try simp [RQ.link]) <;> omega⟩ ⟨.inr (.inl rfl), by simp, by simp, by simp, by simp, by simp⟩ (by (try simp [RQ.link]) <;> omega) ?_
    simp only [RQ.step, RQ.take]
    refine .step ⟨by (try simp [RQ.link]) <;> omega, by (try simp [RQ.link]) <;> omega, fun m hm => by (try simp [RQ.link] at hm ⊢) <;> omega, by (try simp [RQ.link]) <;> omega⟩ ⟨.inr (.inl rfl), by simp, by simp, by simp, by simp, by simp⟩ (by (try simp [RQ.link]) <;> omega) ?_
    simp only [RQ.step, RQ.take]
    refine .step ⟨by (try simp [RQ.link]) <;> omega, by (try simp [RQ.link]) <;> omega, fun m hm => by (try simp [RQ.link] at hm ⊢) <;> omega, by (try simp [RQ.link]) <;> omega⟩ ⟨.inr (.inl rfl), by simp, by simp, by simp, by simp, by simp⟩ (by (try simp [RQ.link]) <;> omega) ?_
    simp only [RQ.step, RQ.take, e, if_neg hne]
    refine .step ⟨by (try simp [RQ.link]) <;> omega, by (try simp [RQ.link]) <;> omega, fun m hm => by (try simp [RQ.link] at hm ⊢) <;> omega, by (try simp [RQ.link]) <;> omega⟩ ⟨.inr (.inl rfl), by simp, by simp, by simp, by simp, by simp⟩ (by (try simp [RQ.link]) <;> omega) ?_
    simp only [RQ.step, RQ.take, if_true, RC.n, Option.getD_some]
    exact .done
  ·rw [if_neg k2, if_neg k2]
   by_cases k3 : o.kd = 3
   ·rw [if_pos k3, if_pos k3]
    refine .step ⟨by (try simp [RQ.link]) <;> omega, by (try simp [RQ.link]) <;> omega, fun m hm => by (try simp [RQ.link] at hm ⊢) <;> omega, by (try simp [RQ.link]) <;> omega⟩ ⟨.inr (.inr rfl), by simp, by simp, by simp, by simp, by simp⟩ (by (try simp [RQ.link]) <;> omega) ?_
    simp only [RQ.step, RQ.emp]
    refine .step ⟨by (try simp [RQ.link]) <;> omega, by (try simp [RQ.link]) <;> omega, fun m hm => by (try simp [RQ.link] at hm ⊢) <;> omega, by (try simp [RQ.link]) <;> omega⟩ ⟨.inr (.inr rfl), by simp, by simp, by simp, by simp, by simp⟩ (by (try simp [RQ.link]) <;> omega) ?_
    simp only [RQ.step, RQ.emp]
    cases e : q.nx q.hd with
    | none => exact .done
    | some n => exact .done
   ·rw [if_neg k3, if_neg k3]
    exact .done
theorem path_new (vs : List Int) : ∀ (m k : Nat), k + m = vs.length → ∃ p, Path (newRQ vs) (some k) (p ++ [vs.length]) ∧ p.length = m := by
 have hl : (newRQ vs).B.length = vs.length + 1 := by simp [newRQ]
 intro m
 induction m with
 | zero =>
  intro k hk
  obtain rfl : k = vs.length := by omega
  refine ⟨[], .cons (by omega) ?_, rfl⟩
  rw [nx_new vs (by omega), if_neg (by omega)]
  exact .nil
 | succ m ih =>
  intro k hk
  obtain ⟨p, hp, hpl⟩ := ih (k + 1) (by omega)
  refine ⟨k :: p, .cons (by omega) ?_, by simp [hpl]⟩
  rw [nx_new vs (by omega), if_pos (by omega)]
  exact hp
theorem calm_new (vs : List Int) : Calm (newRQ vs) := by
 have hl : (newRQ vs).B.length = vs.length + 1 := by simp [newRQ]
 obtain ⟨p, hp, hpl⟩ := path_new vs vs.length 0 (by omega)
 refine ⟨by show 0 < _; omega, by show vs.length < _; omega, ?_, p, hp, by omega⟩
 show (newRQ vs).nx vs.length = none
 rw [nx_new vs (by omega), if_neg (by omega)]
end
noncomputable section
variable {F : Fz} {w w' : World} {qb st : Nat}
theorem plain_base {f : FuncId} (h : ∃ fn, Try.prog.funcs[f]? = some fn) (A : Array Value) (k : List Item) : Plain ((Go.Conc.base f).at ⟨A, []⟩ k) := ⟨rfl, rfl, h⟩
theorem size2 (w : World) (a b : Obj) : ((w.alloc a).alloc b).heap.size = w.heap.size + 2 := by simp
theorem old2 (w : World) (a b : Obj) {r : Nat} (h : r < w.heap.size) : ((w.alloc a).alloc b).heap[r]? = w.heap[r]? := by
 rw [heap_alloc_lt _ _ (by simp; omega), heap_alloc_lt _ _ h]
theorem new2 (w : World) (a : Obj) (c : Array Value) (t : TypeId) : ((w.alloc a).alloc (.cells c t)).heap[w.heap.size + 1]? = some (.cells c t (0, 0)) := by
 have := heap_alloc_new (w.alloc a) (.cells c t)
 simpa using this
theorem beg_put {s : QS} {i : Nat} {a b0 c0 : Int} (hs : QU qb s w) (hwf : Wf F w) (b : Frame) (cs : List Frame) :
  Own Try.prog false F ((QLay qb).Out st s (fun _ => False) ((QLay qb).beg s i ⟨1, a, b0, c0⟩) w (b :: cs)) (G (Frame.enter Try.prog 38 #[.pointer (some ⟨qb, 0, none⟩), stepperV st, .int .i64 i, .agg #[.int .i64 1, .int .i64 a, .int .i64 b0, .int .i64 c0]] .normal) (b :: cs)) w := by
 refine do_put0 (wf_under hwf) (Nat.le_refl _) fun A2 hA2 => ?_
 have e1 : ∀ r, r < w.heap.size → ((w.alloc (.cells #[.int .i64 1, .int .i64 a, .int .i64 b0, .int .i64 c0] 44)).alloc (.cells #[.bool false, .int .i64 0, .slice none 0 0] 46)).heap[r]? = w.heap[r]? := fun r hr => old2 _ _ _ hr
 have e2 := new2 w (.cells #[.int .i64 1, .int .i64 a, .int .i64 b0, .int .i64 c0] 44) #[.bool false, .int .i64 0, .slice none 0 0] 46
 have e3 := size2 w (.cells #[.int .i64 1, .int .i64 a, .int .i64 b0, .int .i64 c0] 44) (.cells #[.bool false, .int .i64 0, .slice none 0 0] 46)
 generalize (w.alloc (.cells #[.int .i64 1, .int .i64 a, .int .i64 b0, .int .i64 c0] 44)).alloc (.cells #[.bool false, .int .i64 0, .slice none 0 0] 46) = W at e1 e2 e3 ⊢
 have hW : QU qb s W := hs.same fun r hr => e1 r (hs.low hr)
 have hnw := hW.new a
 have hlen := hs.len
 have hpos : 0 < s.q.B.length := Nat.lt_of_le_of_lt (Nat.zero_le _) hs.hd
 have hold : ∀ k, k < s.q.B.length → QS.bk ⟨{ s.q with B := s.q.B ++ [(a, none)] }, s.bl ++ [W.heap.size]⟩ k = s.bk k := fun k hk => bk_app (by omega)
 have hbn : QS.bk ⟨{ s.q with B := s.q.B ++ [(a, none)] }, s.bl ++ [W.heap.size]⟩ s.q.B.length = W.heap.size := by
  simp [QS.bk, List.getD_eq_getElem?_getD, ← hlen]
 have hqr : ∀ r, QR qb ⟨{ s.q with B := s.q.B ++ [(a, none)] }, s.bl ++ [W.heap.size]⟩ r → QR qb s r ∨ r = W.heap.size := by
  rintro r (h | ⟨k, hk, h⟩)
  ·exact .inl (.inl h)
  ·simp only [List.length_append, List.length_cons, List.length_nil] at hk
   by_cases e : k < s.q.B.length
   ·exact .inl (.inr ⟨k, e, by rw [← hold k e]; exact h⟩)
   ·obtain rfl : k = s.q.B.length := by omega
    exact .inr (by rw [h, hbn])
 have hans : Ans (W.alloc (.cells #[.int .i64 a, .pointer none] 106)) (w.heap.size + 1) := ⟨⟨_, _, _, (heap_alloc_lt _ _ (by omega)).trans e2⟩⟩
 refine put_0 (K := stK) (wf_under hwf) (by omega) (hW.boxP hW.hd) hW.hc fun A hA => .stop fun d => ?_
 refine ⟨⟨{ s.q with B := s.q.B ++ [(a, none)] }, s.bl ++ [W.heap.size]⟩, .inl ⟨⟨1, 1, 0, 0, some 0, s.q.B.length⟩, a, A, A2, w.heap.size + 1, 0⟩, ⟨⟨by simp, hold⟩, by simp [RQ.begin, absR]⟩, hnw.same fun _ _ => rfl, ?_, ⟨?_, ?_, ?_, ?_, .inl rfl, ⟨by simp, by simp⟩, ?_, hA2⟩, ⟨ans_same hans rfl, fun h => by simp at h⟩, ?_, ?_, rfl⟩
 ·intro r hr
  rcases hqr r hr with h | h
  ·exact .inl h
  ·exact .inr (.inr (by omega))
 ·simp only [List.length_append]; omega
 ·simp only [List.length_append]; omega
 ·simp only [List.length_append, RC.n, Option.getD_some]; omega
 ·simp only [List.length_append, List.length_cons, List.length_nil]; omega
 ·show Slots 51 A [(0, .pointer (some ⟨qb, 0, none⟩)), (1, stepperV st), (2, .int .i64 a), (6, .pointer (some ⟨QS.bk ⟨{ s.q with B := s.q.B ++ [(a, none)] }, s.bl ++ [W.heap.size]⟩ s.q.B.length, 0, none⟩))]
  rw [hbn]
  exact hA
 ·rintro r (h | ⟨h, _⟩)
  ·exact .inr (by simp only at h; omega)
  ·simp at h
 ·rintro r (h | ⟨h, _⟩) h2
  ·simp only at h
   rcases hqr r h2 with h3 | h3
   ·have := hs.low h3; omega
   ·omega
  ·simp at h
theorem beg_take {s : QS} {i : Nat} {a b0 c0 : Int} (hs : QU qb s w) (hwf : Wf F w) (b : Frame) (cs : List Frame) :
  Own Try.prog false F ((QLay qb).Out st s (fun _ => False) ((QLay qb).beg s i ⟨2, a, b0, c0⟩) w (b :: cs)) (G (Frame.enter Try.prog 38 #[.pointer (some ⟨qb, 0, none⟩), stepperV st, .int .i64 i, .agg #[.int .i64 2, .int .i64 a, .int .i64 b0, .int .i64 c0]] .normal) (b :: cs)) w := by
 refine do_take0 (wf_under hwf) (Nat.le_refl _) fun A2 hA2 => ?_
 have e1 : ∀ r, r < w.heap.size → ((w.alloc (.cells #[.int .i64 2, .int .i64 a, .int .i64 b0, .int .i64 c0] 44)).alloc (.cells #[.bool false, .int .i64 0, .slice none 0 0] 46)).heap[r]? = w.heap[r]? := fun r hr => old2 _ _ _ hr
 have e2 := new2 w (.cells #[.int .i64 2, .int .i64 a, .int .i64 b0, .int .i64 c0] 44) #[.bool false, .int .i64 0, .slice none 0 0] 46
 have e3 := size2 w (.cells #[.int .i64 2, .int .i64 a, .int .i64 b0, .int .i64 c0] 44) (.cells #[.bool false, .int .i64 0, .slice none 0 0] 46)
 generalize (w.alloc (.cells #[.int .i64 2, .int .i64 a, .int .i64 b0, .int .i64 c0] 44)).alloc (.cells #[.bool false, .int .i64 0, .slice none 0 0] 46) = W at e1 e2 e3 ⊢
 have hW : QU qb s W := hs.same fun r hr => e1 r (hs.low hr)
 have hpos : 0 < s.q.B.length := Nat.lt_of_le_of_lt (Nat.zero_le _) hs.hd
 refine tak_0 (K := stK) (hW.boxP hW.hd) hW.hc fun A hA => .stop fun d => ?_
 refine ⟨s, .inl ⟨⟨2, 1, 0, 0, some 0, 0⟩, 0, A, A2, w.heap.size + 1, 0⟩, ⟨⟨Nat.le_refl _, fun k _ => rfl⟩, by simp [RQ.begin, absR]⟩, hW.same fun _ _ => rfl, fun r hr => .inl hr, ⟨hpos, hpos, hpos, hpos, .inr (.inl rfl), ⟨by simp, by simp⟩, hA, hA2⟩, ⟨⟨⟨_, _, _, e2⟩⟩, fun h => by simp at h⟩, ?_, ?_, rfl⟩
 ·rintro r (h | ⟨h, _⟩)
  ·exact .inr (by simp only at h; omega)
  ·simp at h
 ·rintro r (h | ⟨h, _⟩) h2
  ·simp only at h
   have := hs.low h2; omega
  ·simp at h
theorem beg_emp {s : QS} {i : Nat} {a b0 c0 : Int} (hs : QU qb s w) (hwf : Wf F w) (b : Frame) (cs : List Frame) :
  Own Try.prog false F ((QLay qb).Out st s (fun _ => False) ((QLay qb).beg s i ⟨3, a, b0, c0⟩) w (b :: cs)) (G (Frame.enter Try.prog 38 #[.pointer (some ⟨qb, 0, none⟩), stepperV st, .int .i64 i, .agg #[.int .i64 3, .int .i64 a, .int .i64 b0, .int .i64 c0]] .normal) (b :: cs)) w := by
 refine do_emp0 (wf_under hwf) (Nat.le_refl _) fun A2 hA2 => ?_
 have e1 : ∀ r, r < w.heap.size → ((w.alloc (.cells #[.int .i64 3, .int .i64 a, .int .i64 b0, .int .i64 c0] 44)).alloc (.cells #[.bool false, .int .i64 0, .slice none 0 0] 46)).heap[r]? = w.heap[r]? := fun r hr => old2 _ _ _ hr
 have e2 := new2 w (.cells #[.int .i64 3, .int .i64 a, .int .i64 b0, .int .i64 c0] 44) #[.bool false, .int .i64 0, .slice none 0 0] 46
 have e3 := size2 w (.cells #[.int .i64 3, .int .i64 a, .int .i64 b0, .int .i64 c0] 44) (.cells #[.bool false, .int .i64 0, .slice none 0 0] 46)
 generalize (w.alloc (.cells #[.int .i64 3, .int .i64 a, .int .i64 b0, .int .i64 c0] 44)).alloc (.cells #[.bool false, .int .i64 0, .slice none 0 0] 46) = W at e1 e2 e3 ⊢
 have e4 := heap_alloc_new W (.cells #[.bool true, .int .i64 0, .slice none 0 0] 46)
 have e5 : ∀ r, r < W.heap.size → (W.alloc (.cells #[.bool true, .int .i64 0, .slice none 0 0] 46)).heap[r]? = W.heap[r]? := fun r hr => heap_alloc_lt _ _ hr
 generalize W.alloc (.cells #[.bool true, .int .i64 0, .slice none 0 0] 46) = V at e4 e5 ⊢
 have hV : QU qb s V := hs.same fun r hr => (e5 r (by have := hs.low hr; omega)).trans (e1 r (hs.low hr))
 have hpos : 0 < s.q.B.length := Nat.lt_of_le_of_lt (Nat.zero_le _) hs.hd
 have hans : Ans V (w.heap.size + 1) := ⟨⟨_, _, _, (e5 _ (by omega)).trans e2⟩⟩
 refine emp_0 (K := stK) (hV.boxP hV.hd) hV.hc fun A hA => .stop fun d => ?_
 refine ⟨s, .inl ⟨⟨3, 1, 0, 0, some 0, 0⟩, 0, A, A2, w.heap.size + 1, w.heap.size + 2⟩, ⟨⟨Nat.le_refl _, fun k _ => rfl⟩, by simp [RQ.begin, absR]⟩, hV.same fun _ _ => rfl, fun r hr => .inl hr, ⟨hpos, hpos, hpos, hpos, .inr (.inr rfl), ⟨by simp, by simp⟩, hA, hA2⟩, ⟨ans_same hans rfl, fun _ => ⟨?_, by simp⟩⟩, ?_, ?_, rfl⟩
 ·rw [e3] at e4
  exact e4
 ·rintro r (h | ⟨_, h⟩)
  ·exact .inr (by simp only at h; omega)
  ·exact .inr (by simp only at h; omega)
 ·rintro r (h | ⟨_, h⟩) h2
  ·simp only at h
   have := hs.low h2; omega
  ·simp only at h
   have := hs.low h2; omega
theorem beg_other {s : QS} {i : Nat} {kd a b0 c0 : Int} (h1 : kd ≠ 1) (h2 : kd ≠ 2) (h3 : kd ≠ 3) (hs : QU qb s w) (hwf : Wf F w) (b : Frame) (cs : List Frame) :
  Own Try.prog false F ((QLay qb).Out st s (fun _ => False) ((QLay qb).beg s i ⟨kd, a, b0, c0⟩) w (b :: cs)) (G (Frame.enter Try.prog 38 #[.pointer (some ⟨qb, 0, none⟩), stepperV st, .int .i64 i, .agg #[.int .i64 kd, .int .i64 a, .int .i64 b0, .int .i64 c0]] .normal) (b :: cs)) w := by
 refine do_other (wf_under hwf) (Nat.le_refl _) (by simpa using h1) (by simpa using h2) (by simpa using h3) (.stop fun d => ?_)
 refine ⟨s, .inr (false, 0), ⟨⟨Nat.le_refl _, fun k _ => rfl⟩, by simp [RQ.begin, absR, h1, h2, h3]⟩, hs.same fun r hr => ?_, fun r hr => .inl hr, trivial, fun q h => h.elim, fun q h => h.elim, rfl⟩
 have hlt := hs.low hr
 exact (ansW_same (by omega)).trans (old2 _ _ _ hlt)
theorem qlay_ok (qb : Nat) : (QLay qb).Ok where
 call := callable38
 jb := fun st s s' c i o r h hb => h.ext hb.1
 js := fun st s s' c c1 r h hb => h.ext hb.1
 plain := by
  intro st c
  refine ⟨by simp [QLay], fun u hu => ?_⟩
  have hu : u ∈ stepFr stK ⟨st, 0, none⟩ :: c.fr := hu
  rcases List.mem_cons.1 hu with rfl | hu
  ·exact plain_base ⟨_, Try.func53⟩ _ _
  ·unfold QC.fr at hu
   split at hu <;>
   ·rcases List.mem_cons.1 hu with rfl | hu
    ·first
      | exact plain_base ⟨_, Try.func25⟩ _ _
      | exact plain_base ⟨_, Try.func26⟩ _ _
      | exact plain_base ⟨_, Try.func27⟩ _ _
    ·rw [List.mem_singleton] at hu
     subst hu
     exact plain_base ⟨_, Try.func38⟩ _ _
 sS := fun s w w' h _ hs => QU.same h hs
 sC := fun c w w' h _ hs => QCU.same h hs
 sA := fun _ _ _ _ _ _ => trivial
 lS := fun s w r h hr => QU.low h hr
 lC := by
  rintro c w r h (rfl | ⟨hk, rfl⟩)
  ·obtain ⟨_, _, _, h1⟩ := h.1.o
   exact (Array.getElem?_eq_some_iff.1 h1).1
  ·exact (Array.getElem?_eq_some_iff.1 (h.2 hk).1).1
 lA := fun _ _ _ _ h => h.elim
 beg := by
  intro s i o st F w c cs hs hwf hF
  obtain ⟨kd, a, b0, c0⟩ := o
  by_cases h1 : kd = 1
  ·subst h1
   exact beg_put hs hwf c cs
  ·by_cases h2 : kd = 2
   ·subst h2
    exact beg_take hs hwf c cs
   ·by_cases h3 : kd = 3
    ·subst h3
     exact beg_emp hs hwf c cs
    ·exact beg_other h1 h2 h3 hs hwf c cs
 stp := by
  intro s c st F w b cs hJ hs hc hdis hwf hF
  obtain ⟨⟨kd, ph, H, T, N, new⟩, v, A, A2, ab, eb⟩ := c
  have hkd : kd = 1 ∨ kd = 2 ∨ kd = 3 := QJ.kd hJ
  rcases hkd with rfl | rfl | rfl
  ·exact stp_put hJ hs hc hdis hF b cs
  ·exact stp_take hJ hs hc hdis hF b cs
  ·exact stp_emp hJ hs hc hdis hF b cs
end
noncomputable section
variable {P : Program}
theorem wf_E0 (w : World) : Wf F0 w := ⟨fun r z h => by cases h⟩
theorem res_any {fn : Func} {t : Array Value} {w : World} {τ : Tape} {e : Nat} {v : Value} (h : (results fn t).run P (retape w τ e) = .ok v (retape w τ e)) (d : Nat) :
  (results fn t).run P (w.at d) = .ok v (w.at d) ∧ ∀ x ∈ (results fn t).events P (w.at d) #[], EvT F0 x := by
 obtain ⟨w1, es, j, hu, r1, e1, t1, g1, hw1, l1⟩ := (results_sims (P := P) (F := F0) fn t (retape w τ e) (wf_E0 _)).ok (by rw [mask_none (fun _ => rfl)]; exact h)
 rw [mask_none (fun _ => rfl)] at hu
 subst hu
 have hj : j = 0 := by
  have := g1.drawn
  omega
 subst hj
 have h2 := l1 (w.at d).tape (w.at d).drawn (by intro i q hi; omega)
 rw [mask_none (fun _ => rfl)] at h2
 have h3 : (results fn t).run P (w.at d) = .ok v (w.at d) := h2
 refine ⟨h3, fun x hx => ?_⟩
 obtain ⟨w2, es2, j2, hu2, r2, e2, t2, g2, hw2, l2⟩ := (results_sims (P := P) (F := F0) fn t (w.at d) (wf_E0 _)).ok (by rw [mask_none (fun _ => rfl)]; exact h3)
 rw [e2] at hx
 exact t2 x (by simpa using hx)
theorem own_callB {S : FuncId → Bool} (hC : Closed P S true) (hE : NoEarly P) {f : Nat} {fn : Func} {c : Code} (hf : P.funcs[f]? = some fn) (hb : fn.body = some c) (hc : codeOk P S true c = true) {args : Array Value} {w : World} {R : Value → World → Prop}
  (H : ∀ τ e, CallsB P fn args (retape w τ e) R) {cl : Frame} {cs : List Frame} {main : Bool} {Stop : Goroutine → World → Prop}
  (K : ∀ v w' τ e, R v (retape w' τ e) → Gd F0 w w' → Own P main F0 Stop (G (cl.finish v) cs) w') : Own P main F0 Stop (G (Frame.enter P f args .normal) (cl :: cs)) w := by
 let b : Frame := { (default : Frame) with fn := f, kind := .normal }
 have henter : Frame.enter P f args .normal = b.at { tmps := args ++ Array.replicate (fn.ntmps - args.size) undef, defers := [] } [.code c] := by
  simp [Frame.enter, Frame.at, hf, hb, b]
 rw [henter]
 have back : ∀ (a' : Act) (w' : World) (t' : List Item) (τ : Tape) (e : Nat), a'.defers = [] → (∃ v, (results fn a'.tmps).run P (retape (mask F0 w') τ e) = .ok v (retape (mask F0 w') τ e) ∧ ∃ v', Ending.returned v = .returned v' ∧ R v' (retape (mask F0 w') τ e)) → Gd F0 w w' →
   Own P main F0 Stop (G { b.at a' t' with mode := .returning } (cl :: cs)) w' := fun a' w' t' τ e hd ⟨v, h1, v', h2, h3⟩ hg => by
  cases h2
  rw [mask_none (fun _ => rfl)] at h1 h3
  exact own_leave rfl hd hf (fun d => (res_any h1 d).1) (fun d x hx => (res_any h1 d).2 x hx) (K _ _ τ e h3 hg)
 refine lift (Q := bodyPost P fn fun x w' => ∃ v, x = .returned v ∧ R v w') hC (fun _ _ => rfl) hE hc (wf_E0 w) rfl (fun e a w hq => ?_) (fun τ e => ?_) (by simp [b]) (fun a' w' τ e hq _ hg => ?_) (fun a' w' τ e t' hq _ hg => ?_)
 ·cases e with
  | normal => exact .inl rfl
  | ret => exact .inr ⟨rfl, hq.1⟩
  | panic ch => obtain ⟨_, v, h, _⟩ := hq; cases h
  | outgrown => obtain ⟨v, h, _⟩ := hq; cases h
  | exit _ => exact hq.elim
  | goto _ => exact hq.elim
 ·rw [mask_none (fun _ => rfl)]
  exact H τ e c hb
 ·obtain ⟨hd, h⟩ := hq
  have : b.at a' [] = b.at ⟨a'.tmps, []⟩ [] := by rw [← hd]
  rw [this]
  refine own_go rfl (fun d => stepG_end) ?_
  exact back ⟨a'.tmps, []⟩ w' [] τ e rfl h hg
 ·obtain ⟨hd, h⟩ := hq
  exact back a' w' _ τ e hd h hg
def codeOkF (P : Program) (S : FuncId → Bool) (f : FuncId) : Bool := match P.funcs[f]? with
 | some fn => !(fn.name == "runtime.NumGoroutine") && match fn.body with
  | some c => codeOk P S true c
  | none => false
 | none => false
theorem codeOkF_of {P : Program} {S : FuncId → Bool} {f : FuncId} (h : codeOkF P S f = true) : ∃ fn, P.funcs[f]? = some fn ∧ (fn.name == "runtime.NumGoroutine") = false ∧ ∃ c, fn.body = some c ∧ codeOk P S true c = true := by
 unfold codeOkF at h
 split at h
 ·rename_i fn hf
  rw [Bool.and_eq_true] at h
  obtain ⟨h1, h2⟩ := h
  split at h2
  ·rename_i c hc
   exact ⟨fn, hf, by simpa using h1, c, hc, h2⟩
  ·cases h2
 ·cases h
theorem closed_of {l : List Nat} (h : l.all (codeOkF P fun f => l.contains f) = true) : Closed P (fun f => l.contains f) true := fun f hf => by
 obtain ⟨fn, h1, h2, c, h3, h4⟩ := codeOkF_of (List.all_eq_true.1 h f (List.contains_iff_mem.1 hf))
 exact ⟨fn, h1, h2, .inl ⟨c, h3, h4⟩⟩
theorem own_piece {S : FuncId → Bool} (hC : Closed P S true) (hE : NoEarly P) {c : Code} (hc : codeOk P S true c = true) {A : Array Value} {w : World} {R : Array Value → World → Prop} {b : Frame} {k : List Item} (hk : b.kind ≠ .early)
  (H : ∀ τ e, c.wp P (nrm fun a w => a.defers = [] ∧ R a.tmps w) ⟨A, []⟩ (retape w τ e)) {cs : List Frame} {main : Bool} {Stop : Goroutine → World → Prop}
  (K : ∀ A' w' τ e, R A' (retape w' τ e) → Gd F0 w w' → Own P main F0 Stop (G (b.at ⟨A', []⟩ k) cs) w') : Own P main F0 Stop (G (b.at ⟨A, []⟩ (.code c :: k)) cs) w := by
 refine lift (Q := nrm fun a w => a.defers = [] ∧ R a.tmps w) hC (fun _ _ => rfl) hE hc (wf_E0 w) rfl (fun e a w hq => ?_) (fun τ e => ?_) hk (fun a' w' τ e hq _ hg => ?_) (fun a' w' τ e t' hq _ hg => ?_)
 ·cases e with
  | normal => exact .inl rfl
  | _ => exact hq.elim
 ·rw [mask_none (fun _ => rfl)]
  exact H τ e
 ·obtain ⟨hd, h⟩ := hq
  rw [mask_none (fun _ => rfl)] at h
  obtain ⟨tm, df⟩ := a'
  simp only at hd
  subst hd
  exact K tm w' τ e h hg
 ·exact hq.elim
end
noncomputable section
variable {w w' : World} {qb sb : Nat} {s : QS} {n : Nat} {c : Frame} {cs : List Frame} {main : Bool} {Stop : Goroutine → World → Prop}
structure CU (w : World) (qb sb : Nat) (s : QS) (n : Nat) : Prop where
 q : QU qb s w
 t : w.heap[sb]? = some (.cells #[.int .i64 n] 39 (0, 0))
theorem nh0 (a : Addr) : ¬ held F0 a := not_heldB (F := F0) (b := a.block) rfl a.off
theorem CU.ne (h : CU w qb sb s n) {r : Nat} (hr : QR qb s r) : r ≠ sb := by
 rintro rfl
 have ht := h.t
 rcases hr with e | ⟨k, hk, e⟩
 ·rw [e, h.q.q0] at ht
  injection ht with ht
  injection ht with _ ht
  exact absurd ht (by decide)
 ·rw [e, h.q.box hk] at ht
  injection ht with ht
  injection ht with _ ht
  exact absurd ht (by decide)
theorem CU.tick (h : CU w qb sb s n) : CU (w.setCell ⟨sb, 0, none⟩ (.int .i64 ((n : Int) + 1))) qb sb s (n + 1) :=
 ⟨h.q.same fun r hr => heap_setCell_ne _ _ _ (h.ne hr), by rw [heap_setCell_eq h.t]; rfl⟩
theorem own_tickC (h : CU w qb sb s n) (hn : n < 900000000)
  (K : ∀ w', CU w' qb sb s (n + 1) → w'.heap.size = w.heap.size → (∀ r, r ≠ sb → w'.heap[r]? = w.heap[r]?) → Own Try.prog main F0 Stop (G ((stepFr cK ⟨sb, 0, none⟩).finish (.tuple #[])) cs) w') :
  Own Try.prog main F0 Stop (G (Frame.enter Try.prog cK.f #[.pointer (some ⟨sb, 0, none⟩)] .normal) (stepFr cK ⟨sb, 0, none⟩ :: cs)) w := by
 have ht := h.t
 exact tk_0 (n := (n : Int)) (by omega) (by omega) (by simp [World.cell?, ht]) (by simp [World.frozen?, ht]) (nh0 _) (K _ h.tick (by simp) fun r hr => heap_setCell_ne _ _ _ hr)
theorem CU.alloc (h : CU w qb sb s n) (o : Obj) : CU (w.alloc o) qb sb s n :=
 ⟨h.q.same fun r hr => heap_alloc_lt _ _ (h.q.low hr), (heap_alloc_lt _ _ (Array.getElem?_eq_some_iff.1 h.t).1).trans h.t⟩
theorem CU.slt (h : CU w qb sb s n) : sb < w.heap.size := (Array.getElem?_eq_some_iff.1 h.t).1
theorem own_putC {q : RQ} {bl : List Nat} (h : CU w qb sb ⟨q, bl⟩ n) (hl : q.nx q.tl = none) (hn : n < 800000000) {v b0 c0 : Int}
  (K : ∀ w', CU w' qb sb ⟨(alone q ⟨1, v, b0, c0⟩).1, bl ++ [w.heap.size]⟩ (n + 4) → w'.heap.size = w.heap.size + 1 → (∀ r, QR qb ⟨(alone q ⟨1, v, b0, c0⟩).1, bl ++ [w.heap.size]⟩ r → QR qb ⟨q, bl⟩ r ∨ r = w.heap.size) → (∀ r, r < w.heap.size → ¬ QR qb ⟨q, bl⟩ r → r ≠ sb → w'.heap[r]? = w.heap[r]?) → Own Try.prog main F0 Stop (G (c.finish (.tuple #[])) cs) w') :
  Own Try.prog main F0 Stop (G (Frame.enter Try.prog 25 #[.pointer (some ⟨qb, 0, none⟩), .iface 37 (.pointer (some ⟨sb, 0, none⟩)), .int .i64 v] .normal) (c :: cs)) w := by
 have hq := h.q
 have hlen := hq.len
 have htl : q.tl < q.B.length := hq.tl
 have hbn : QS.bk ⟨{ q with B := q.B ++ [(v, none)] }, bl ++ [w.heap.size]⟩ q.B.length = w.heap.size := by
  simp only at hlen
  simp [QS.bk, List.getD_eq_getElem?_getD, ← hlen]
 have hold : ∀ k, k < q.B.length → QS.bk ⟨{ q with B := q.B ++ [(v, none)] }, bl ++ [w.heap.size]⟩ k = QS.bk ⟨q, bl⟩ k := fun k hk => bk_app (s := ⟨q, bl⟩) (by simp only at hlen ⊢; omega)
 have hqr : ∀ r, QR qb ⟨{ q with B := q.B ++ [(v, none)] }, bl ++ [w.heap.size]⟩ r → QR qb ⟨q, bl⟩ r ∨ r = w.heap.size := by
  rintro r (h | ⟨k, hk, h⟩)
  ·exact .inl (.inl h)
  ·simp only [List.length_append, List.length_cons, List.length_nil] at hk
   by_cases e : k < q.B.length
   ·exact .inl (.inr ⟨k, e, by rw [← hold k e]; exact h⟩)
   ·obtain rfl : k = q.B.length := by omega
    exact .inr (by rw [h, hbn])
 refine put_0 (K := cK) (wf_under (wf_E0 w)) (Nat.le_refl _) (hq.boxP hq.hd) hq.hc fun A hA => ?_
 have h1 : CU (w.alloc (.cells #[.int .i64 v, .pointer none] 106)) qb sb ⟨{ q with B := q.B ++ [(v, none)] }, bl ++ [w.heap.size]⟩ n := ⟨hq.new v, (h.alloc _).t⟩
 have nxt : ({ q with B := q.B ++ [(v, none)] } : RQ).nx q.tl = none := by
  simp only [RQ.nx, List.getElem?_append_left htl]
  exact hl
 have e1 : ∀ r, r < w.heap.size → (w.alloc (.cells #[.int .i64 v, .pointer none] 106)).heap[r]? = w.heap[r]? := fun r hr => heap_alloc_lt _ _ hr
 have z1 : (w.alloc (.cells #[.int .i64 v, .pointer none] 106)).heap.size = w.heap.size + 1 := by simp
 generalize w.alloc (.cells #[.int .i64 v, .pointer none] 106) = w1 at h1 e1 z1 ⊢
 have t1 : q.tl < ({ q with B := q.B ++ [(v, none)] } : RQ).B.length := by simp; omega
 have n1 : q.B.length < ({ q with B := q.B ++ [(v, none)] } : RQ).B.length := by simp
 refine own_tickC h1 (by omega) fun w2 h2 z2 e2 => ?_
 refine put_1 (K := cK) (t := QS.bk ⟨{ q with B := q.B ++ [(v, none)] }, bl ++ [w.heap.size]⟩ q.tl) (h2.q.boxP t1) h2.q.tc hA fun A hA => ?_
 refine own_tickC h2 (by omega) fun w3 h3 z3 e3 => ?_
 refine put_2b (K := cK) (n := 0) (.inl rfl) ((h3.q.nc t1).trans (by rw [nxt]; rfl)) hA fun A hA => ?_
 refine own_tickC h3 (by omega) fun w4 h4 z4 e4 => ?_
 have hb4 := h4.q.boxP n1
 rw [hbn] at hb4
 refine put_4a (K := cK) hb4 ((h4.q.nc t1).trans (by rw [nxt]; rfl)) (h4.q.bz t1 1) (nh0 _) hA fun A hA => ?_
 have hk := h4.q.link t1 n1
 have hpt : QS.pt ⟨{ q with B := q.B ++ [(v, none)] }, bl ++ [w.heap.size]⟩ q.B.length = .pointer (some ⟨w.heap.size, 0, none⟩) := by unfold QS.pt; rw [hbn]
 rw [hpt] at hk
 have e5 : ∀ r, r ≠ QS.bk ⟨{ q with B := q.B ++ [(v, none)] }, bl ++ [w.heap.size]⟩ q.tl → (w4.setCell ⟨QS.bk ⟨{ q with B := q.B ++ [(v, none)] }, bl ++ [w.heap.size]⟩ q.tl, 1, none⟩ (.pointer (some ⟨w.heap.size, 0, none⟩))).heap[r]? = w4.heap[r]? := fun r hr => heap_setCell_ne _ _ _ hr
 have z5 : (w4.setCell ⟨QS.bk ⟨{ q with B := q.B ++ [(v, none)] }, bl ++ [w.heap.size]⟩ q.tl, 1, none⟩ (.pointer (some ⟨w.heap.size, 0, none⟩))).heap.size = w4.heap.size := by simp
 have h5 : CU (w4.setCell ⟨QS.bk ⟨{ q with B := q.B ++ [(v, none)] }, bl ++ [w.heap.size]⟩ q.tl, 1, none⟩ (.pointer (some ⟨w.heap.size, 0, none⟩))) qb sb ⟨({ q with B := q.B ++ [(v, none)] } : RQ).link q.tl q.B.length, bl ++ [w.heap.size]⟩ (n + 3) :=
  ⟨hk, (e5 _ (Ne.symm (h4.ne (.inr ⟨q.tl, t1, rfl⟩)))).trans h4.t⟩
 generalize w4.setCell ⟨QS.bk ⟨{ q with B := q.B ++ [(v, none)] }, bl ++ [w.heap.size]⟩ q.tl, 1, none⟩ (.pointer (some ⟨w.heap.size, 0, none⟩)) = w5 at h5 e5 z5 ⊢
 have ll : (({ q with B := q.B ++ [(v, none)] } : RQ).link q.tl q.B.length).B.length = q.B.length + 1 := by simp [RQ.link]
 refine own_tickC h5 (by omega) fun w6 h6 z6 e6 => ?_
 have hb6 := h6.q.boxP (k := q.B.length) (by simp only [ll]; omega)
 have hbn' : QS.bk ⟨({ q with B := q.B ++ [(v, none)] } : RQ).link q.tl q.B.length, bl ++ [w.heap.size]⟩ q.B.length = w.heap.size := hbn
 rw [hbn'] at hb6
 refine put_5 (K := cK) (n := 0) (eq := true) (cur := some ⟨QS.bk ⟨{ q with B := q.B ++ [(v, none)] }, bl ++ [w.heap.size]⟩ q.tl, 0, none⟩) (h6.q.boxP (k := q.tl) (by simp only [ll]; omega)) hb6 h6.q.tc (h6.q.qz 1) (nh0 _) (fun d => by
  have := h6.q.eq (j := q.tl) (k := q.tl) (by simp only [ll]; omega) (by simp only [ll]; omega) d
  rwa [decide_eq_true rfl] at this) hA ?_
 have hs := h6.q.setTl (n := q.B.length) (by simp only [ll]; omega)
 have hpt' : QS.pt ⟨({ q with B := q.B ++ [(v, none)] } : RQ).link q.tl q.B.length, bl ++ [w.heap.size]⟩ q.B.length = .pointer (some ⟨w.heap.size, 0, none⟩) := hpt
 rw [hpt'] at hs
 have ea : (alone q ⟨1, v, b0, c0⟩).1 = { (({ q with B := q.B ++ [(v, none)] } : RQ).link q.tl q.B.length) with tl := q.B.length } := rfl
 simp only [if_true]
 refine K _ ⟨by rw [ea]; exact hs, (heap_setCell_ne _ _ _ (Ne.symm (h6.ne (.inl rfl)))).trans h6.t⟩ (by simp; omega) (fun r hr => ?_) fun r hr hnq hns => ?_
 ·refine hqr r ?_
  rcases hr with hr | ⟨k, hk, hr⟩
  ·exact .inl hr
  ·refine .inr ⟨k, ?_, hr⟩
   rw [ea] at hk
   simpa [RQ.link] using hk
 ·have hnt : r ≠ QS.bk ⟨{ q with B := q.B ++ [(v, none)] }, bl ++ [w.heap.size]⟩ q.tl := fun e => hnq (.inr ⟨q.tl, htl, by rw [e, hold q.tl htl]⟩)
  rw [heap_setCell_ne _ _ _ (fun e => hnq (.inl e)), e6 r hns, e5 r hnt, e4 r hns, e3 r hns, e2 r hns, e1 r hr]
theorem own_takeN {q : RQ} {bl : List Nat} (h : CU w qb sb ⟨q, bl⟩ n) (hh : q.nx q.hd = none) (hn : n < 800000000)
  (K : ∀ w', CU w' qb sb ⟨q, bl⟩ (n + 3) → w'.heap.size = w.heap.size → (∀ r, r ≠ sb → w'.heap[r]? = w.heap[r]?) → Own Try.prog main F0 Stop (G (c.finish (.tuple #[.int .i64 0, .int .i64 4])) cs) w') :
  Own Try.prog main F0 Stop (G (Frame.enter Try.prog 26 #[.pointer (some ⟨qb, 0, none⟩), .iface 37 (.pointer (some ⟨sb, 0, none⟩))] .normal) (c :: cs)) w := by
 refine tak_0 (K := cK) (h.q.boxP h.q.hd) h.q.hc fun A hA => ?_
 refine own_tickC h (by omega) fun w1 h1 z1 e1 => ?_
 refine tak_1 (K := cK) (h1.q.boxP h1.q.hd) h1.q.hc hA fun A hA => ?_
 refine own_tickC h1 (by omega) fun w2 h2 z2 e2 => ?_
 refine tak_2 (K := cK) (h2.q.boxP h2.q.tl) h2.q.tc hA fun A hA => ?_
 refine own_tickC h2 (by omega) fun w3 h3 z3 e3 => ?_
 refine tak_3n (K := cK) (.inl rfl) ((h3.q.nc h3.q.hd).trans (by rw [hh]; rfl)) hA ?_
 exact K _ h3 (by omega) fun r hr => by rw [e3 r hr, e2 r hr, e1 r hr]
theorem own_takeS {q : RQ} {bl : List Nat} {m : Nat} (h : CU w qb sb ⟨q, bl⟩ n) (hh : q.nx q.hd = some m) (hne : q.hd ≠ q.tl) (hn : n < 800000000)
  (K : ∀ w', CU w' qb sb ⟨{ q with hd := m }, bl⟩ (n + 4) → w'.heap.size = w.heap.size → (∀ r, r ≠ qb → r ≠ sb → w'.heap[r]? = w.heap[r]?) → Own Try.prog main F0 Stop (G (c.finish (.tuple #[.int .i64 (q.vl m), .int .i64 0])) cs) w') :
  Own Try.prog main F0 Stop (G (Frame.enter Try.prog 26 #[.pointer (some ⟨qb, 0, none⟩), .iface 37 (.pointer (some ⟨sb, 0, none⟩))] .normal) (c :: cs)) w := by
 refine tak_0 (K := cK) (h.q.boxP h.q.hd) h.q.hc fun A hA => ?_
 refine own_tickC h (by omega) fun w1 h1 z1 e1 => ?_
 refine tak_1 (K := cK) (h1.q.boxP h1.q.hd) h1.q.hc hA fun A hA => ?_
 refine own_tickC h1 (by omega) fun w2 h2 z2 e2 => ?_
 refine tak_2 (K := cK) (h2.q.boxP h2.q.tl) h2.q.tc hA fun A hA => ?_
 refine own_tickC h2 (by omega) fun w3 h3 z3 e3 => ?_
 have hm := h3.q.nxlt hh
 refine tak_3h (K := cK) (n := QS.bk ⟨q, bl⟩ m) (h3.q.boxP hm) ((h3.q.nc h3.q.hd).trans (by rw [hh]; rfl)) (fun d => by
  have := h3.q.eq h3.q.hd h3.q.tl d
  rwa [decide_eq_false hne] at this) hA fun A hA => ?_
 refine own_tickC h3 (by omega) fun w4 h4 z4 e4 => ?_
 have hs := h4.q.setHd hm
 refine tak_5a (K := cK) (cur := some ⟨QS.bk ⟨q, bl⟩ q.hd, 0, none⟩) (h4.q.boxP h4.q.hd) (h4.q.boxP hm) h4.q.hc (h4.q.qz 0) (nh0 _) (fun d => by
  have := h4.q.eq h4.q.hd h4.q.hd d
  rwa [decide_eq_true rfl] at this) (hs.vc hm) (hs.bz hm 0) hA ?_
 refine K _ ⟨hs, (heap_setCell_ne _ _ _ (Ne.symm (h4.ne (.inl rfl)))).trans h4.t⟩ (by simp; omega) fun r hr hns => ?_
 rw [heap_setCell_ne _ _ _ hr, e4 r hns, e3 r hns, e2 r hns, e1 r hns]
theorem own_empC {q : RQ} {bl : List Nat} (h : CU w qb sb ⟨q, bl⟩ n) (hn : n < 800000000)
  (K : ∀ w', CU w' qb sb ⟨q, bl⟩ (n + 2) → w'.heap.size = w.heap.size → (∀ r, r ≠ sb → w'.heap[r]? = w.heap[r]?) → Own Try.prog main F0 Stop (G (c.finish (.bool (q.nx q.hd).isNone)) cs) w') :
  Own Try.prog main F0 Stop (G (Frame.enter Try.prog 27 #[.pointer (some ⟨qb, 0, none⟩), .iface 37 (.pointer (some ⟨sb, 0, none⟩))] .normal) (c :: cs)) w := by
 refine emp_0 (K := cK) (h.q.boxP h.q.hd) h.q.hc fun A hA => ?_
 refine own_tickC h (by omega) fun w1 h1 z1 e1 => ?_
 refine emp_1 (K := cK) (h1.q.boxP h1.q.hd) h1.q.hc hA fun A hA => ?_
 refine own_tickC h1 (by omega) fun w2 h2 z2 e2 => ?_
 have hb : BoxP w2 ((q.nx q.hd).map fun n => ⟨QS.bk ⟨q, bl⟩ n, 0, none⟩) := by
  cases e : q.nx q.hd with
  | none => exact .inl rfl
  | some n => exact h2.q.boxP (h2.q.nxlt e)
 refine emp_2 (K := cK) hb (h2.q.nc h2.q.hd) hA ?_
 rw [show ((q.nx q.hd).map fun n => (⟨QS.bk ⟨q, bl⟩ n, 0, none⟩ : Addr)).isNone = (q.nx q.hd).isNone by cases q.nx q.hd <;> rfl]
 exact K _ h2 (by omega) fun r hr => by rw [e2 r hr, e1 r hr]
theorem hnb (ab : Nat) (k : Nat) : ¬ held F0 ⟨ab, k, none⟩ := nh0 _
theorem CU.ans {ab : Nat} (h : CU w qb sb s n) (ha : Ans w ab) (b : Bool) (m : Int) : CU (ansW w ab b m) qb sb s n := by
 have hq : ∀ r, QR qb s r → r ≠ ab := by
  rintro r hr rfl
  obtain ⟨x, y, z, hx⟩ := ha.o
  rcases hr with e | ⟨k, hk, e⟩
  ·rw [e, h.q.q0] at hx
   injection hx with hx
   injection hx with _ hx
   exact absurd hx (by decide)
  ·rw [e, h.q.box hk] at hx
   injection hx with hx
   injection hx with _ hx
   exact absurd hx (by decide)
 have hs : sb ≠ ab := by
  rintro rfl
  obtain ⟨x, y, z, hx⟩ := ha.o
  rw [h.t] at hx
  injection hx with hx
  injection hx with _ hx
  exact absurd hx (by decide)
 exact ⟨h.q.same fun r hr => ansW_same (hq r hr), (ansW_same hs).trans h.t⟩
theorem ansW_size {ab : Nat} {b : Bool} {m : Int} : (ansW w ab b m).heap.size = w.heap.size := by simp [ansW]
theorem own_callC {q : RQ} {bl : List Nat} (h : CU w qb sb ⟨q, bl⟩ n) (hc : Calm q) (hn : n < 800000000) (o : Op4)
  (K : ∀ w' bl', CU w' qb sb ⟨(alone q o).1, bl'⟩ (n + (alone q o).2.2) → w.heap.size ≤ w'.heap.size → (∀ r, QR qb ⟨(alone q o).1, bl'⟩ r → QR qb ⟨q, bl⟩ r ∨ w.heap.size ≤ r) → (∀ r, r < w.heap.size → ¬ QR qb ⟨q, bl⟩ r → r ≠ sb → w'.heap[r]? = w.heap[r]?) →
   Own Try.prog main F0 Stop (G (c.finish (.agg #[.bool (alone q o).2.1.1, .int .i64 (alone q o).2.1.2, .slice none 0 0])) cs) w') :
  Own Try.prog main F0 Stop (G (Frame.enter Try.prog 21 #[.pointer (some ⟨qb, 0, none⟩), .pointer (some ⟨sb, 0, none⟩), o.v] .normal) (c :: cs)) w := by
 obtain ⟨kd, a, b0, c0⟩ := o
 have e1 : ∀ k, ∀ r, r < w.heap.size → ((w.alloc (.cells #[.int .i64 k, .int .i64 a, .int .i64 b0, .int .i64 c0] 44)).alloc (.cells #[.bool false, .int .i64 0, .slice none 0 0] 46)).heap[r]? = w.heap[r]? := fun k r hr => old2 _ _ _ hr
 have e2 := fun k => new2 w (.cells #[.int .i64 k, .int .i64 a, .int .i64 b0, .int .i64 c0] 44) #[.bool false, .int .i64 0, .slice none 0 0] 46
 have e3 := fun k => size2 w (.cells #[.int .i64 k, .int .i64 a, .int .i64 b0, .int .i64 c0] 44) (.cells #[.bool false, .int .i64 0, .slice none 0 0] 46)
 have h2 : ∀ k, CU ((w.alloc (.cells #[.int .i64 k, .int .i64 a, .int .i64 b0, .int .i64 c0] 44)).alloc (.cells #[.bool false, .int .i64 0, .slice none 0 0] 46)) qb sb ⟨q, bl⟩ n := fun k => (h.alloc _).alloc _
 have hlow : ∀ r, QR qb ⟨q, bl⟩ r → r < w.heap.size := fun r hr => h.q.low hr
 have hsl := h.slt
 by_cases k1 : kd = 1
 ·subst k1
  refine cl_put0 (wf_under (wf_E0 w)) (Nat.le_refl _) fun A hA => ?_
  replace e1 := e1 1; replace e2 := e2 1; replace e3 := e3 1; replace h2 := h2 1
  generalize (w.alloc (.cells #[.int .i64 1, .int .i64 a, .int .i64 b0, .int .i64 c0] 44)).alloc (.cells #[.bool false, .int .i64 0, .slice none 0 0] 46) = W at e1 e2 e3 h2 ⊢
  refine own_putC (b0 := b0) (c0 := c0) h2 hc.last hn fun w' h' z' qr' k' => ?_
  have ha : Ans w' (w.heap.size + 1) := ⟨⟨_, _, _, (k' _ (by omega) (fun hq => by have := hlow _ hq; omega) (by omega)).trans e2⟩⟩
  refine cl_put1 ha (hnb _) hA (K _ _ (h'.ans ha _ _) (by rw [ansW_size]; omega) (fun r hr => ?_) fun r hr hq hs => ?_)
  ·rcases qr' r hr with h | h
   ·exact .inl h
   ·exact .inr (by omega)
  ·rw [ansW_same (by omega), k' r (by omega) hq hs, e1 r hr]
 ·by_cases k2 : kd = 2
  ·subst k2
   refine cl_take0 (wf_under (wf_E0 w)) (Nat.le_refl _) fun A hA => ?_
   replace e1 := e1 2; replace e2 := e2 2; replace e3 := e3 2; replace h2 := h2 2
   generalize (w.alloc (.cells #[.int .i64 2, .int .i64 a, .int .i64 b0, .int .i64 c0] 44)).alloc (.cells #[.bool false, .int .i64 0, .slice none 0 0] 46) = W at e1 e2 e3 h2 ⊢
   cases e : q.nx q.hd with
   | none =>
    have ea : alone q ⟨2, a, b0, c0⟩ = (q, (false, 0), 3) := by simp [alone, e]
    rw [ea] at K
    refine own_takeN h2 e hn fun w' h' z' k' => ?_
    have ha : Ans w' (w.heap.size + 1) := ⟨⟨_, _, _, (k' _ (by omega)).trans e2⟩⟩
    refine cl_take1 (v := 0) (er := 4) ha (hnb _) hA (K _ bl (h'.ans ha _ _) (by rw [ansW_size]; omega) (fun r hr => .inl hr) fun r hr hq hs => ?_)
    rw [ansW_same (by omega), k' r hs, e1 r hr]
   | some m =>
    have ea : alone q ⟨2, a, b0, c0⟩ = ({ q with hd := m }, (true, q.vl m), 4) := by simp [alone, e]
    rw [ea] at K
    have hne : q.hd ≠ q.tl := fun e2 => by rw [e2, hc.last] at e; cases e
    refine own_takeS h2 e hne hn fun w' h' z' k' => ?_
    have hqb := hlow _ (.inl rfl)
    have ha : Ans w' (w.heap.size + 1) := ⟨⟨_, _, _, (k' _ (by omega) (by omega)).trans e2⟩⟩
    refine cl_take1 (v := q.vl m) (er := 0) ha (hnb _) hA (K _ bl (h'.ans ha _ _) (by rw [ansW_size]; omega) (fun r hr => .inl hr) fun r hr hq hs => ?_)
    rw [ansW_same (by omega), k' r (fun e => hq (.inl e)) hs, e1 r hr]
  ·by_cases k3 : kd = 3
   ·subst k3
    refine cl_emp0 (wf_under (wf_E0 w)) (Nat.le_refl _) fun A hA => ?_
    replace e1 := e1 3; replace e2 := e2 3; replace e3 := e3 3; replace h2 := h2 3
    generalize (w.alloc (.cells #[.int .i64 3, .int .i64 a, .int .i64 b0, .int .i64 c0] 44)).alloc (.cells #[.bool false, .int .i64 0, .slice none 0 0] 46) = W at e1 e2 e3 h2 ⊢
    refine own_empC h2 hn fun w' h' z' k' => ?_
    have ha : Ans w' (w.heap.size + 1) := ⟨⟨_, _, _, (k' _ (by omega)).trans e2⟩⟩
    have ea : alone q ⟨3, a, b0, c0⟩ = (q, (true, if (q.nx q.hd).isNone then 1 else 0), 2) := by simp [alone]
    rw [ea] at K
    cases e : (q.nx q.hd).isNone with
    | true =>
     rw [e] at K
     refine cl_emp1t ha (hnb _) hA (K _ bl (h'.ans ha _ _) (by rw [ansW_size]; omega) (fun r hr => .inl hr) fun r hr hq hs => ?_)
     rw [ansW_same (by omega), k' r hs, e1 r hr]
    | false =>
     rw [e] at K
     refine cl_emp1f ha (hnb _) hA (K _ bl (h'.ans ha _ _) (by rw [ansW_size]; omega) (fun r hr => .inl hr) fun r hr hq hs => ?_)
     rw [ansW_same (by omega), k' r hs, e1 r hr]
   ·have ea : alone q ⟨kd, a, b0, c0⟩ = (q, (false, 0), 0) := by simp [alone, k1, k2, k3]
    rw [ea] at K
    refine cl_other (wf_under (wf_E0 w)) (Nat.le_refl _) (by simpa using k1) (by simpa using k2) (by simpa using k3) ?_
    replace e1 := e1 kd; replace e2 := e2 kd; replace e3 := e3 kd; replace h2 := h2 kd
    generalize (w.alloc (.cells #[.int .i64 kd, .int .i64 a, .int .i64 b0, .int .i64 c0] 44)).alloc (.cells #[.bool false, .int .i64 0, .slice none 0 0] 46) = W at e1 e2 e3 h2 ⊢
    have ha : Ans W (w.heap.size + 1) := ⟨⟨_, _, _, e2⟩⟩
    refine K _ bl (h2.ans ha _ _) (by rw [ansW_size]; omega) (fun r hr => .inl hr) fun r hr hq hs => ?_
    rw [ansW_same (by omega), e1 r hr]
end
noncomputable section
variable {qb : Nat} {p : Par} {g : Gate}
def absT (t : Thr (QLay qb)) : RT := ⟨t.k, t.call.map fun c => QC.c c.1, t.ans⟩
def absX (x : OX (QLay qb)) : PS := ⟨QS.q x.s, fun j => absT (x.th j)⟩
theorem adv_abs {i : Nat} {a b : (QLay qb).S × Thr (QLay qb)} (h : Adv (QLay qb) p i a b) : a.2.call = none → (QS.q b.1, absT b.2) = advL ((p.ops i).drop a.2.k) (QS.q a.1) (absT a.2) := by
 induction h with
 | done h1 h2 =>
  intro _
  rw [h2, List.drop_length]
  rfl
 | @live s s' t o c A ab ho hb =>
  intro hc
  obtain ⟨hlt, e⟩ := List.getElem?_eq_some_iff.1 ho
  have hb2 : (QS.q s', (Sum.inl (QC.c c) : RR)) = (QS.q s).begin o := hb.2
  show _ = advL ((p.ops i).drop t.k) (QS.q s) (absT t)
  rw [List.drop_eq_getElem_cons hlt, e]
  simp only [advL]
  rw [← hb2]
  rfl
 | @imm s s' t o an row y ho hb _ ih =>
  intro hc
  obtain ⟨hlt, e⟩ := List.getElem?_eq_some_iff.1 ho
  have hb2 : (QS.q s', (Sum.inr an : RR)) = (QS.q s).begin o := hb.2
  show _ = advL ((p.ops i).drop t.k) (QS.q s) (absT t)
  rw [List.drop_eq_getElem_cons hlt, e]
  simp only [advL]
  rw [← hb2]
  exact ih rfl
theorem stp_abs {i : Nat} {a b : (QLay qb).S × Thr (QLay qb)} (h : Stp (QLay qb) p i a b) : (QS.q b.1, absT b.2) = stpF (p.ops i) (QS.q a.1) (absT a.2) := by
 cases h with
 | @live s s' t c c' A ab hc hb =>
  have hb2 : (QS.q s', (Sum.inl (QC.c c') : RR)) = (QS.q s).step (QC.c c) := hb.2
  have e : (absT t).call = some (QC.c c) := by simp [absT, hc]
  show _ = stpF (p.ops i) (QS.q s) (absT t)
  simp only [stpF, e]
  rw [← hb2]
  rfl
 | @ans s s' t c A ab an row y hc hb ha =>
  have hb2 : (QS.q s', (Sum.inr an : RR)) = (QS.q s).step (QC.c c) := hb.2
  have e : (absT t).call = some (QC.c c) := by simp [absT, hc]
  show _ = stpF (p.ops i) (QS.q s) (absT t)
  simp only [stpF, e]
  rw [← hb2]
  exact adv_abs ha rfl
noncomputable abbrev QUs (qb : Nat) (p : Par) (g : Gate) : Users := opsUsers (QLay qb) p g
theorem put_abs {x y : OX (QLay qb)} {i : Nat} {r : RQ × RT} (hr : (QS.q y.s, absT (y.th i)) = r) (h : ∀ j, j ≠ i → y.th j = x.th j) : absX y = (absX x).put i r := by
 subst hr
 simp only [absX, PS.put, PS.mk.injEq, true_and]
 funext j
 by_cases e : j = i
 ·rw [if_pos e, e]
 ·rw [if_neg e, h j e]
theorem liv_abs (x : OX (QLay qb)) (j : Nat) : (QUs qb p g).liv x j = (absX x).live j := by
 show (x.th j).call.isSome = ((x.th j).call.map _).isSome
 rw [Option.isSome_map]
theorem born_abs {x y : OX (QLay qb)} {i : Nat} (hn : (QUs qb p g).nw x i) (h : (QUs qb p g).bor x i y) : absX y = (absX x).put i (advL (p.ops i) (absX x).q ((absX x).th i)) := by
 refine put_abs ?_ h.2
 have h1 := adv_abs h.1 hn.1
 have h2 : (x.th i).k = 0 := hn.2
 rw [show (x.s, x.th i).2.k = 0 from h2, List.drop_zero] at h1
 exact h1
theorem borns_abs (zok : (QUs qb p g).Ok g) : ∀ (i : Nat) (x y : OX (QLay qb)), (∀ j, j < i → (QUs qb p g).nw x j) → Borns (QUs qb p g) i x y → absX y = pBorns p.ops i (absX x)
 | 0, x, y, _, h => by
  have h : y = x := h
  rw [h]; rfl
 | i + 1, x, z, hn, ⟨y, h1, h2⟩ => by
  have e := borns_abs zok i x y (fun j hj => hn j (by omega)) h1
  have hny : (QUs qb p g).nw y i := borns_nw zok i x y h1 i (Nat.le_refl i) (hn i (by omega))
  simp only [pBorns]
  rw [← e]
  exact born_abs hny h2
theorem turn_abs {n M : Nat} {s t : OX (QLay qb) × List Nat} {i : Int} (h : Turn (QUs qb p g) n M s i t) : (absX t.1, t.2) = pTurn p.ops n M (absX s.1, s.2) i := by
 unfold Turn at h
 unfold pTurn
 simp only [← liv_abs (p := p) (g := g)]
 split at h
 ·rename_i hc
  rw [if_pos hc]
  obtain ⟨h1, h2⟩ := h
  refine Prod.ext ?_ h2
  exact put_abs (stp_abs h1.1) h1.2
 ·rename_i hc
  rw [if_neg hc, h]
theorem turns_abs {n M : Nat} : ∀ (l : List Int) (s t : OX (QLay qb) × List Nat), Turns (QUs qb p g) n M l s t → (absX t.1, t.2) = pTurns p.ops n M l (absX s.1, s.2)
 | [], s, t, h => by
  have h : t = s := h
  rw [h]; rfl
 | i :: l, s, t, ⟨u, h1, h2⟩ => by
  simp only [pTurns]
  rw [← turn_abs h1]
  exact turns_abs l u t h2
theorem cnt_abs (x : OX (QLay qb)) (n : Nat) : cnt ((QUs qb p g).liv x) n = cnt (absX x).live n := cnt_congr fun j _ => liv_abs x j
theorem rounds_gen {Z : Users} {ops : Nat → List Op4} {n M : Nat} (ab : Z.X → PS) (hl : ∀ x j, Z.liv x j = (ab x).live j) (ht : ∀ l s t, Turns Z n M l s t → (ab t.1, t.2) = pTurns ops n M l (ab s.1, s.2)) {s t : Z.X × List Nat} (h : Rounds Z n M s t) : pDone n M (ab t.1, t.2) ∧ ∃ k, ∀ f, k ≤ f → pRounds ops n M f (ab s.1, s.2) = (ab t.1, t.2) := by
 have hc : ∀ x, cnt (Z.liv x) n = cnt (ab x).live n := fun x => cnt_congr fun j _ => hl x j
 induction h with
 | done h =>
  rw [hc] at h
  have h : pDone n M (ab _, _) := h
  exact ⟨h, 0, fun f _ => pRounds_done h f⟩
 | more h1 h2 h3 _ ih =>
  obtain ⟨hd, k, hk⟩ := ih
  refine ⟨hd, k + 1, fun f hf => ?_⟩
  obtain ⟨f, rfl⟩ : ∃ e, f = e + 1 := ⟨f - 1, by omega⟩
  rw [hc] at h1
  simp only [pRounds]
  rw [if_neg (fun h => h.elim (fun h => by simp only at h; omega) fun h => by simp only at h; omega), ← ht _ _ _ h3]
  exact hk f (by omega)
theorem rounds_abs {n M : Nat} {s t : OX (QLay qb) × List Nat} (h : Rounds (QUs qb p g) n M s t) : pDone n M (absX t.1, t.2) ∧ ∃ k, ∀ f, k ≤ f → pRounds p.ops n M f (absX s.1, s.2) = (absX t.1, t.2) :=
 rounds_gen (Z := QUs qb p g) absX liv_abs turns_abs h
theorem over_abs (zok : (QUs qb p g).Ok g) {n M : Nat} {S : List Int} {x0 : OX (QLay qb)} (hnw : ∀ j, j < n → (QUs qb p g).nw x0 j) {t : OX (QLay qb) × List Nat} (h : OverRel (QUs qb p g) n M S x0 t) : pDone n M (absX t.1, t.2) ∧ ∃ k, ∀ f, k ≤ f → pOver p.ops n M S f (absX x0) = (absX t.1, t.2) := by
 obtain ⟨x1, h1, s, h2, h3⟩ := h
 obtain ⟨hd, k, hk⟩ := rounds_abs h3
 refine ⟨hd, k, fun f hf => ?_⟩
 rw [← hk f hf, turns_abs _ _ _ h2, borns_abs zok n x0 x1 hnw h1]
 rfl
end
noncomputable section
variable {F : Fz} {w : World}
def diBody : Code := Try.f61.body.getD .skip
def dis0 : Code := Code.piece [] diBody
def dir0 : Code := Code.piece [true] diBody
def dio0 : Array Oper := Code.opsOf dir0
def dis1 : Code := Code.piece [false] diBody
def dir1 : Code := Code.piece [false, true] diBody
def dio1 : Array Oper := Code.opsOf dir1
def dis2 : Code := Code.piece [false, false] diBody
def dir2 : Code := Code.piece [false, false, true] diBody
def dio2 : Array Oper := Code.opsOf dir2
def dis3 : Code := Code.piece [false, false, false] diBody
def dir3 : Code := Code.piece [false, false, false, true] diBody
def dio3 : Array Oper := Code.opsOf dir3
def dis4 : Code := Code.piece [false, false, false, false] diBody
def dis5 : Code := Code.piece [false, false, false, false, true] diBody
def dir4 : Code := Code.piece [false, false, false, false, true, true] diBody
def dio4 : Array Oper := Code.opsOf dir4
def dib0 : Code := Code.piece [false, false, false, false, true, false] diBody
def dil6 : Code := Code.piece [false, false, false, false, true, false, true] diBody
def dis7 : Code := Code.piece [false, false, false, false, true, false, true, true] diBody
def dir5 : Code := Code.piece [false, false, false, false, true, false, true, true, true] diBody
def dio5 : Array Oper := Code.opsOf dir5
def dis8 : Code := Code.piece [false, false, false, false, true, false, true, true, false] diBody
def dic18 : Code := Code.piece [false, false, false, false, true, false, true, true, false, true] diBody
def dis9 : Code := Code.piece [false, false, false, false, true, false, true, true, false, false] diBody
def dib1 : Code := Code.piece [false, false, false, false, true, false, true, true, false, false, true] diBody
def dis10 : Code := Code.piece [false, false, false, false, true, false, true, true, false, false, true, true] diBody
def dir6 : Code := Code.piece [false, false, false, false, true, false, true, true, false, false, true, true, true] diBody
def dio6 : Array Oper := Code.opsOf dir6
def dis11 : Code := Code.piece [false, false, false, false, true, false, true, true, false, false, true, true, false] diBody
def dir7 : Code := Code.piece [false, false, false, false, true, false, true, true, false, false, true, true, false, true] diBody
def dio7 : Array Oper := Code.opsOf dir7
def dir8 : Code := Code.piece [false, false, false, false, true, false, true, true, false, false, true, true, false, false] diBody
def dio8 : Array Oper := Code.opsOf dir8
def dir9 : Code := Code.piece [false, false, false, false, true, false, true, true, false, false, false] diBody
def dio9 : Array Oper := Code.opsOf dir9
def dis12 : Code := Code.piece [false, false, false, false, false] diBody
def dir10 : Code := Code.piece [false, false, false, false, false, true] diBody
def dio10 : Array Oper := Code.opsOf dir10
theorem dis0_eq : dis0 = .seq dir0 dis1 := by kernel_rfl
theorem dir0_eq : dir0 = .region 0 dio0 false := by kernel_rfl
theorem dis1_eq : dis1 = .seq dir1 dis2 := by kernel_rfl
theorem dir1_eq : dir1 = .region 1 dio1 false := by kernel_rfl
theorem dis2_eq : dis2 = .seq dir2 dis3 := by kernel_rfl
theorem dir2_eq : dir2 = .region 2 dio2 false := by kernel_rfl
theorem dis3_eq : dis3 = .seq dir3 dis4 := by kernel_rfl
theorem dir3_eq : dir3 = .region 3 dio3 false := by kernel_rfl
theorem dis4_eq : dis4 = .seq dis5 dis12 := by kernel_rfl
theorem dis5_eq : dis5 = .seq dir4 dib0 := by kernel_rfl
theorem dir4_eq : dir4 = .region 4 dio4 false := by kernel_rfl
theorem dib0_eq : dib0 = .block 0 dil6 := by kernel_rfl
theorem dil6_eq : dil6 = .loop dis7 := by kernel_rfl
theorem dis7_eq : dis7 = .seq dir5 dis8 := by kernel_rfl
theorem dir5_eq : dir5 = .region 5 dio5 false := by kernel_rfl
theorem dis8_eq : dis8 = .seq dic18 dis9 := by kernel_rfl
theorem dic18_eq : dic18 = .cond (.tmp 18) .skip (.exit 0) := by kernel_rfl
theorem dis9_eq : dis9 = .seq dib1 dir9 := by kernel_rfl
theorem dib1_eq : dib1 = .block 1 dis10 := by kernel_rfl
theorem dis10_eq : dis10 = .seq dir6 dis11 := by kernel_rfl
theorem dir6_eq : dir6 = .region 6 dio6 false := by kernel_rfl
theorem dis11_eq : dis11 = .seq dir7 dir8 := by kernel_rfl
theorem dir7_eq : dir7 = .region 7 dio7 true := by kernel_rfl
theorem dir8_eq : dir8 = .region 8 dio8 false := by kernel_rfl
theorem dir9_eq : dir9 = .region 9 dio9 false := by kernel_rfl
theorem dis12_eq : dis12 = .seq dir10 .ret := by kernel_rfl
theorem dir10_eq : dir10 = .region 10 dio10 true := by kernel_rfl
theorem enter_di (args : Array Value) : Frame.enter Try.prog 61 args .normal = (Go.Conc.base 61).at { tmps := args ++ Array.replicate (38 - args.size) undef, defers := [] } [.code dis0] := enter_at args Try.func61 rfl
theorem callable61 : Callable 61 := callable Try.func61 rfl rfl
def diT (s : Nat → Value) : Array Value := #[s 0, s 1, s 2, s 3, s 4, s 5, s 6, s 7, s 8, s 9, s 10, s 11, s 12, s 13, s 14, s 15, s 16, s 17, s 18, s 19, s 20, s 21, s 22, s 23, s 24, s 25, s 26, s 27, s 28, s 29, s 30, s 31, s 32, s 33, s 34, s 35, s 36, s 37]
theorem diT_of {A : Array Value} (h : A.size = 38) : ∃ s, A = diT s := by
 obtain ⟨s, hs, _⟩ := arr_lit A h
 exact ⟨s, hs⟩
theorem info84 : ∃ i, Try.prog.info? 84 = some i ∧ i.zero = some (.slice none 0 0) ∧ i.size = 1 ∧ i.bytes = 24 := by
 have h : (Try.prog.info? 84).map (fun i => (i.size, i.bytes)) = some (1, 24) := by kernel_rfl
 have h0 : (Try.prog.info? 84).bind (·.zero) = some (.slice none 0 0) := by kernel_rfl
 obtain ⟨i, hi, h1⟩ := Option.map_eq_some_iff.1 h
 rw [hi] at h0
 simp only [Prod.mk.injEq] at h1
 exact ⟨i, hi, h0, h1.1, h1.2⟩
section
variable {n : Nat} {es : Array Event}
@[go_sem] theorem mkSlice27 (h : n ≤ 64) : (Instr.makeSlice 27 (.int .i64 n) (.int .i64 n)).run Try.prog w = .ok (.slice (some ⟨w.heap.size, 0, none⟩) n n) (w.alloc (.cells (madeCells #[.slice none 0 0] n) 84)) := by
 obtain ⟨i, hi, hz, hs, hb⟩ := info84
 have := run_make (P := Try.prog) w 27 84 i (.slice none 0 0) Try.underlying27 hi hz .i64 .i64 n n (by omega) (by omega) (by rw [hb]; omega) (by omega)
 rw [hs] at this
 simpa [Value.cells] using this
@[go_sem] theorem mkSlice27e (h : n ≤ 64) : (Instr.makeSlice 27 (.int .i64 n) (.int .i64 n)).events Try.prog w es = es := by
 obtain ⟨i, hi, hz, hs, hb⟩ := info84
 exact events_make (P := Try.prog) w 27 84 i (.slice none 0 0) Try.underlying27 hi hz .i64 .i64 n n (by omega) (by omega) (by rw [hb]; omega) (by omega) (by rw [hb]; omega) es
end
theorem set_new27 (X : World) (u v : Value) : (X.alloc (.cells #[u] 27)).setCell ⟨X.heap.size, 0, none⟩ v = X.alloc (.cells #[v] 27) := by go_simp
theorem di_0 {nn : Nat} (hU : Under F nn) (hn : nn ≤ w.heap.size) {ta : Option Addr} {tl tc n df : Nat} {first capt : Array Value} (hn1 : min tl 64 = n) {cs : List Frame} {main : Bool} {Stop : Goroutine → World → Prop}
  (h : ∀ A, Slots 38 A [(0, .slice ta tl tc), (3, .pointer (some ⟨w.heap.size, 0, none⟩)), (6, .int .i64 n)] → Own Try.prog main F Stop (G ((Go.Conc.base 61).at ⟨A, []⟩ [.code dis2]) cs) (w.alloc (.cells #[.func (.func df) first capt] 88))) :
  Own Try.prog main F Stop (G (Frame.enter Try.prog 61 #[.slice ta tl tc, .func (.func df) first capt] .normal) cs) w := by
 have hn2 : (if (64 : Int) < (tl : Int) then (64 : Int) else tl) = (n : Int) := by split <;> omega
 rw [enter_di]
 walk_nrm
 rw [dis0_eq]
 refine ogS ?_
 rw [dir0_eq]
 refine ogR ?_
 simp only [dio0, Code.opsOf, dir0, Code.piece, diBody, Try.f61, Option.getD_some, List.size_toArray, List.length_cons, List.length_nil, Nat.reduceAdd, Nat.zero_add, List.range, List.range.loop]
 (refine oW fun dd K hK => ?_; go_simp; refine qA hK hU ?_; clear hK K)
 iterate 2 (refine oW fun dd K hK => ?_; go_simp; refine qT hK ?_; clear hK K)
 refine ogE ?_
 rw [dis1_eq]
 refine ogS ?_
 rw [dir1_eq]
 refine ogR ?_
 simp only [dio1, Code.opsOf, dir1, Code.piece, diBody, Try.f61, Option.getD_some, List.size_toArray, List.length_cons, List.length_nil, Nat.reduceAdd, Nat.zero_add, List.range, List.range.loop]
 iterate 4 (refine oW fun dd K hK => ?_; go_simp; refine qT hK ?_; clear hK K)
 refine ogE ?_
 refine h _ ?_
 exact ⟨rfl, rfl, rfl, rfl, trivial⟩
theorem di_1 {nn : Nat} (hU : Under F nn) (hn : nn ≤ w.heap.size) {ta : Option Addr} {tl tc n db : Nat} (hn64 : n ≤ 64) {A : Array Value} (hA : Slots 38 A [(0, .slice ta tl tc), (3, .pointer (some ⟨db, 0, none⟩)), (6, .int .i64 n)]) {cs : List Frame} {main : Bool} {Stop : Goroutine → World → Prop}
  (h : ∀ A, Slots 38 A [(0, .slice ta tl tc), (3, .pointer (some ⟨db, 0, none⟩)), (6, .int .i64 n), (7, .pointer (some ⟨w.heap.size + 1, 0, none⟩)), (8, .slice none 0 0), (16, .int .i64 n), (17, .int .i64 (0 : Nat))] → Own Try.prog main F Stop (G ((Go.Conc.base 61).at ⟨A, []⟩ [.code dis7, .inLoop dis7, .inBlock 0, .code dis12]) cs) ((w.alloc (.cells (madeCells #[.slice none 0 0] n) 84)).alloc (.cells #[.slice (some ⟨w.heap.size, 0, none⟩) n n] 27))) :
  Own Try.prog main F Stop (G ((Go.Conc.base 61).at ⟨A, []⟩ [.code dis2]) cs) w := by
 obtain ⟨hsz, h0, h3, h6, _⟩ := hA
 obtain ⟨s, rfl⟩ := diT_of hsz
 change s 0 = _ at h0
 change s 3 = _ at h3
 change s 6 = _ at h6
 clear hsz
 simp only [diT, h0, h3, h6]
 clear h0 h3 h6
 rw [dis2_eq]
 refine ogS ?_
 rw [dir2_eq]
 refine ogR ?_
 simp only [dio2, Code.opsOf, dir2, Code.piece, diBody, Try.f61, Option.getD_some, List.size_toArray, List.length_cons, List.length_nil, Nat.reduceAdd, Nat.zero_add, List.range, List.range.loop]
 (refine oW fun dd K hK => ?_; go_simp; refine qT hK ?_; clear hK K)
 (refine oW fun dd K hK => ?_; go_simp; refine hK _ _ ⟨⟨⟨0, grew_alloc hU (by first | (simp [go_sem]; done) | (simp [go_sem]; omega)) _⟩, fun e he => by (have hm := mem_listed he; clear he hK; simp [go_sem, storedEv, mkSlice27e hn64] at hm)⟩, ?_⟩; clear hK K; rw [alloc_at']; refine Own.at ?_ dd)
 (refine oW fun dd K hK => ?_; go_simp; refine qA hK hU ?_; clear hK K)
 (refine oW fun dd K hK => ?_; go_simp; refine qS hK hU ?_; clear hK K)
 have e1 := set_new27 (w.alloc (.cells (madeCells #[.slice none 0 0] n) 84)) (.slice none 0 0) (.slice (some ⟨w.heap.size, 0, none⟩) n n)
 simp only [World.size_alloc] at e1
 rw [e1]
 clear e1
 refine ogE ?_
 rw [dis3_eq]
 refine ogS ?_
 rw [dir3_eq]
 refine ogR ?_
 simp only [dio3, Code.opsOf, dir3, Code.piece, diBody, Try.f61, Option.getD_some, List.size_toArray, List.length_cons, List.length_nil, Nat.reduceAdd, Nat.zero_add, List.range, List.range.loop]
 (refine oW fun dd K hK => ?_; go_simp; refine qT hK ?_; clear hK K)
 refine ogE ?_
 rw [dis4_eq]
 refine ogS ?_
 rw [dis5_eq]
 refine ogS ?_
 rw [dir4_eq]
 refine ogR ?_
 simp only [dio4, Code.opsOf, dir4, Code.piece, diBody, Try.f61, Option.getD_some, List.size_toArray, List.length_cons, List.length_nil, Nat.reduceAdd, Nat.zero_add, List.range, List.range.loop]
 iterate 2 (refine oW fun dd K hK => ?_; go_simp; refine qT hK ?_; clear hK K)
 refine ogE ?_
 rw [dib0_eq]
 refine ogB ?_
 rw [dil6_eq]
 refine ogP ?_
 refine h _ ?_
 exact ⟨rfl, rfl, rfl, rfl, rfl, rfl, rfl, rfl, trivial⟩
theorem di_5 {ta : Option Addr} {tl tc n db av : Nat} {l : Value} {A : Array Value} (hA : Slots 38 A [(0, .slice ta tl tc), (3, .pointer (some ⟨db, 0, none⟩)), (6, .int .i64 n), (7, .pointer (some ⟨av, 0, none⟩)), (8, l), (16, .int .i64 n), (17, .int .i64 n)]) {cs : List Frame} {main : Bool} {Stop : Goroutine → World → Prop}
  (h : ∀ A, Slots 38 A [(0, .slice ta tl tc), (3, .pointer (some ⟨db, 0, none⟩)), (6, .int .i64 n), (7, .pointer (some ⟨av, 0, none⟩)), (8, l), (16, .int .i64 n), (17, .int .i64 n)] → Own Try.prog main F Stop (G ((Go.Conc.base 61).at ⟨A, []⟩ [.code dir10, .code .ret]) cs) w) :
  Own Try.prog main F Stop (G ((Go.Conc.base 61).at ⟨A, []⟩ [.code dis7, .inLoop dis7, .inBlock 0, .code dis12]) cs) w := by
 obtain ⟨hsz, h0, h3, h6, h7, h8, h16, h17, _⟩ := hA
 obtain ⟨s, rfl⟩ := diT_of hsz
 change s 0 = _ at h0
 change s 3 = _ at h3
 change s 6 = _ at h6
 change s 7 = _ at h7
 change s 8 = _ at h8
 change s 16 = _ at h16
 change s 17 = _ at h17
 clear hsz
 simp only [diT, h0, h3, h6, h7, h8, h16, h17]
 clear h0 h3 h6 h7 h8 h16 h17
 have hlt : decide ((n : Int) < (n : Int)) = false := by simp
 rw [dis7_eq]
 refine ogS ?_
 rw [dir5_eq]
 refine ogR ?_
 simp only [dio5, Code.opsOf, dir5, Code.piece, diBody, Try.f61, Option.getD_some, List.size_toArray, List.length_cons, List.length_nil, Nat.reduceAdd, Nat.zero_add, List.range, List.range.loop]
 (refine oW fun dd K hK => ?_; go_simp; refine qT hK ?_; clear hK K)
 refine ogE ?_
 rw [dis8_eq]
 refine ogS ?_
 rw [dic18_eq]
 refine ogF ?_
 simp only [Bool.false_eq_true, if_false]
 refine own_go rfl (fun d => stepG_exit rfl) ?_
 rw [dis12_eq]
 refine ogS ?_
 refine h _ ?_
 exact ⟨rfl, rfl, rfl, rfl, rfl, rfl, rfl, rfl, trivial⟩
theorem di_2 {nn : Nat} (hU : Under F nn) (hn : nn ≤ w.heap.size) {ta : Option Addr} {tl tc n db av k : Nat} {l : Value} (hk : k < n) {A : Array Value} (hA : Slots 38 A [(0, .slice ta tl tc), (3, .pointer (some ⟨db, 0, none⟩)), (6, .int .i64 n), (7, .pointer (some ⟨av, 0, none⟩)), (8, l), (16, .int .i64 n), (17, .int .i64 k)]) {cs : List Frame} {main : Bool} {Stop : Goroutine → World → Prop}
  (h : ∀ A, Slots 38 A ((9, .pointer (some ⟨w.heap.size, 0, none⟩)) :: [(0, .slice ta tl tc), (3, .pointer (some ⟨db, 0, none⟩)), (6, .int .i64 n), (7, .pointer (some ⟨av, 0, none⟩)), (8, l), (16, .int .i64 n), (17, .int .i64 k)]) → Own Try.prog main F Stop (G ((Go.Conc.base 61).at ⟨A, []⟩ [.code dis11, .inBlock 1, .code dir9, .inLoop dis7, .inBlock 0, .code dis12]) cs) (w.alloc (.cells #[.int .i64 k] 3))) :
  Own Try.prog main F Stop (G ((Go.Conc.base 61).at ⟨A, []⟩ [.code dis7, .inLoop dis7, .inBlock 0, .code dis12]) cs) w := by
 obtain ⟨hsz, h0, h3, h6, h7, h8, h16, h17, _⟩ := hA
 obtain ⟨s, rfl⟩ := diT_of hsz
 change s 0 = _ at h0
 change s 3 = _ at h3
 change s 6 = _ at h6
 change s 7 = _ at h7
 change s 8 = _ at h8
 change s 16 = _ at h16
 change s 17 = _ at h17
 clear hsz
 simp only [diT, h0, h3, h6, h7, h8, h16, h17]
 clear h0 h3 h6 h7 h8 h16 h17
 have hlt : decide ((k : Int) < (n : Int)) = true := by simp; omega
 have hlt2 : decide (k < n) = true := by simp; omega
 rw [dis7_eq]
 refine ogS ?_
 rw [dir5_eq]
 refine ogR ?_
 simp only [dio5, Code.opsOf, dir5, Code.piece, diBody, Try.f61, Option.getD_some, List.size_toArray, List.length_cons, List.length_nil, Nat.reduceAdd, Nat.zero_add, List.range, List.range.loop]
 (refine oW fun dd K hK => ?_; go_simp; refine qT hK ?_; clear hK K)
 refine ogE ?_
 rw [dis8_eq]
 refine ogS ?_
 rw [dic18_eq]
 refine ogT ?_
 simp only [if_true]
 refine ogK ?_
 rw [dis9_eq]
 refine ogS ?_
 rw [dib1_eq]
 refine ogB ?_
 rw [dis10_eq]
 refine ogS ?_
 rw [dir6_eq]
 refine ogR ?_
 simp only [dio6, Code.opsOf, dir6, Code.piece, diBody, Try.f61, Option.getD_some, List.size_toArray, List.length_cons, List.length_nil, Nat.reduceAdd, Nat.zero_add, List.range, List.range.loop]
 (refine oW fun dd K hK => ?_; go_simp; refine qT hK ?_; clear hK K)
 (refine oW fun dd K hK => ?_; go_simp; refine qA hK hU ?_; clear hK K)
 (refine oW fun dd K hK => ?_; go_simp; refine qS hK hU ?_; clear hK K)
 rw [set_new]
 refine ogE ?_
 refine h _ ?_
 exact ⟨rfl, rfl, rfl, rfl, rfl, rfl, rfl, rfl, rfl, trivial⟩
end
noncomputable section
variable {F : Fz} {w : World}
structure SD (nn ib tb o k ol oc : Nat) (oa : Option Addr) (u : World) : Prop where
 top : nn ≤ u.heap.size
 il : ib < u.heap.size
 tl : tb < u.heap.size
 ci : u.cell? ⟨ib, 0, none⟩ = some (.int .i64 k)
 zi : u.frozen? ⟨ib, 0, none⟩ = false
 ct : u.cell? ⟨tb, o + k, none⟩ = some (.slice oa ol oc)
 zt : u.frozen? ⟨tb, o + k, none⟩ = false
section
variable {nn ib tb o k ol oc : Nat} {oa : Option Addr} {u : World}
theorem SD.at (h : SD nn ib tb o k ol oc oa u) (d : Nat) : SD nn ib tb o k ol oc oa (u.at d) := ⟨h.top, h.il, h.tl, h.ci, h.zi, h.ct, h.zt⟩
theorem SD.alloc (h : SD nn ib tb o k ol oc oa u) (ob : Obj) : SD nn ib tb o k ol oc oa (u.alloc ob) := by
 have e1 : (u.alloc ob).heap[ib]? = u.heap[ib]? := heap_alloc_lt _ _ h.il
 have e2 : (u.alloc ob).heap[tb]? = u.heap[tb]? := heap_alloc_lt _ _ h.tl
 refine ⟨by simp; have := h.top; omega, by simp; have := h.il; omega, by simp; have := h.tl; omega, ?_, ?_, ?_, ?_⟩
 ·rw [← h.ci]; unfold World.cell?; simp only [e1]
 ·rw [← h.zi]; unfold World.frozen?; simp only [e1]
 ·rw [← h.ct]; unfold World.cell?; simp only [e2]
 ·rw [← h.zt]; unfold World.frozen?; simp only [e2]
end
theorem set_new32 (X : World) (u v : Value) : (X.alloc (.cells #[u] 32)).setCell ⟨X.heap.size, 0, none⟩ v = X.alloc (.cells #[v] 32) := by go_simp
theorem info44 : ∃ i, Try.prog.info? 44 = some i ∧ i.size = 4 := by
 have h : (Try.prog.info? 44).map (fun i => i.size) = some 4 := by kernel_rfl
 obtain ⟨i, hi, h1⟩ := Option.map_eq_some_iff.1 h
 exact ⟨i, hi, h1⟩
theorem slice_h {w : World} {a : Option Addr} {ol oc m : Nat} (hmc : m ≤ oc) : (Instr.sliceAt 32 (.slice a ol oc) none (some (.int .i64 m)) none).run Try.prog w = .ok (.slice a m oc) w := by
 obtain ⟨i, hi, hs⟩ := info44
 have hu : Try.prog.underlying 32 = some (.slice 44) := Try.underlying32
 have e : a.map (fun x : Addr => x.add 0) = a := by
  cases a with
  | none => rfl
  | some x => simp [Addr.add]
 have hm : (m : Int) ≤ oc := by omega
 simp [Instr.sliceAt, Instr.slice, run_underlying hu, Instr.sliceBounds, run_sliceBound, sizeOf, typeInfo, hi, hs, hmc, hm, e]
theorem slice_he {w : World} {es : Array Event} {a : Option Addr} {ol oc m : Nat} (hmc : m ≤ oc) : (Instr.sliceAt 32 (.slice a ol oc) none (some (.int .i64 m)) none).events Try.prog w es = es := by
 obtain ⟨i, hi, hs⟩ := info44
 have hu : Try.prog.underlying 32 = some (.slice 44) := Try.underlying32
 have hm : (m : Int) ≤ oc := by omega
 simp [Instr.sliceAt, Instr.slice, run_underlying hu, Instr.sliceBounds, Instr.sliceBound, asIntOf, run_sliceBound, sizeOf, typeInfo, hi, hs, hmc, hm]
set_option maxHeartbeats 8000000 in
theorem di_3 {nn : Nat} (hU : Under F nn) {tb o tl tc n db av ib k ol oc m : Nat} {oa : Option Addr} {l : Value} (hkt : k < tl) (hm0 : min ol 65536 = m) (hoc : ol ≤ oc) (hs : SD nn ib tb o k ol oc oa w) {A : Array Value} (hA : Slots 38 A ((9, .pointer (some ⟨ib, 0, none⟩)) :: [(0, .slice (some ⟨tb, o, none⟩) tl tc), (3, .pointer (some ⟨db, 0, none⟩)), (6, .int .i64 n), (7, .pointer (some ⟨av, 0, none⟩)), (8, l), (16, .int .i64 n), (17, .int .i64 k)])) {cs : List Frame} {main : Bool} {Stop : Goroutine → World → Prop} {kk : List Item}
  (h : ∀ A, Slots 38 A ((9, .pointer (some ⟨ib, 0, none⟩)) :: (10, .pointer (some ⟨w.heap.size, 0, none⟩)) :: [(0, .slice (some ⟨tb, o, none⟩) tl tc), (3, .pointer (some ⟨db, 0, none⟩)), (6, .int .i64 n), (7, .pointer (some ⟨av, 0, none⟩)), (8, l), (16, .int .i64 n), (17, .int .i64 k)]) → Own Try.prog main F Stop (G ((Go.Conc.base 61).at ⟨A, []⟩ kk) cs) (w.alloc (.cells #[.slice oa m oc] 32))) :
  Own Try.prog main F Stop (G ((Go.Conc.base 61).at ⟨A, []⟩ (.code dir7 :: kk)) cs) w := by
 obtain ⟨hsz, h9, h0, h3, h6, h7, h8, h16, h17, _⟩ := hA
 obtain ⟨s, rfl⟩ := diT_of hsz
 change s 9 = _ at h9
 change s 0 = _ at h0
 change s 3 = _ at h3
 change s 6 = _ at h6
 change s 7 = _ at h7
 change s 8 = _ at h8
 change s 16 = _ at h16
 change s 17 = _ at h17
 clear hsz
 simp only [diT, h9, h0, h3, h6, h7, h8, h16, h17]
 clear h9 h0 h3 h6 h7 h8 h16 h17
 have hmc : m ≤ oc := by omega
 have hm2 : (if (65536 : Int) < (ol : Int) then (65536 : Int) else ol) = (m : Int) := by split <;> omega
 have hS : ∀ u d, SD nn ib tb o k ol oc oa u → SD nn ib tb o k ol oc oa (World.at u d) := fun u d h => h.at d
 rw [dir7_eq]
 refine own_drawnM (SD nn ib tb o k ol oc oa) (last := 12) run_mixed (ll_of (by kernel_rfl)) (by decide) ?_
 simp only [dio7, Code.opsOf, dir7, Code.piece, diBody, Try.f61, Option.getD_some, List.size_toArray, List.length_cons, List.length_nil, Nat.reduceAdd, Nat.zero_add, List.range, List.range.loop]
 have hZ : ∀ a u d, Own Try.prog main F Stop (G ((Go.Conc.base 61).at a (.inRegion dio7 [12] :: kk)) cs) u → Own Try.prog main F Stop (G ((Go.Conc.base 61).at a (.inRegion dio7 [12] :: kk)) cs) (World.at u d) := fun a u d h => h.at d
 simp only [dio7, Code.opsOf, dir7, Code.piece, diBody, Try.f61, Option.getD_some, List.size_toArray, List.length_cons, List.length_nil, Nat.reduceAdd, Nat.zero_add, List.range, List.range.loop] at hZ
 refine anyM_take hS hZ (i := 0) (v := .slice (some ⟨tb, o, none⟩) tl tc) hs rfl rfl (by kernel_rfl) (by kernel_rfl) (by kernel_rfl) (fun u hu => .inl ⟨rfl, fun d => ⟨by simp [go_sem, execOp, Act.eval], fun e he => by have hm := mem_listed he; simp [go_sem, execOp, Act.eval] at hm⟩⟩) ?_
 walk_nrm
 refine anyM_take hS hZ (i := 1) (v := .int .i64 k) hs rfl rfl (by kernel_rfl) (by kernel_rfl) (by kernel_rfl) (fun u hu => .inl ⟨rfl, fun d => ⟨by simp [go_sem, execOp, Act.eval, hu.ci, hu.zi], fun e he => by have hm := mem_listed he; simp [go_sem, execOp, Act.eval, hu.ci, hu.zi] at hm; subst hm; exact evT_read _ _⟩⟩) ?_
 walk_nrm
 refine anyM_take hS hZ (i := 2) (v := .pointer (some ⟨tb, o + k, none⟩)) hs rfl rfl (by kernel_rfl) (by kernel_rfl) (by kernel_rfl) (fun u hu => .inl ⟨rfl, fun d => ⟨by simp [go_sem, execOp, Act.eval, hkt], fun e he => by have hm := mem_listed he; simp [go_sem, execOp, Act.eval, hkt] at hm⟩⟩) ?_
 walk_nrm
 refine anyM_take hS hZ (i := 3) (v := .slice oa ol oc) hs rfl rfl (by kernel_rfl) (by kernel_rfl) (by kernel_rfl) (fun u hu => .inl ⟨rfl, fun d => ⟨by simp [go_sem, execOp, Act.eval, hu.ct, hu.zt], fun e he => by have hm := mem_listed he; simp [go_sem, execOp, Act.eval, hu.ct, hu.zt] at hm; subst hm; exact evT_read _ _⟩⟩) ?_
 walk_nrm
 refine anyM_take hS hZ (i := 4) (v := .slice (some ⟨tb, o, none⟩) tl tc) hs rfl rfl (by kernel_rfl) (by kernel_rfl) (by kernel_rfl) (fun u hu => .inl ⟨rfl, fun d => ⟨by simp [go_sem, execOp, Act.eval], fun e he => by have hm := mem_listed he; simp [go_sem, execOp, Act.eval] at hm⟩⟩) ?_
 walk_nrm
 refine anyM_take hS hZ (i := 5) (v := .int .i64 k) hs rfl rfl (by kernel_rfl) (by kernel_rfl) (by kernel_rfl) (fun u hu => .inl ⟨rfl, fun d => ⟨by simp [go_sem, execOp, Act.eval, hu.ci, hu.zi], fun e he => by have hm := mem_listed he; simp [go_sem, execOp, Act.eval, hu.ci, hu.zi] at hm; subst hm; exact evT_read _ _⟩⟩) ?_
 walk_nrm
 refine anyM_take hS hZ (i := 6) (v := .pointer (some ⟨tb, o + k, none⟩)) hs rfl rfl (by kernel_rfl) (by kernel_rfl) (by kernel_rfl) (fun u hu => .inl ⟨rfl, fun d => ⟨by simp [go_sem, execOp, Act.eval, hkt], fun e he => by have hm := mem_listed he; simp [go_sem, execOp, Act.eval, hkt] at hm⟩⟩) ?_
 walk_nrm
 refine anyM_take hS hZ (i := 7) (v := .slice oa ol oc) hs rfl rfl (by kernel_rfl) (by kernel_rfl) (by kernel_rfl) (fun u hu => .inl ⟨rfl, fun d => ⟨by simp [go_sem, execOp, Act.eval, hu.ct, hu.zt], fun e he => by have hm := mem_listed he; simp [go_sem, execOp, Act.eval, hu.ct, hu.zt] at hm; subst hm; exact evT_read _ _⟩⟩) ?_
 walk_nrm
 refine anyM_take hS hZ (i := 8) (v := .int .i64 ol) hs rfl rfl (by kernel_rfl) (by kernel_rfl) (by kernel_rfl) (fun u hu => .inl ⟨rfl, fun d => ⟨by simp [go_sem, execOp, Act.eval], fun e he => by have hm := mem_listed he; simp [go_sem, execOp, Act.eval] at hm⟩⟩) ?_
 walk_nrm
 refine anyM_take hS hZ (i := 9) (v := .int .i64 m) hs rfl rfl (by kernel_rfl) (by kernel_rfl) (by kernel_rfl) (fun u hu => .inl ⟨rfl, fun d => ⟨by simp [go_sem, execOp, Act.eval, hm2], fun e he => by have hm := mem_listed he; simp [go_sem, execOp, Act.eval, hm2] at hm⟩⟩) ?_
 walk_nrm
 refine anyM_take hS hZ (i := 10) (v := .slice oa m oc) hs rfl rfl (by kernel_rfl) (by kernel_rfl) (by kernel_rfl) (fun u hu => .inl ⟨rfl, fun d => ⟨by simp [go_sem, execOp, Act.eval, slice_h hmc, slice_he hmc], fun e he => by have hm := mem_listed he; simp [go_sem, execOp, Act.eval, slice_h hmc, slice_he hmc] at hm⟩⟩) ?_
 walk_nrm
 refine anyM_all (r := [11]) (by kernel_rfl) (by kernel_rfl) (fun i hi hil => ?_)
 simp only [List.mem_cons, List.not_mem_nil, or_false] at hi
 subst hi
 refine opm_k rfl rfl (fun d K' hK' => ?_)
 go_simp
 refine hK' _ _ ⟨⟨⟨0, grew_alloc hU (show nn ≤ (w.at d).heap.size from hs.top) _⟩, fun e he => by (have hm := mem_listed he; simp [go_sem] at hm)⟩, (hs.at d).alloc _, ?_⟩
 clear hK' K'
 rw [alloc_at']
 refine anyM_at hS hZ _ _ _ _ ?_ d
 refine anyM_end (by kernel_rfl) ?_ _
 have hn := hs.top
 (refine oW fun dd K hK => ?_; go_simp; refine qS hK hU ?_; clear hK K)
 rw [set_new32]
 refine ogE ?_
 refine h _ ?_
 exact ⟨rfl, rfl, rfl, rfl, rfl, rfl, rfl, rfl, rfl, rfl, trivial⟩
end
noncomputable section
variable {w : World}
theorem mask_F0 (w : World) : mask F0 w = w := by
 have e : (mask F0 w).heap = w.heap := by
  apply Array.ext_getElem?
  intro r
  rw [mask_get]
  cases h : w.heap[r]? with
  | none => rfl
  | some o => cases o <;> rfl
 calc mask F0 w = { w with heap := (mask F0 w).heap } := rfl
  _ = w := by rw [e]
theorem under_F0 : Under F0 0 := fun r z h => by cases h
theorem wf_F0 (w : World) : Wf F0 w := ⟨fun r z h => by cases h⟩
theorem info117 : ∃ i, Try.prog.info? 117 = some i ∧ i.zero = some .nilFunc ∧ i.size = 1 ∧ i.bytes = 8 := by
 have h : (Try.prog.info? 117).map (fun i => (i.size, i.bytes)) = some (1, 8) := by kernel_rfl
 have h0 : (Try.prog.info? 117).bind (·.zero) = some .nilFunc := by kernel_rfl
 obtain ⟨i, hi, h1⟩ := Option.map_eq_some_iff.1 h
 rw [hi] at h0
 simp only [Prod.mk.injEq] at h1
 exact ⟨i, hi, h0, h1.1, h1.2⟩
def cl68 (ob db ib av : Nat) : Value := .func (.func 68) #[] #[.pointer (some ⟨ob, 0, none⟩), .pointer (some ⟨db, 0, none⟩), .pointer (some ⟨ib, 0, none⟩), .pointer (some ⟨av, 0, none⟩)]
set_option maxHeartbeats 8000000 in
theorem di_4 {ta : Option Addr} {tl tc n db av ib ob k base : Nat} {l : Value} {xs : List Value} (hk : k < 64) (hb : base ≤ w.heap.size) (hrow : w.ownsRow base 117 1 l k xs) {A : Array Value} (hA : Slots 38 A ((9, .pointer (some ⟨ib, 0, none⟩)) :: (10, .pointer (some ⟨ob, 0, none⟩)) :: [(0, .slice ta tl tc), (3, .pointer (some ⟨db, 0, none⟩)), (6, .int .i64 n), (7, .pointer (some ⟨av, 0, none⟩)), (8, l), (16, .int .i64 n), (17, .int .i64 k)])) {cs : List Frame} {main : Bool} {Stop : Goroutine → World → Prop}
  (h : ∀ (w' : World) (l' : Value) (A : Array Value), w'.ownsRow base 117 1 l' (k + 1) (xs ++ [cl68 ob db ib av]) → w.heap.size ≤ w'.heap.size → (∀ r, r < w.heap.size → some r ≠ Value.ownBlock l → w'.heap[r]? = w.heap[r]?) → Slots 38 A [(0, .slice ta tl tc), (3, .pointer (some ⟨db, 0, none⟩)), (6, .int .i64 n), (7, .pointer (some ⟨av, 0, none⟩)), (8, l'), (16, .int .i64 n), (17, .int .i64 (k + 1 : Nat))] → Own Try.prog main F0 Stop (G ((Go.Conc.base 61).at ⟨A, []⟩ [.code dis7, .inLoop dis7, .inBlock 0, .code dis12]) cs) w') :
  Own Try.prog main F0 Stop (G ((Go.Conc.base 61).at ⟨A, []⟩ [.code dir8, .inBlock 1, .code dir9, .inLoop dis7, .inBlock 0, .code dis12]) cs) w := by
 have hU := under_F0
 have hn : 0 ≤ w.heap.size := Nat.zero_le _
 have hk64 : IntKind.i64.wrap ((k : Int) + 1) = (k : Int) + 1 := IntWalk.i64_in _ (by omega)
 obtain ⟨hsz, h9, h10, h0, h3, h6, h7, h8, h16, h17, _⟩ := hA
 obtain ⟨s, rfl⟩ := diT_of hsz
 change s 9 = _ at h9
 change s 10 = _ at h10
 change s 0 = _ at h0
 change s 3 = _ at h3
 change s 6 = _ at h6
 change s 7 = _ at h7
 change s 8 = _ at h8
 change s 16 = _ at h16
 change s 17 = _ at h17
 clear hsz
 simp only [diT, h9, h10, h0, h3, h6, h7, h8, h16, h17]
 clear h9 h10 h0 h3 h6 h7 h8 h16 h17
 rw [dir8_eq]
 refine ogR ?_
 simp only [dio8, Code.opsOf, dir8, Code.piece, diBody, Try.f61, Option.getD_some, List.size_toArray, List.length_cons, List.length_nil, Nat.reduceAdd, Nat.zero_add, List.range, List.range.loop]
 iterate 2 (refine oW fun dd K hK => ?_; go_simp; refine qT hK ?_; clear hK K)
 (refine oW fun dd K hK => ?_; go_simp; refine qA hK hU ?_; clear hK K)
 have hrow2 := hrow.alloc (.cells #[cl68 ob db ib av] 117)
 have hcell := cell_one_new w (cl68 ob db ib av) 117
 have hsz : (w.alloc (.cells #[cl68 ob db ib av] 117)).heap.size = w.heap.size + 1 := by simp
 have hold : ∀ r, r < w.heap.size → (w.alloc (.cells #[cl68 ob db ib av] 117)).heap[r]? = w.heap[r]? := fun r hr => heap_alloc_lt _ _ hr
 change Own _ _ _ _ _ (w.alloc (.cells #[cl68 ob db ib av] 117))
 generalize w.alloc (.cells #[cl68 ob db ib av] 117) = W at hrow2 hcell hsz hold ⊢
 obtain ⟨i0, hi0, hz0, hz1, hz2⟩ := info117
 refine own_opm (by decide) ?_
 refine opm_lift (S' := fun _ => false) (px := false) (ready0.shut false) (by simp) rfl rfl rfl (wf_F0 _) (fun d => ?_)
 rw [mask_F0]
 obtain ⟨l', u, hr, hown, hgrow, _⟩ := run_append_own (P := Try.prog) (W.at d) base 127 127 117 i0 _ 1 8 Try.underlying127 hi0 hz0 hz1 hz2 rfl (by decide) l k xs hrow2 ⟨w.heap.size, 0, none⟩ 1 1 [cl68 ob db ib av] rfl
  hcell (fun q hq => by simp at hq; subst hq; rfl) (by unfold maxLen; omega) (by omega) (by show base ≤ W.heap.size; omega)
 refine ⟨l', u, run_append_op (.tmp 31) (.tmp 33) 127 rfl rfl rfl hr, fun w' hu hg hwf' => ?_⟩
 rw [mask_F0] at hu
 subst hu
 have hsz2 : W.heap.size ≤ u.heap.size := hgrow.size
 have hold2 : ∀ r, r < w.heap.size → some r ≠ Value.ownBlock l → u.heap[r]? = w.heap[r]? := fun r h1 h2 => (hgrow.block r (by show r < W.heap.size; omega) h2).trans (hold r h1)
 have hsz3 : w.heap.size ≤ u.heap.size := by omega
 clear hrow2 hcell hsz hold hr hgrow hsz2 hg hwf' hz0 hz1 hz2 hi0
 walk_nrm
 (refine oW fun dd K hK => ?_; go_simp; refine qT hK ?_; clear hK K)
 refine ogE ?_
 refine ogI ?_
 rw [dir9_eq]
 refine ogR ?_
 simp only [dio9, Code.opsOf, dir9, Code.piece, diBody, Try.f61, Option.getD_some, List.size_toArray, List.length_cons, List.length_nil, Nat.reduceAdd, Nat.zero_add, List.range, List.range.loop]
 iterate 2 (refine oW fun dd K hK => ?_; go_simp; refine qT hK ?_; clear hK K)
 refine ogE ?_
 refine ogL ?_
 refine h _ l' _ hown hsz3 hold2 ?_
 exact ⟨rfl, rfl, rfl, rfl, rfl, rfl, rfl, rfl, trivial⟩
end
noncomputable section
variable {w : World}
structure SV (av : Nat) (v : Value) (u : World) : Prop where
 c : u.cell? ⟨av, 0, none⟩ = some v
 z : u.frozen? ⟨av, 0, none⟩ = false
set_option maxHeartbeats 8000000 in
theorem di_6 {ta : Option Addr} {tl tc n db av : Nat} {l x : Value} (hs : SV av x w) {A : Array Value} (hA : Slots 38 A [(0, .slice ta tl tc), (3, .pointer (some ⟨db, 0, none⟩)), (6, .int .i64 n), (7, .pointer (some ⟨av, 0, none⟩)), (8, l), (16, .int .i64 n), (17, .int .i64 n)]) {c : Frame} {cs : List Frame} {Stop : Goroutine → World → Prop}
  (h : Own Try.prog true F0 Stop (G (c.finish (.tuple #[l, x])) cs) w) :
  Own Try.prog true F0 Stop (G ((Go.Conc.base 61).at ⟨A, []⟩ [.code dir10, .code .ret]) (c :: cs)) w := by
 obtain ⟨hsz, h0, h3, h6, h7, h8, h16, h17, _⟩ := hA
 obtain ⟨s, rfl⟩ := diT_of hsz
 change s 0 = _ at h0
 change s 3 = _ at h3
 change s 6 = _ at h6
 change s 7 = _ at h7
 change s 8 = _ at h8
 change s 16 = _ at h16
 change s 17 = _ at h17
 clear hsz
 simp only [diT, h0, h3, h6, h7, h8, h16, h17]
 clear h0 h3 h6 h7 h8 h16 h17
 have hS : ∀ u d, SV av x u → SV av x (World.at u d) := fun u d h => ⟨h.c, h.z⟩
 rw [dir10_eq]
 refine own_drawnM (SV av x) (last := 3) run_mixed (ll_of (by kernel_rfl)) (by decide) ?_
 simp only [dio10, Code.opsOf, dir10, Code.piece, diBody, Try.f61, Option.getD_some, List.size_toArray, List.length_cons, List.length_nil, Nat.reduceAdd, Nat.zero_add, List.range, List.range.loop]
 have hZ : ∀ a u d, Own Try.prog true F0 Stop (G ((Go.Conc.base 61).at a [.inRegion dio10 [3], .code .ret]) (c :: cs)) u → Own Try.prog true F0 Stop (G ((Go.Conc.base 61).at a [.inRegion dio10 [3], .code .ret]) (c :: cs)) (World.at u d) := fun a u d h => h.at d
 simp only [dio10, Code.opsOf, dir10, Code.piece, diBody, Try.f61, Option.getD_some, List.size_toArray, List.length_cons, List.length_nil, Nat.reduceAdd, Nat.zero_add, List.range, List.range.loop] at hZ
 refine anyM_take hS hZ (i := 0) (v := l) hs rfl rfl (by kernel_rfl) (by kernel_rfl) (by kernel_rfl) (fun u hu => .inl ⟨rfl, fun d => ⟨by simp [go_sem, execOp, Act.eval], fun e he => by have hm := mem_listed he; simp [go_sem, execOp, Act.eval] at hm⟩⟩) ?_
 walk_nrm
 refine anyM_take hS hZ (i := 1) (v := x) hs rfl rfl (by kernel_rfl) (by kernel_rfl) (by kernel_rfl) (fun u hu => .inl ⟨rfl, fun d => ⟨by simp [go_sem, execOp, Act.eval, hu.c, hu.z], fun e he => by have hm := mem_listed he; simp [go_sem, execOp, Act.eval, hu.c, hu.z] at hm; subst hm; exact evT_read _ _⟩⟩) ?_
 walk_nrm
 refine anyM_take hS hZ (i := 2) (v := l) hs rfl rfl (by kernel_rfl) (by kernel_rfl) (by kernel_rfl) (fun u hu => .inl ⟨rfl, fun d => ⟨by simp [go_sem, execOp, Act.eval], fun e he => by have hm := mem_listed he; simp [go_sem, execOp, Act.eval] at hm⟩⟩) ?_
 walk_nrm
 refine anyM_end (by kernel_rfl) ?_ _
 (refine oW fun dd K hK => ?_; go_simp; refine qT hK ?_; clear hK K)
 refine ogE ?_
 refine ogX ?_
 refine own_go rfl (fun d => stepG_leave (fn := Try.f61) (v := .tuple #[l, x]) rfl rfl Try.func61 (by simp [results, Try.f61, go_sem]) (by simp [results, Try.f61, go_sem])) ?_
 exact h
structure DI (w0 : World) (n k db aa av : Nat) (dv : Value) (oa : Nat → Option Addr) (m oc ib ob : Nat → Nat) (l : Value) (w : World) : Prop where
 size : w0.heap.size ≤ w.heap.size
 old : ∀ r, r < w0.heap.size → w.heap[r]? = w0.heap[r]?
 hdb : w.heap[db]? = some (.cells #[dv] 88 (0, 0))
 haa : w.heap[aa]? = some (.cells (madeCells #[.slice none 0 0] n) 84 (0, 0))
 hav : w.heap[av]? = some (.cells #[.slice (some ⟨aa, 0, none⟩) n n] 27 (0, 0))
 hib : ∀ j, j < k → w.heap[ib j]? = some (.cells #[.int .i64 j] 3 (0, 0))
 hob : ∀ j, j < k → w.heap[ob j]? = some (.cells #[.slice (oa j) (m j) (oc j)] 32 (0, 0))
 lo : ∀ j, j < k → w0.heap.size ≤ ib j ∧ w0.heap.size ≤ ob j
 new : w0.heap.size ≤ db ∧ w0.heap.size ≤ aa ∧ w0.heap.size ≤ av
 row : w.ownsRow w0.heap.size 117 1 l k ((List.range k).map fun j => cl68 (ob j) db (ib j) av)
theorem DI.same {w0 w w' : World} {n k db aa av : Nat} {dv : Value} {oa : Nat → Option Addr} {m oc ib ob : Nat → Nat} {l : Value} (h : DI w0 n k db aa av dv oa m oc ib ob l w) (hsz : w.heap.size ≤ w'.heap.size) (hs : ∀ r, r < w.heap.size → w'.heap[r]? = w.heap[r]?) : DI w0 n k db aa av dv oa m oc ib ob l w' := by
 have lt : ∀ {r : Nat} {o : Obj}, w.heap[r]? = some o → w'.heap[r]? = some o := fun hr => (hs _ (Array.getElem?_eq_some_iff.1 hr).1).trans hr
 exact ⟨Nat.le_trans h.size hsz, fun r hr => (hs r (Nat.lt_of_lt_of_le hr h.size)).trans (h.old r hr), lt h.hdb, lt h.haa, lt h.hav, fun j hj => lt (h.hib j hj), fun j hj => lt (h.hob j hj), h.lo, h.new, ownsRow_same2 h.row fun b hb _ => hs b (h.row.lt b hb).2⟩
theorem own_doing_loop {w0 : World} {tb o tl tc n db aa av : Nat} {dv : Value} (hntl : n ≤ tl) (hn64 : n ≤ 64) {oa : Nat → Option Addr} {ol m oc : Nat → Nat} (htb : 0 < n → tb < w0.heap.size) (hth : ∀ j, j < n → w0.cell? ⟨tb, o + j, none⟩ = some (.slice (oa j) (ol j) (oc j)) ∧ w0.frozen? ⟨tb, o + j, none⟩ = false ∧ ol j ≤ oc j ∧ min (ol j) 65536 = m j) {ta : Option Addr} (hta : 0 < n → ta = some ⟨tb, o, none⟩) {c : Frame} {cs : List Frame} {Stop : Goroutine → World → Prop}
  (K : ∀ w' l ib ob, DI w0 n n db aa av dv oa m oc ib ob l w' → Own Try.prog true F0 Stop (G (c.finish (.tuple #[l, .slice (some ⟨aa, 0, none⟩) n n])) cs) w') :
  ∀ (q k : Nat), k + q = n → ∀ (w : World) (l : Value) (ib ob : Nat → Nat) (A : Array Value), DI w0 n k db aa av dv oa m oc ib ob l w → Slots 38 A [(0, .slice ta tl tc), (3, .pointer (some ⟨db, 0, none⟩)), (6, .int .i64 n), (7, .pointer (some ⟨av, 0, none⟩)), (8, l), (16, .int .i64 n), (17, .int .i64 k)] →
   Own Try.prog true F0 Stop (G ((Go.Conc.base 61).at ⟨A, []⟩ [.code dis7, .inLoop dis7, .inBlock 0, .code dis12]) (c :: cs)) w := by
 intro q
 induction q with
 | zero =>
  intro k hk w l ib ob A hD hA
  obtain rfl : k = n := by omega
  refine di_5 hA fun A2 hA2 => ?_
  refine di_6 (x := .slice (some ⟨aa, 0, none⟩) k k) ⟨by simp [World.cell?, hD.hav], by simp [World.frozen?, hD.hav]⟩ hA2 ?_
  exact K w l ib ob hD
 | succ q ih =>
  intro k hk w l ib ob A hD hA
  have hkn : k < n := by omega
  obtain rfl := hta (by omega)
  obtain ⟨t1, t2, t3, t4⟩ := hth k hkn
  have htl := htb (by omega)
  have htb2 := hD.old tb htl
  have hsz0 := hD.size
  refine di_2 under_F0 (Nat.zero_le _) hkn hA fun A2 hA2 => ?_
  have e1 : ∀ r, r < w.heap.size → (w.alloc (.cells #[.int .i64 k] 3)).heap[r]? = w.heap[r]? := fun r hr => heap_alloc_lt _ _ hr
  have e2 := heap_alloc_new w (.cells #[.int .i64 k] 3)
  have e3 : (w.alloc (.cells #[.int .i64 k] 3)).heap.size = w.heap.size + 1 := by simp
  generalize w.alloc (.cells #[.int .i64 k] 3) = W1 at e1 e2 e3 ⊢
  rw [dis11_eq]
  refine ogS ?_
  have htb3 : W1.heap[tb]? = w0.heap[tb]? := (e1 tb (by omega)).trans htb2
  refine di_3 (nn := 0) (m := m k) under_F0 (by omega) t4 t3 ⟨Nat.zero_le _, by omega, by omega, by simp [World.cell?, e2], by simp [World.frozen?, e2], by rw [← t1]; unfold World.cell?; simp only [htb3], by rw [← t2]; unfold World.frozen?; simp only [htb3]⟩ hA2 fun A3 hA3 => ?_
  have f1 : ∀ r, r < W1.heap.size → (W1.alloc (.cells #[.slice (oa k) (m k) (oc k)] 32)).heap[r]? = W1.heap[r]? := fun r hr => heap_alloc_lt _ _ hr
  have f2 := heap_alloc_new W1 (.cells #[.slice (oa k) (m k) (oc k)] 32)
  have f3 : (W1.alloc (.cells #[.slice (oa k) (m k) (oc k)] 32)).heap.size = W1.heap.size + 1 := by simp
  generalize W1.alloc (.cells #[.slice (oa k) (m k) (oc k)] 32) = W2 at f1 f2 f3 ⊢
  have hD2 : DI w0 n k db aa av dv oa m oc ib ob l W2 := hD.same (by omega) fun r hr => (f1 r (by omega)).trans (e1 r hr)
  refine di_4 (base := w0.heap.size) (by omega) (by omega) hD2.row hA3 fun w' l' A4 g1 g2 g3 hA4 => ?_
  have hne : ∀ {r : Nat} {cc : Array Value} {t : TypeId}, W2.heap[r]? = some (.cells cc t (0, 0)) → t ≠ 117 → w'.heap[r]? = some (.cells cc t (0, 0)) := fun hr ht => (g3 _ (Array.getElem?_eq_some_iff.1 hr).1 (own_type hD2.row hr (fun e => ht e.symm))).trans hr
  have hold : ∀ r, r < w0.heap.size → w'.heap[r]? = w0.heap[r]? := fun r hr => (g3 r (by omega) (fun e => by
   have := (hD2.row.lt r e.symm).1; omega)).trans (hD2.old r hr)
  refine ih (k + 1) (by omega) w' l' (fun j => if j = k then w.heap.size else ib j) (fun j => if j = k then W1.heap.size else ob j) A4 ⟨by omega, hold, hne hD2.hdb (by decide), hne hD2.haa (by decide), hne hD2.hav (by decide), fun j hj => ?_, fun j hj => ?_, fun j hj => ?_, hD.new, ?_⟩ hA4
  ·by_cases e : j = k
   ·subst e
    simp only [if_true]
    exact hne ((f1 _ (by omega)).trans e2) (by decide)
   ·simp only [if_neg e]
    exact hne (hD2.hib j (by omega)) (by decide)
  ·by_cases e : j = k
   ·subst e
    simp only [if_true]
    exact hne f2 (by decide)
   ·simp only [if_neg e]
    exact hne (hD2.hob j (by omega)) (by decide)
  ·by_cases e : j = k
   ·subst e
    simp only [if_true]
    omega
   ·simp only [if_neg e]
    exact hD.lo j (by omega)
  ·have e5 : ((List.range (k + 1)).map fun j => cl68 (if j = k then W1.heap.size else ob j) db (if j = k then w.heap.size else ib j) av) = ((List.range k).map fun j => cl68 (ob j) db (ib j) av) ++ [cl68 W1.heap.size db w.heap.size av] := by
    rw [List.range_succ, List.map_append]
    congr 1
    ·apply List.map_congr_left
     intro j hj
     have : j < k := List.mem_range.1 hj
     simp only [if_neg (show ¬ j = k by omega)]
    ·simp
   rw [e5]
   exact g1
theorem own_doing {tb o tl tc n df : Nat} {first capt : Array Value} (hn1 : min tl 64 = n) {oa : Nat → Option Addr} {ol m oc : Nat → Nat} (htb : 0 < n → tb < w.heap.size) (hth : ∀ j, j < n → w.cell? ⟨tb, o + j, none⟩ = some (.slice (oa j) (ol j) (oc j)) ∧ w.frozen? ⟨tb, o + j, none⟩ = false ∧ ol j ≤ oc j ∧ min (ol j) 65536 = m j) {ta : Option Addr} (hta : 0 < n → ta = some ⟨tb, o, none⟩) {c : Frame} {cs : List Frame} {Stop : Goroutine → World → Prop}
  (K : ∀ w' l ib ob db aa av, DI w n n db aa av (.func (.func df) first capt) oa m oc ib ob l w' → Own Try.prog true F0 Stop (G (c.finish (.tuple #[l, .slice (some ⟨aa, 0, none⟩) n n])) cs) w') :
  Own Try.prog true F0 Stop (G (Frame.enter Try.prog 61 #[.slice ta tl tc, .func (.func df) first capt] .normal) (c :: cs)) w := by
 refine di_0 under_F0 (Nat.zero_le _) hn1 fun A hA => ?_
 refine di_1 under_F0 (Nat.zero_le _) (by omega) hA fun A2 hA2 => ?_
 have e1 : ∀ r, r < w.heap.size → (((w.alloc (.cells #[.func (.func df) first capt] 88)).alloc (.cells (madeCells #[.slice none 0 0] n) 84)).alloc (.cells #[.slice (some ⟨(w.alloc (.cells #[.func (.func df) first capt] 88)).heap.size, 0, none⟩) n n] 27)).heap[r]? = w.heap[r]? := fun r hr => by
  rw [heap_alloc_lt _ _ (by simp; omega), heap_alloc_lt _ _ (by simp; omega), heap_alloc_lt _ _ hr]
 refine own_doing_loop (w0 := w) (n := n) (tl := tl) (dv := .func (.func df) first capt) (oa := oa) (ol := ol) (m := m) (oc := oc) (tb := tb) (o := o) (db := w.heap.size) (aa := w.heap.size + 1) (av := w.heap.size + 2) (by omega) (by omega) htb hth hta (fun w' l ib ob hD => K w' l ib ob _ _ _ hD) n 0 (by omega) _ (.slice none 0 0) (fun _ => 0) (fun _ => 0) A2 ⟨by simp; omega, e1, ?_, ?_, ?_, fun j hj => by omega, fun j hj => by omega, fun j hj => by omega, ⟨by omega, by omega, by omega⟩, World.ownsRow_nil _ _ _ _⟩ (by simpa using hA2)
 ·rw [heap_alloc_lt _ _ (by simp; omega), heap_alloc_lt _ _ (by simp)]
  exact heap_alloc_new _ _
 ·have := heap_alloc_new (w.alloc (.cells #[.func (.func df) first capt] 88)) (.cells (madeCells #[.slice none 0 0] n) 84)
  rw [heap_alloc_lt _ _ (by simp)]
  simpa using this
 ·have := heap_alloc_new ((w.alloc (.cells #[.func (.func df) first capt] 88)).alloc (.cells (madeCells #[.slice none 0 0] n) 84)) (.cells #[.slice (some ⟨(w.alloc (.cells #[.func (.func df) first capt] 88)).heap.size, 0, none⟩) n n] 27)
  simpa using this
end
noncomputable section
variable {F : Fz} {w : World}
theorem built29 (a b c : Option Addr) (n m k l : Nat) (s : Bool) : Try.prog.built 29 [(0, .slice a n m), (1, .slice b k l), (3, .bool s)] = some #[.slice a n m, .slice b k l, .slice none 0 0, .bool s] := by kernel_rfl
@[go_sem] theorem run_build29 (a b : Option Addr) (n m k l : Nat) (s : Bool) (w : World) : (Instr.build 29 #[(0, .slice a n m), (1, .slice b k l), (3, .bool s)]).run Try.prog w = .ok (.agg #[.slice a n m, .slice b k l, .slice none 0 0, .bool s]) w := run_build w _ _ _ (built29 a b a n m k l s)
@[go_sem] theorem ev_build29 (a b : Option Addr) (n m k l : Nat) (s : Bool) (w : World) (es : Array Event) : (Instr.build 29 #[(0, .slice a n m), (1, .slice b k l), (3, .bool s)]).events Try.prog w es = es := ev_build w es _ _ _ _ Try.underlying29 (built29 a b a n m k l s)
def trW (w : World) (tb : Nat) (a b c d : Value) : World := (((w.setCell ⟨tb, 0, none⟩ a).setCell ⟨tb, 1, none⟩ b).setCell ⟨tb, 2, none⟩ c).setCell ⟨tb, 3, none⟩ d
structure TrAt (w : World) (tb : Nat) (a b c d : Value) : Prop where
 o : w.heap[tb]? = some (.cells #[a, b, c, d] 29 (0, 0))
section
variable {tb : Nat} {a b c d : Value}
theorem TrAt.at (h : TrAt w tb a b c d) (e : Nat) : TrAt (w.at e) tb a b c d := ⟨h.o⟩
theorem TrAt.c0 (h : TrAt w tb a b c d) : w.cell? ⟨tb, 0, none⟩ = some a := by simp [World.cell?, h.o]
theorem TrAt.c1 (h : TrAt w tb a b c d) : w.cell? ⟨tb, 1, none⟩ = some b := by simp [World.cell?, h.o]
theorem TrAt.c2 (h : TrAt w tb a b c d) : w.cell? ⟨tb, 2, none⟩ = some c := by simp [World.cell?, h.o]
theorem TrAt.c3 (h : TrAt w tb a b c d) : w.cell? ⟨tb, 3, none⟩ = some d := by simp [World.cell?, h.o]
theorem TrAt.z (h : TrAt w tb a b c d) (k : Nat) : w.frozen? ⟨tb, k, none⟩ = false := by simp [World.frozen?, h.o]
theorem TrAt.put (h : TrAt w tb a b c d) (a' b' c' d' : Value) : TrAt (trW w tb a' b' c' d') tb a' b' c' d' := by
 constructor
 unfold trW
 rw [heap_setCell_eq (heap_setCell_eq (heap_setCell_eq (heap_setCell_eq h.o _) _) _) _]
 rfl
end
def opBody : Code := Try.f37.body.getD .skip
def ops0 : Code := Code.piece [] opBody
def opr0 : Code := Code.piece [true] opBody
def opo0 : Array Oper := Code.opsOf opr0
def ops1 : Code := Code.piece [false] opBody
def opr1 : Code := Code.piece [false, true] opBody
def opo1 : Array Oper := Code.opsOf opr1
def ops2 : Code := Code.piece [false, false] opBody
def opr2 : Code := Code.piece [false, false, true] opBody
def opo2 : Array Oper := Code.opsOf opr2
def ops3 : Code := Code.piece [false, false, false] opBody
def opr3 : Code := Code.piece [false, false, false, true] opBody
def opo3 : Array Oper := Code.opsOf opr3
theorem ops0_eq : ops0 = .seq opr0 ops1 := by kernel_rfl
theorem opr0_eq : opr0 = .region 0 opo0 false := by kernel_rfl
theorem ops1_eq : ops1 = .seq opr1 ops2 := by kernel_rfl
theorem opr1_eq : opr1 = .region 1 opo1 false := by kernel_rfl
theorem ops2_eq : ops2 = .seq opr2 ops3 := by kernel_rfl
theorem opr2_eq : opr2 = .region 2 opo2 false := by kernel_rfl
theorem ops3_eq : ops3 = .seq opr3 .ret := by kernel_rfl
theorem opr3_eq : opr3 = .region 3 opo3 false := by kernel_rfl
theorem enter_op (args : Array Value) : Frame.enter Try.prog 37 args .normal = (Go.Conc.base 37).at { tmps := args ++ Array.replicate (32 - args.size) undef, defers := [] } [.code ops0] := enter_at args Try.func37 rfl
theorem callable37 : Callable 37 := callable Try.func37 rfl rfl
def opT (s : Nat → Value) : Array Value := #[s 0, s 1, s 2, s 3, s 4, s 5, s 6, s 7, s 8, s 9, s 10, s 11, s 12, s 13, s 14, s 15, s 16, s 17, s 18, s 19, s 20, s 21, s 22, s 23, s 24, s 25, s 26, s 27, s 28, s 29, s 30, s 31]
theorem opT_of {A : Array Value} (h : A.size = 32) : ∃ s, A = opT s := by
 obtain ⟨s, hs, _⟩ := arr_lit A h
 exact ⟨s, hs⟩
theorem op_0 {n : Nat} (hU : Under F n) (hn : n ≤ w.heap.size) {ta sa : Option Addr} {tl tc sl sc : Nat} {dv : Value} {mo : Int} {cs : List Frame} {main : Bool} {Stop : Goroutine → World → Prop}
  (h : ∀ A, Slots 32 A [(0, .slice ta tl tc), (1, dv), (2, .slice sa sl sc), (3, .int .i64 mo), (8, .pointer (some ⟨w.heap.size, 0, none⟩))] → Own Try.prog main F Stop (G (Frame.enter Try.prog 61 #[.slice ta tl tc, dv] .normal) (((Go.Conc.base 37).at ⟨A, []⟩ [.inRegion opo1 [2, 3, 4, 5, 6, 7], .code ops2]) :: cs)) (w.alloc (.cells #[.slice none 0 0, .slice none 0 0, .slice none 0 0, .bool false] 29))) :
  Own Try.prog main F Stop (G (Frame.enter Try.prog 37 #[.slice ta tl tc, dv, .slice sa sl sc, .int .i64 mo] .normal) cs) w := by
 rw [enter_op]
 walk_nrm
 rw [ops0_eq]
 refine ogS ?_
 rw [opr0_eq]
 refine ogR ?_
 simp only [opo0, Code.opsOf, opr0, Code.piece, opBody, Try.f37, Option.getD_some, List.size_toArray, List.length_cons, List.length_nil, Nat.reduceAdd, Nat.zero_add, List.range, List.range.loop]
 (refine oW fun dd K hK => ?_; go_simp; refine qA hK hU ?_; clear hK K)
 refine ogE ?_
 rw [ops1_eq]
 refine ogS ?_
 rw [opr1_eq]
 refine ogR ?_
 simp only [opo1, Code.opsOf, opr1, Code.piece, opBody, Try.f37, Option.getD_some, List.size_toArray, List.length_cons, List.length_nil, Nat.reduceAdd, Nat.zero_add, List.range, List.range.loop]
 iterate 2 (refine oW fun dd K hK => ?_; go_simp; refine qT hK ?_; clear hK K)
 refine oc callable61 #[.slice ta tl tc, dv] ?_
 refine h _ ?_
 exact ⟨rfl, rfl, rfl, rfl, rfl, rfl, trivial⟩
theorem op_1 {ta sa : Option Addr} {tl tc sl sc tb : Nat} {dv l an : Value} {mo : Int} {A : Array Value} (hA : Slots 32 A [(0, .slice ta tl tc), (1, dv), (2, .slice sa sl sc), (3, .int .i64 mo), (8, .pointer (some ⟨tb, 0, none⟩))]) {cs : List Frame} {main : Bool} {Stop : Goroutine → World → Prop}
  (h : ∀ A, Slots 32 A [(8, .pointer (some ⟨tb, 0, none⟩)), (10, an)] → Own Try.prog main F Stop (G (Frame.enter Try.prog 62 #[l, .slice sa sl sc, .int .i64 mo] .normal) (((Go.Conc.base 37).at ⟨A, []⟩ [.inRegion opo2 [3, 4, 5, 6, 7, 8, 9, 10], .code ops3]) :: cs)) w) :
  Own Try.prog main F Stop (G (((Go.Conc.base 37).at ⟨A, []⟩ [.inRegion opo1 [2, 3, 4, 5, 6, 7], .code ops2]).finish (.tuple #[l, an])) cs) w := by
 obtain ⟨hsz, h0, h1, h2, h3, h8, _⟩ := hA
 obtain ⟨s, rfl⟩ := opT_of hsz
 change s 0 = _ at h0
 change s 1 = _ at h1
 change s 2 = _ at h2
 change s 3 = _ at h3
 change s 8 = _ at h8
 clear hsz
 simp only [opT, h0, h1, h2, h3, h8]
 clear h0 h1 h2 h3 h8
 rw [Frame.finish_at]
 simp only [opo1, Code.opsOf, opr1, Code.piece, opBody, Try.f37, Option.getD_some, List.size_toArray, List.length_cons, List.length_nil, Nat.reduceAdd, Nat.zero_add, List.range, List.range.loop]
 walk_nrm
 iterate 5 (refine oW fun dd K hK => ?_; go_simp; refine qT hK ?_; clear hK K)
 refine ogE ?_
 rw [ops2_eq]
 refine ogS ?_
 rw [opr2_eq]
 refine ogR ?_
 simp only [opo2, Code.opsOf, opr2, Code.piece, opBody, Try.f37, Option.getD_some, List.size_toArray, List.length_cons, List.length_nil, Nat.reduceAdd, Nat.zero_add, List.range, List.range.loop]
 iterate 3 (refine oW fun dd K hK => ?_; go_simp; refine qT hK ?_; clear hK K)
 refine oc callable62 #[l, .slice sa sl sc, .int .i64 mo] ?_
 refine h _ ?_
 exact ⟨rfl, rfl, rfl, trivial⟩
theorem op_2 {tb : Nat} {x0 x1 x2 x3 : Value} (hT : TrAt w tb x0 x1 x2 x3) (hnh : ∀ k, ¬ held F ⟨tb, k, none⟩) {aa oa : Option Addr} {al ac ol oc : Nat} {st : Bool} {bv : Value} {A : Array Value} (hA : Slots 32 A [(8, .pointer (some ⟨tb, 0, none⟩)), (10, .slice aa al ac)]) {c : Frame} {cs : List Frame} {main : Bool} {Stop : Goroutine → World → Prop}
  (h : Own Try.prog main F Stop (G (c.finish (.agg #[.slice aa al ac, .slice oa ol oc, .slice none 0 0, .bool st])) cs) (trW w tb (.slice aa al ac) (.slice oa ol oc) (.slice none 0 0) (.bool st))) :
  Own Try.prog main F Stop (G (((Go.Conc.base 37).at ⟨A, []⟩ [.inRegion opo2 [3, 4, 5, 6, 7, 8, 9, 10], .code ops3]).finish (.tuple #[.slice oa ol oc, .bool st, bv])) (c :: cs)) w := by
 obtain ⟨hsz, h8, h10, _⟩ := hA
 obtain ⟨s, rfl⟩ := opT_of hsz
 change s 8 = _ at h8
 change s 10 = _ at h10
 clear hsz
 simp only [opT, h8, h10]
 clear h8 h10
 rw [Frame.finish_at]
 simp only [opo2, Code.opsOf, opr2, Code.piece, opBody, Try.f37, Option.getD_some, List.size_toArray, List.length_cons, List.length_nil, Nat.reduceAdd, Nat.zero_add, List.range, List.range.loop]
 walk_nrm
 iterate 7 (refine oW fun dd K hK => ?_; go_simp; refine qT hK ?_; clear hK K)
 refine ogE ?_
 rw [ops3_eq]
 refine ogS ?_
 rw [opr3_eq]
 refine ogR ?_
 simp only [opo3, Code.opsOf, opr3, Code.piece, opBody, Try.f37, Option.getD_some, List.size_toArray, List.length_cons, List.length_nil, Nat.reduceAdd, Nat.zero_add, List.range, List.range.loop]
 iterate 4 (refine oW fun dd K hK => ?_; go_simp; refine qT hK ?_; clear hK K)
 (refine oW fun dd K hK => ?_; have hc0 := (hT.at dd).c0; have hc1 := (hT.at dd).c1; have hc2 := (hT.at dd).c2; have hc3 := (hT.at dd).c3; have hz0 := (hT.at dd).z; go_simp; refine hK _ _ ⟨⟨⟨0, grew4 (fun k => hnh k) _ _ _ _⟩, fun e he => by (have hm := mem_listed he; clear he hK; simp [go_sem, storedEv, hc0, hc1, hc2, hc3, hz0] at hm; rcases hm with rfl | rfl | rfl | rfl <;> exact evT_write _ _ ((fun k => hnh k) _))⟩, ?_⟩; clear hK K hc0 hc1 hc2 hc3 hz0; simp only [setCell_at']; refine Own.at ?_ dd)
 refine ogE ?_
 refine ogX ?_
 have hT2 := hT.put (.slice aa al ac) (.slice oa ol oc) (.slice none 0 0) (.bool st)
 change Own _ _ _ _ _ (trW w tb (.slice aa al ac) (.slice oa ol oc) (.slice none 0 0) (.bool st))
 generalize trW w tb (.slice aa al ac) (.slice oa ol oc) (.slice none 0 0) (.bool st) = W at hT2 h ⊢
 have hc0 := hT2.c0
 have hc1 := hT2.c1
 have hc2 := hT2.c2
 have hc3 := hT2.c3
 have hz0 := hT2.z
 refine own_leave (fn := Try.f37) (v := .agg #[.slice aa al ac, .slice oa ol oc, .slice none 0 0, .bool st]) rfl rfl Try.func37 (fun d => by simp [results, Try.f37, go_sem, hc0, hc1, hc2, hc3, hz0]) (fun d e he => by simp [results, Try.f37, go_sem, hc0, hc1, hc2, hc3, hz0] at he; rcases he with rfl | rfl | rfl | rfl <;> exact evT_read _ _) ?_
 exact h
end
noncomputable section
variable {w w' : World} {L : Lay}
open Classical in
def IW (w : World) (N : Nat → Prop) : Nat → Option Obj := fun r => if N r then none else match w.heap[r]? with
 | some (.cells c e z) => some (.cells c e z)
 | _ => none
theorem iw_mem {N : Nat → Prop} {r : Nat} (h : N r) : IW w N r = none := if_pos h
theorem iw_cells {N : Nat → Prop} {r : Nat} {c : Array Value} {e : TypeId} {z : Nat × Nat} (h : ¬ N r) (ho : w.heap[r]? = some (.cells c e z)) : IW w N r = some (.cells c e z) := by
 unfold IW
 rw [if_neg h, ho]
theorem iw_some {N : Nat → Prop} {r : Nat} {o : Obj} (h : IW w N r = some o) : ¬ N r ∧ w.heap[r]? = some o ∧ ∃ c e z, o = .cells c e z := by
 unfold IW at h
 split at h
 ·cases h
 ·rename_i hm
  split at h
  ·rename_i c e z ho
   cases h
   exact ⟨hm, ho, c, e, z, rfl⟩
  ·cases h
theorem madeCells_nil (n j : Nat) (h : j < n) : (madeCells #[Value.slice none 0 0] n)[j]? = some (.slice none 0 0) := by
 simp [madeCells, h, Nat.mod_one]
theorem madeCells_size (n : Nat) (v : Value) : (madeCells #[v] n).size = n := by
 simp [madeCells]
def x00 (s0 : L.S) : OX L := ⟨s0, fun _ => ⟨0, none, [], .slice none 0 0⟩⟩
theorem tr00 {r : Nat} : ¬ TR (⟨0, none, [], .slice none 0 0⟩ : Thr L) r := by
 rintro (h | ⟨a, ha, _⟩ | ⟨c, A, ab, h, _⟩)
 ·cases h
 ·cases ha
 ·cases h
def pOf (L : Lay) (s0 : L.S) (W : World) (n db aa av : Nat) (ib ob : Nat → Nat) (oa : Nat → Option Addr) (oc : Nat → Nat) (ops : Nat → List Op4) : Par :=
 ⟨n, aa, av, db, ib, ob, ops, oa, oc, IW W (fun r => r = aa ∨ L.SR s0 r)⟩
theorem pof_cells {s0 : L.S} {W : World} {n db aa av : Nat} {ib ob : Nat → Nat} {oa : Nat → Option Addr} {oc : Nat → Nat} {ops : Nat → List Op4} {r : Nat} {c : Array Value} {e : TypeId} {z : Nat × Nat} (h : ¬ (r = aa ∨ L.SR s0 r)) (ho : W.heap[r]? = some (.cells c e z)) : (pOf L s0 W n db aa av ib ob oa oc ops).I r = some (.cells c e z) := by
 exact iw_cells (w := W) (N := fun r => r = aa ∨ L.SR s0 r) h ho
theorem pof_some {s0 : L.S} {W : World} {n db aa av : Nat} {ib ob : Nat → Nat} {oa : Nat → Option Addr} {oc : Nat → Nat} {ops : Nat → List Op4} {r : Nat} {o : Obj} (h : (pOf L s0 W n db aa av ib ob oa oc ops).I r = some o) : ¬ (r = aa ∨ L.SR s0 r) ∧ W.heap[r]? = some o ∧ ∃ c e z, o = .cells c e z := by
 exact iw_some (w := W) (N := fun r => r = aa ∨ L.SR s0 r) h
theorem pof_mem {s0 : L.S} {W : World} {n db aa av : Nat} {ib ob : Nat → Nat} {oa : Nat → Option Addr} {oc : Nat → Nat} {ops : Nat → List Op4} {r : Nat} (h : r = aa ∨ L.SR s0 r) : (pOf L s0 W n db aa av ib ob oa oc ops).I r = none := by
 exact iw_mem (w := W) (N := fun r => r = aa ∨ L.SR s0 r) h
section
variable {s0 : L.S} {W w0 : World} {n db aa av tb o tl : Nat} {ib ob : Nat → Nat} {oa : Nat → Option Addr} {ol oc m : Nat → Nat} {ops : Nat → List Op4} {ta sa : Option Addr} {S : List Int} {l : Value}
theorem di_type {dv : Value} (hL : L.Ok) (hsu : L.SU s0 w0) (hD : DI w0 n n db aa av dv oa m oc ib ob l W) {r : Nat} {c : Array Value} {e : TypeId} {z : Nat × Nat} (ho : W.heap[r]? = some (.cells c e z)) (h84 : e ≠ 84) (hr : w0.heap.size ≤ r) : ¬ (r = aa ∨ L.SR s0 r) := by
 rintro (rfl | h)
 ·rw [hD.haa] at ho
  cases ho
  exact h84 rfl
 ·have := hL.lS _ _ _ hsu h
  omega
theorem pof_ok (hL : L.Ok) (hsu : L.SU s0 w0) (hI : OpsIn w0 (L.SR s0) n tb o tl ta oa ol oc ops S sa) (hD : DI w0 n n db aa av (.func (.func L.df) L.first L.capt) oa (fun j => (ops j).length) oc ib ob l W) : (pOf L s0 W n db aa av ib ob oa oc ops).Ok L where
 cells := fun r o h => (pof_some h).2.2
 len := fun i hi => by
  have : (ops i).length = min (ol i) 65536 := hI.hlen i hi
  show (ops i).length ≤ 65536
  omega
 inI := ⟨by
  show (pOf L s0 W n db aa av ib ob oa oc ops).I av ≠ none
  rw [pof_cells (di_type hL hsu hD hD.hav (by decide) hD.new.2.2) hD.hav]; simp, fun i hi => by
  show (pOf L s0 W n db aa av ib ob oa oc ops).I (ib i) ≠ none
  rw [pof_cells (di_type hL hsu hD (hD.hib i hi) (by decide) (hD.lo i hi).1) (hD.hib i hi)]; simp⟩
 av := fun u hu => ⟨⟨_, _, hu _ _ (pof_cells (di_type hL hsu hD hD.hav (by decide) hD.new.2.2) hD.hav), rfl⟩, rfl⟩
 db := fun u hu => ⟨⟨_, _, hu _ _ (pof_cells (di_type hL hsu hD hD.hdb (by decide) hD.new.1) hD.hdb), rfl⟩, rfl⟩
 ib := fun u hu i hi => ⟨⟨_, _, hu _ _ (pof_cells (di_type hL hsu hD (hD.hib i hi) (by decide) (hD.lo i hi).1) (hD.hib i hi)), rfl⟩, rfl⟩
 ob := fun u hu i hi => ⟨⟨_, _, hu _ _ (pof_cells (di_type hL hsu hD (hD.hob i hi) (by decide) (hD.lo i hi).2) (hD.hob i hi)), rfl⟩, rfl⟩
 op := fun u hu i hi k x hx => by
  obtain ⟨opb, oo, h1, h2, f0, f1, f2, f3, g0, g1, g2, g3⟩ := hI.hop i hi k x hx
  obtain ⟨c, e, z, ho⟩ := cell_block f0
  simp only at ho
  have hlt := (Array.getElem?_eq_some_iff.1 ho).1
  have hW := (hD.old opb hlt).trans ho
  have hN : ¬ (opb = aa ∨ L.SR s0 opb) := by
   rintro (h | h)
   ·have := hD.new.2.1; omega
   ·exact h2 h
  have hU := hu _ _ (pof_cells hN hW)
  have e1 : u.heap[opb]? = w0.heap[opb]? := hU.trans ho.symm
  have ec : ∀ k, u.cell? ⟨opb, k, none⟩ = w0.cell? ⟨opb, k, none⟩ := fun k => by unfold World.cell?; simp only [e1]
  have ez : ∀ k, u.frozen? ⟨opb, k, none⟩ = w0.frozen? ⟨opb, k, none⟩ := fun k => by unfold World.frozen?; simp only [e1]
  exact ⟨opb, oo, h1, (ec _).trans f0, (ec _).trans f1, (ec _).trans f2, (ec _).trans f3, (ez _).trans g0, (ez _).trans g1, (ez _).trans g2, (ez _).trans g3⟩
theorem ou_first {g : Gate} (hL : L.Ok) (hsu : L.SU s0 w0) (hD : DI w0 n n db aa av (.func (.func L.df) L.first L.capt) oa (fun j => (ops j).length) oc ib ob l W) : OU L (pOf L s0 W n db aa av ib ob oa oc ops) g (x00 s0) W where
 fix := fun r o h => (pof_some h).2.1
 su := hL.sS _ _ _ hsu hD.size fun r hr => hD.old r (hL.lS _ _ _ hsu hr)
 arr := ⟨_, hD.haa, madeCells_size _ _, fun i hi => madeCells_nil _ _ hi⟩
 thr := fun i hi => ⟨World.ownsRow_nil _ _ _ _, fun a ha => (by cases ha), rfl, Nat.zero_le _, fun a ha => (by cases ha), fun c A ab h => (by cases h)⟩
 ts := fun i hi r hr => absurd hr tr00
 sa := fun h => by
  have := hL.lS _ _ _ hsu h
  have h2 := hD.new.2.1
  show False
  have h3 : (pOf L s0 W n db aa av ib ob oa oc ops).aa = aa := rfl
  omega
 jj := fun i hi c A ab h => (by cases h)
 tt := fun i j hi hj hne r hr => absurd hr tr00
 inone := by
  rintro r (h | h | ⟨i, hi, h⟩)
  ·exact pof_mem (.inr h)
  ·exact pof_mem (.inl h)
  ·exact absurd h tr00
end
end
noncomputable section
variable {An : Anchor} {w w' : World} {L : Lay}
theorem OpsIn.alloc {N : Nat → Prop} {n tb o tl : Nat} {ta : Option Addr} {oa : Nat → Option Addr} {ol oc : Nat → Nat} {ops : Nat → List Op4} {S : List Int} {sa : Option Addr} (h : OpsIn w N n tb o tl ta oa ol oc ops S sa) (ob : Obj) : OpsIn (w.alloc ob) N n tb o tl ta oa ol oc ops S sa := by
 refine ⟨h.hn, h.hta, fun hp => by have := h.htb hp; simp; omega, fun j hj => ?_, h.hlen, fun j hj k x hx => ?_, h.hsl, fun hp => ?_⟩
 ·obtain ⟨h1, h2, h3⟩ := h.hth j hj
  exact ⟨(cellB_alloc h1 ob).1, (cellB_alloc h1 ob).2.trans h2, h3⟩
 ·obtain ⟨opb, oo, h1, h2, f0, f1, f2, f3, g0, g1, g2, g3⟩ := h.hop j hj k x hx
  exact ⟨opb, oo, h1, h2, (cellB_alloc f0 ob).1, (cellB_alloc f1 ob).1, (cellB_alloc f2 ob).1, (cellB_alloc f3 ob).1, (cellB_alloc f0 ob).2.trans g0, (cellB_alloc f1 ob).2.trans g1, (cellB_alloc f2 ob).2.trans g2, (cellB_alloc f3 ob).2.trans g3⟩
 ·obtain ⟨sb, so, c, e, z, h1, h2, h3, h4⟩ := h.hS hp
  exact ⟨sb, so, c, e, z, h1, h2, (heap_alloc_lt _ _ (Array.getElem?_eq_some_iff.1 h3).1).trans h3, h4⟩
def Par.re (p : Par) (I : Nat → Option Obj) : Par := ⟨p.n, p.aa, p.av, p.db, p.ib, p.ob, p.ops, p.oa, p.oc, I⟩
theorem ThrU.re {p : Par} {I : Nat → Option Obj} {st i : Nat} {t : Thr L} (h : ThrU L p st i t w) : ThrU L (p.re I) st i t w := ⟨h.row, h.au, h.al, h.kl, h.ar, h.call⟩
theorem OU.re {p : Par} {g : Gate} {x : OX L} (h : OU L p g x w) {I : Nat → Option Obj} (hI : ∀ r o, I r = some o → p.I r = some o) : OU L (p.re I) g x w :=
 ⟨fun r o e => h.fix r o (hI r o e), h.su, h.arr, fun i hi => (h.thr i hi).re, h.ts, h.sa, h.jj, h.tt, fun r hr => by
  cases e : I r with
  | none => exact e
  | some o =>
   have := h.inone r hr
   rw [hI r o e] at this
   cases this⟩
theorem bes_ops (hL : L.Ok) {s0 : L.S} (hsu : L.SU s0 w) {n tb o tl tc sc M : Nat} {mo : Int} {ta sa : Option Addr} {oa : Nat → Option Addr} {ol oc : Nat → Nat} {ops : Nat → List Op4} {S : List Int} (hI : OpsIn w (L.SR s0) n tb o tl ta oa ol oc ops S sa) (hM : min (max mo 0) 1048576 = (M : Int)) {c : Frame} {cs : List Frame} {Stop : Goroutine → World → Prop}
  (hk : ∀ (g : Gate) (p p' : Par) (t : OX L × List Nat) (w' : World) (oa' : Option Addr) (oc' : Nat), g.n = n → p.n = n → p.ops = ops → (opsUsers L p g).Ok g → OverRel (opsUsers L p g) n M S (x00 s0) t → p'.n = n → p'.ops = ops → p'.aa = p.aa → OU L p' g t.1 w' →
   w'.ownsRow w.heap.size 3 1 (.slice oa' t.2.length oc') t.2.length (t.2.map fun i : Nat => Value.int .i64 i) → (∀ y, oa' = some y → ¬ OR L p' t.1 y.block) → w.heap.size ≤ w'.heap.size → (∀ r c e z, w.heap[r]? = some (.cells c e z) → ¬ L.SR s0 r → w'.heap[r]? = some (.cells c e z)) →
   Bes An Try.prog Stop (G (c.finish (.agg #[.slice (some ⟨p.aa, 0, none⟩) n n, .slice oa' t.2.length oc', .slice none 0 0, .bool (decide (0 < cnt ((opsUsers L p g).liv t.1) n))])) cs) w') :
  Bes An Try.prog Stop (G (Frame.enter Try.prog 37 #[.slice ta tl tc, .func (.func L.df) L.first L.capt, .slice sa S.length sc, .int .i64 mo] .normal) (c :: cs)) w := by
 have hw0 : ∀ r, r < w.heap.size → (w.alloc (.cells #[.slice none 0 0, .slice none 0 0, .slice none 0 0, .bool false] 29)).heap[r]? = w.heap[r]? := fun r hr => heap_alloc_lt _ _ hr
 have hs0 : (w.alloc (.cells #[.slice none 0 0, .slice none 0 0, .slice none 0 0, .bool false] 29)).heap.size = w.heap.size + 1 := by simp
 have htr : TrAt (w.alloc (.cells #[.slice none 0 0, .slice none 0 0, .slice none 0 0, .bool false] 29)) w.heap.size (.slice none 0 0) (.slice none 0 0) (.slice none 0 0) (.bool false) := ⟨heap_alloc_new _ _⟩
 have hI0 := hI.alloc (.cells #[.slice none 0 0, .slice none 0 0, .slice none 0 0, .bool false] 29)
 refine bes_own (F := F0) (Stop := fun a u => ∃ A l ib ob db aa av, a = G (Frame.enter Try.prog 62 #[l, .slice sa S.length sc, .int .i64 mo] .normal) (((Go.Conc.base 37).at ⟨A, []⟩ [.inRegion opo2 [3, 4, 5, 6, 7, 8, 9, 10], .code ops3]) :: c :: cs) ∧
   DI (w.alloc (.cells #[.slice none 0 0, .slice none 0 0, .slice none 0 0, .bool false] 29)) n n db aa av (.func (.func L.df) L.first L.capt) oa (fun j => (ops j).length) oc ib ob l u ∧ Slots 32 A [(8, .pointer (some ⟨w.heap.size, 0, none⟩)), (10, .slice (some ⟨aa, 0, none⟩) n n)])
  (op_0 under_F0 (Nat.zero_le _) fun A hA => own_doing hI0.hn hI0.htb (fun j hj => ⟨(hI0.hth j hj).1, (hI0.hth j hj).2.1, (hI0.hth j hj).2.2, (hI0.hlen j hj).symm⟩) hI0.hta fun w1 l ib ob db aa av hD => op_1 hA fun A2 hA2 => .stop fun d => ⟨A2, l, ib, ob, db, aa, av, rfl, hD.same (Nat.le_refl _) fun _ _ => rfl, hA2⟩) fun a W hS => ?_
 obtain ⟨A, l, ib, ob, db, aa, av, rfl, hD, hA⟩ := hS
 generalize w.alloc (.cells #[.slice none 0 0, .slice none 0 0, .slice none 0 0, .bool false] 29) = w0 at hw0 hs0 htr hI0 hD
 have hsu0 : L.SU s0 w0 := hL.sS _ _ _ hsu (by omega) fun r hr => hw0 r (hL.lS _ _ _ hsu hr)
 have hpok := pof_ok hL hsu0 hI0 hD
 have hn64 : n ≤ 64 := by have := hI.hn; omega
 have hU1 : ∀ g, OU L (pOf L s0 W n db aa av ib ob oa oc ops) g (x00 s0) W := fun g => ou_first hL hsu0 hD
 have hsrlt : ∀ r, L.SR s0 r → r < w.heap.size := fun r hr => hL.lS _ _ _ hsu hr
 have hDs := hD.size
 have hDn := hD.new
 obtain ⟨la, lc, rfl, hla⟩ : ∃ la lc, l = .slice la n lc ∧ (0 < n → ∃ lb cur, la = some ⟨lb, 0, none⟩ ∧ w0.heap.size ≤ lb ∧ W.heap[lb]? = some (.cells cur 117 (0, 0)) ∧ cur.toList.take n = (List.range n).map fun j => cl68 (ob j) db (ib j) av) := by
  rcases hD.row.2 with ⟨h1, h2⟩ | ⟨b, cap, cur, h1, h2, h3, h4, h5, h6, h7⟩
  ·exact ⟨none, 0, by rw [h1, h2], fun h => by omega⟩
  ·exact ⟨_, cap, h1, fun _ => ⟨b, cur, rfl, h2, h3, by simpa using h7⟩⟩
 have hnm : ∀ r c e z, W.heap[r]? = some (.cells c e z) → e ≠ 84 → ¬ L.SR s0 r → (pOf L s0 W n db aa av ib ob oa oc ops).I r = some (.cells c e z) := fun r c e z h1 h2 h3 => pof_cells (by
  rintro (rfl | h)
  ·rw [hD.haa] at h1
   cases h1
   exact h2 rfl
  ·exact h3 h) h1
 have hnA : ∀ r c e z, W.heap[r]? = some (.cells c e z) → r ≠ aa → ¬ L.SR s0 r → (pOf L s0 W n db aa av ib ob oa oc ops).I r = some (.cells c e z) := fun r c e z h1 h2 h3 => pof_cells (fun h => h.elim h2 h3) h1
 have hnewS : ∀ r, w0.heap.size ≤ r → ¬ L.SR s0 r := fun r hr h => by have := hsrlt r h; omega
 have hthr : ∃ lb, (0 < n → la = some ⟨lb, 0, none⟩) ∧ ∀ g : Gate, RowIs (opsUsers L (pOf L s0 W n db aa av ib ob oa oc ops) g) lb 0 ((List.range n).map fun j => .func (.func 68) #[] ((opsUsers L (pOf L s0 W n db aa av ib ob oa oc ops) g).cap j)) := by
  by_cases h0 : 0 < n
  ·obtain ⟨lb, cur, h1, h2, h3, h4⟩ := hla h0
   refine ⟨lb, fun _ => h1, fun g => ⟨cur, 117, (0, 0), hnm lb _ _ _ h3 (by decide) (hnewS lb h2), fun k u hku => ⟨?_, by simp⟩⟩⟩
   have hku : ((List.range n).map fun j => cl68 (ob j) db (ib j) av)[k]? = some u := hku
   rw [← h4] at hku
   have hkn : k < n := by
    have := (List.getElem?_eq_some_iff.1 hku).1
    rw [List.length_take] at this
    omega
   rw [List.getElem?_take_of_lt hkn] at hku
   simpa using hku
  ·refine ⟨av, fun h => absurd h h0, fun g => ⟨_, _, _, hnm av _ _ _ hD.hav (by decide) (hnewS av hDn.2.2), fun k u hku => ?_⟩⟩
   have : n = 0 := by omega
   rw [this] at hku
   simp at hku
 obtain ⟨lb, hlb, hrow⟩ := hthr
 have hsch : ∃ sb so, (0 < S.length → sa = some ⟨sb, so, none⟩) ∧ ∀ g : Gate, RowIs (opsUsers L (pOf L s0 W n db aa av ib ob oa oc ops) g) sb so (S.map fun i : Int => Value.int .i64 i) := by
  by_cases h0 : 0 < S.length
  ·obtain ⟨sb, so, cc, e, z, h1, h2, h3, h4⟩ := hI0.hS h0
   have hlt := (Array.getElem?_eq_some_iff.1 h3).1
   refine ⟨sb, so, fun _ => h1, fun g => ⟨cc, e, z, hnA sb _ _ _ ((hD.old sb hlt).trans h3) (by omega) h2, h4⟩⟩
  ·refine ⟨av, 0, fun h => absurd h h0, fun g => ⟨_, _, _, hnm av _ _ _ hD.hav (by decide) (hnewS av hDn.2.2), fun k u hku => ?_⟩⟩
   have : S = [] := List.length_eq_zero_iff.1 (by omega)
   rw [this] at hku
   simp at hku
 obtain ⟨sb, so, hsb, hsrow⟩ := hsch
 have htrI : (pOf L s0 W n db aa av ib ob oa oc ops).I w.heap.size = some (.cells #[.slice none 0 0, .slice none 0 0, .slice none 0 0, .bool false] 29 (0, 0)) :=
  hnm _ _ _ _ ((hD.old _ (by omega)).trans htr.o) (by decide) fun h => by have := hsrlt _ h; omega
 refine bes_over (Z := fun g => opsUsers L (pOf L s0 W n db aa av ib ob oa oc ops) g) (x0 := fun g => x00 s0) (tb := lb) (so := so) (sb := sb) hn64 hM hI.hsl (fun g hg _ => ops_ok hL hpok hg) (fun g w2 _ h1 h2 => OU.stable hL (hU1 g) h1 fun r hr => ?_) (fun g hg j hj => ⟨rfl, rfl⟩) (fun g r hr => OU.low (g := g) hL (hU1 g) hr) (fun g r hr => ⟨fixed_lt (p := pOf L s0 W n db aa av ib ob oa oc ops) (hU1 g).fix hr, fun h => hr ((hU1 g).inone r h)⟩) hlb (fun g _ => hrow g) hsb (fun g _ => hsrow g) ?_
 ·have hlt : r < W.heap.size := hr.elim (OU.low hL (hU1 g)) (fixed_lt (hU1 g).fix)
  rw [h2 r _ (Array.getElem?_eq_getElem hlt), Array.getElem?_eq_getElem hlt]
 ·intro g t u oa' oc' bv hg hrel hU hord hnR hsz
  have hU : OU L (pOf L s0 W n db aa av ib ob oa oc ops) g t.1 u := hU
  have hT : TrAt u w.heap.size (.slice none 0 0) (.slice none 0 0) (.slice none 0 0) (.bool false) := ⟨hU.fix _ _ htrI⟩
  refine bes_own (F := F0) (Stop := fun a u2 => a = G (c.finish (.agg #[.slice (some ⟨aa, 0, none⟩) n n, .slice oa' t.2.length oc', .slice none 0 0, .bool (decide (0 < cnt ((opsUsers L (pOf L s0 W n db aa av ib ob oa oc ops) g).liv t.1) n))])) cs ∧ ∃ d, u2 = (trW u w.heap.size (.slice (some ⟨aa, 0, none⟩) n n) (.slice oa' t.2.length oc') (.slice none 0 0) (.bool (decide (0 < cnt ((opsUsers L (pOf L s0 W n db aa av ib ob oa oc ops) g).liv t.1) n)))).at d)
   (op_2 hT (fun k h => by obtain ⟨z, hz, _⟩ := h; cases hz) hA (.stop fun d => ⟨rfl, d, rfl⟩)) fun a u2 ⟨ha, d, hu2⟩ => ?_
  subst ha
  subst hu2
  have hne : ∀ r, r ≠ w.heap.size → ((trW u w.heap.size (.slice (some ⟨aa, 0, none⟩) n n) (.slice oa' t.2.length oc') (.slice none 0 0) (.bool (decide (0 < cnt ((opsUsers L (pOf L s0 W n db aa av ib ob oa oc ops) g).liv t.1) n)))).at d).heap[r]? = u.heap[r]? := fun r hr => by
   show (trW _ _ _ _ _ _).heap[r]? = _
   unfold trW
   rw [heap_setCell_ne _ _ _ hr, heap_setCell_ne _ _ _ hr, heap_setCell_ne _ _ _ hr, heap_setCell_ne _ _ _ hr]
  have hsz2 : ((trW u w.heap.size (.slice (some ⟨aa, 0, none⟩) n n) (.slice oa' t.2.length oc') (.slice none 0 0) (.bool (decide (0 < cnt ((opsUsers L (pOf L s0 W n db aa av ib ob oa oc ops) g).liv t.1) n)))).at d).heap.size = u.heap.size := by
   show (trW _ _ _ _ _ _).heap.size = _
   unfold trW
   simp
  generalize (trW u w.heap.size (.slice (some ⟨aa, 0, none⟩) n n) (.slice oa' t.2.length oc') (.slice none 0 0) (.bool (decide (0 < cnt ((opsUsers L (pOf L s0 W n db aa av ib ob oa oc ops) g).liv t.1) n)))).at d = V at hne hsz2 ⊢
  let I' : Nat → Option Obj := fun r => if r = w.heap.size then none else (pOf L s0 W n db aa av ib ob oa oc ops).I r
  have hI' : ∀ r o, I' r = some o → r ≠ w.heap.size ∧ (pOf L s0 W n db aa av ib ob oa oc ops).I r = some o := fun r o h => by
   by_cases e : r = w.heap.size
   ·simp [I', e] at h
   ·exact ⟨e, by simpa [I', e] using h⟩
  have htrR : ¬ OR L (pOf L s0 W n db aa av ib ob oa oc ops) t.1 w.heap.size := fun h => by
   have := hU.inone _ h
   rw [htrI] at this
   cases this
  have hU2 : OU L ((pOf L s0 W n db aa av ib ob oa oc ops).re I') g t.1 u := hU.re fun r o h => (hI' r o h).2
  refine hk g (pOf L s0 W n db aa av ib ob oa oc ops) ((pOf L s0 W n db aa av ib ob oa oc ops).re I') t V oa' oc' hg rfl rfl (ops_ok hL hpok hg) hrel rfl rfl rfl (hU2.stable hL (by omega) fun r hr => hne r ?_) ?_ hnR (by omega) fun r cc e z hr hnS => ?_
  ·rintro rfl
   rcases hr with hr | hr
   ·exact htrR hr
   ·cases e : I' w.heap.size with
    | none => exact hr e
    | some o => exact (hI' _ _ e).1 rfl
  ·refine ownsRow_mono_base (by omega) (ownsRow_same2 hord fun b hb hbn => hne b (by omega))
  ·have hlt := (Array.getElem?_eq_some_iff.1 hr).1
   rw [hne r (by omega)]
   exact hU.fix _ _ (hnA r _ _ _ ((hD.old r (by omega)).trans ((hw0 r hlt).trans hr)) (by omega) hnS)
end
noncomputable section
variable {F : Fz} {w : World}
def bhBody : Code := Try.f22.body.getD .skip
def bhs0 : Code := Code.piece [] bhBody
def bhr0 : Code := Code.piece [true] bhBody
def bho0 : Array Oper := Code.opsOf bhr0
def bhs1 : Code := Code.piece [false] bhBody
def bhs2 : Code := Code.piece [false, true] bhBody
def bhr1 : Code := Code.piece [false, true, true] bhBody
def bho1 : Array Oper := Code.opsOf bhr1
def bhc6 : Code := Code.piece [false, true, false] bhBody
def bhs3 : Code := Code.piece [false, true, false, true] bhBody
def bhr2 : Code := Code.piece [false, true, false, true, true] bhBody
def bho2 : Array Oper := Code.opsOf bhr2
def bhs4 : Code := Code.piece [false, false] bhBody
def bhr3 : Code := Code.piece [false, false, true] bhBody
def bho3 : Array Oper := Code.opsOf bhr3
def bhs5 : Code := Code.piece [false, false, false] bhBody
def bhs6 : Code := Code.piece [false, false, false, true] bhBody
def bhr4 : Code := Code.piece [false, false, false, true, true] bhBody
def bho4 : Array Oper := Code.opsOf bhr4
def bhb0 : Code := Code.piece [false, false, false, true, false] bhBody
def bhl7 : Code := Code.piece [false, false, false, true, false, true] bhBody
def bhs8 : Code := Code.piece [false, false, false, true, false, true, true] bhBody
def bhs9 : Code := Code.piece [false, false, false, true, false, true, true, true] bhBody
def bhr5 : Code := Code.piece [false, false, false, true, false, true, true, true, true] bhBody
def bho5 : Array Oper := Code.opsOf bhr5
def bhc15 : Code := Code.piece [false, false, false, true, false, true, true, true, false] bhBody
def bhs10 : Code := Code.piece [false, false, false, true, false, true, true, false] bhBody
def bhb1 : Code := Code.piece [false, false, false, true, false, true, true, false, true] bhBody
def bhr7 : Code := Code.piece [false, false, false, true, false, true, true, false, true, true] bhBody
def bho7 : Array Oper := Code.opsOf bhr7
def bhr6 : Code := Code.piece [false, false, false, true, false, true, true, false, false] bhBody
def bho6 : Array Oper := Code.opsOf bhr6
def bhs11 : Code := Code.piece [false, false, false, false] bhBody
def bhr8 : Code := Code.piece [false, false, false, false, true] bhBody
def bho8 : Array Oper := Code.opsOf bhr8
theorem bhs0_eq : bhs0 = .seq bhr0 bhs1 := by kernel_rfl
theorem bhr0_eq : bhr0 = .region 0 bho0 false := by kernel_rfl
theorem bhs1_eq : bhs1 = .seq bhs2 bhs4 := by kernel_rfl
theorem bhs2_eq : bhs2 = .seq bhr1 bhc6 := by kernel_rfl
theorem bhr1_eq : bhr1 = .region 1 bho1 false := by kernel_rfl
theorem bhc6_eq : bhc6 = .cond (.tmp 6) bhs3 .skip := by kernel_rfl
theorem bhs3_eq : bhs3 = .seq bhr2 .ret := by kernel_rfl
theorem bhr2_eq : bhr2 = .region 2 bho2 false := by kernel_rfl
theorem bhs4_eq : bhs4 = .seq bhr3 bhs5 := by kernel_rfl
theorem bhr3_eq : bhr3 = .region 3 bho3 false := by kernel_rfl
theorem bhs5_eq : bhs5 = .seq bhs6 bhs11 := by kernel_rfl
theorem bhs6_eq : bhs6 = .seq bhr4 bhb0 := by kernel_rfl
theorem bhr4_eq : bhr4 = .region 4 bho4 false := by kernel_rfl
theorem bhb0_eq : bhb0 = .block 0 bhl7 := by kernel_rfl
theorem bhl7_eq : bhl7 = .loop bhs8 := by kernel_rfl
theorem bhs8_eq : bhs8 = .seq bhs9 bhs10 := by kernel_rfl
theorem bhs9_eq : bhs9 = .seq bhr5 bhc15 := by kernel_rfl
theorem bhr5_eq : bhr5 = .region 5 bho5 false := by kernel_rfl
theorem bhc15_eq : bhc15 = .cond (.tmp 15) .skip (.exit 0) := by kernel_rfl
theorem bhs10_eq : bhs10 = .seq bhb1 bhr6 := by kernel_rfl
theorem bhb1_eq : bhb1 = .block 1 bhr7 := by kernel_rfl
theorem bhr7_eq : bhr7 = .region 7 bho7 false := by kernel_rfl
theorem bhr6_eq : bhr6 = .region 6 bho6 false := by kernel_rfl
theorem bhs11_eq : bhs11 = .seq bhr8 .ret := by kernel_rfl
theorem bhr8_eq : bhr8 = .region 8 bho8 false := by kernel_rfl
theorem enter_bh (args : Array Value) : Frame.enter Try.prog 22 args .normal = (Go.Conc.base 22).at { tmps := args ++ Array.replicate (23 - args.size) undef, defers := [] } [.code bhs0] := enter_at args Try.func22 rfl
theorem callable22 : Callable 22 := callable Try.func22 rfl rfl
def bhT (s : Nat → Value) : Array Value := #[s 0, s 1, s 2, s 3, s 4, s 5, s 6, s 7, s 8, s 9, s 10, s 11, s 12, s 13, s 14, s 15, s 16, s 17, s 18, s 19, s 20, s 21, s 22]
theorem bhT_of {A : Array Value} (h : A.size = 23) : ∃ s, A = bhT s := by
 obtain ⟨s, hs, _⟩ := arr_lit A h
 exact ⟨s, hs⟩
theorem bh_0 {qb t : Nat} {hd : Addr} {nx : Option Addr} (hbh : BoxP w (some hd)) (hch : w.cell? ⟨qb, 0, none⟩ = some (.pointer (some hd))) (hbt : BoxP w (some ⟨t, 0, none⟩)) (hct : w.cell? ⟨qb, 1, none⟩ = some (.pointer (some ⟨t, 0, none⟩))) (hbn : BoxP w nx) (hcn : w.cell? ⟨t, 1, none⟩ = some (.pointer nx)) {cs : List Frame} {main : Bool} {Stop : Goroutine → World → Prop}
  (h : ∀ A, Slots 23 A [(3, .int .i64 (0 : Nat)), (4, .pointer nx)] → Own Try.prog main F Stop (G ((Go.Conc.base 22).at ⟨A, []⟩ [.code bhs8, .inLoop bhs8, .inBlock 0, .code bhs11]) cs) w) :
  Own Try.prog main F Stop (G (Frame.enter Try.prog 22 #[.pointer (some ⟨qb, 0, none⟩)] .normal) cs) w := by
 rw [enter_bh]
 walk_nrm
 rw [bhs0_eq]
 refine ogS ?_
 rw [bhr0_eq]
 refine ogR ?_
 simp only [bho0, Code.opsOf, bhr0, Code.piece, bhBody, Try.f22, Option.getD_some, List.size_toArray, List.length_cons, List.length_nil, Nat.reduceAdd, Nat.zero_add, List.range, List.range.loop]
 (refine oW fun dd K hK => ?_; go_simp; refine qT hK ?_; clear hK K)
 refine ogE ?_
 rw [bhs1_eq]
 refine ogS ?_
 rw [bhs2_eq]
 refine ogS ?_
 rw [bhr1_eq]
 refine ogR ?_
 simp only [bho1, Code.opsOf, bhr1, Code.piece, bhBody, Try.f22, Option.getD_some, List.size_toArray, List.length_cons, List.length_nil, Nat.reduceAdd, Nat.zero_add, List.range, List.range.loop]
 (refine oW fun dd K hK => ?_; go_simp; refine qT hK ?_; clear hK K)
 refine oc callable51 #[.pointer (some ⟨qb, 0, none⟩)] ?_
 refine own_no hbh hch ?_
 rw [Frame.finish_at]
 walk_nrm
 refine ogE ?_
 rw [bhc6_eq]
 refine ogF ?_
 simp only [Bool.false_eq_true, if_false]
 refine ogK ?_
 rw [bhs4_eq]
 refine ogS ?_
 rw [bhr3_eq]
 refine ogR ?_
 simp only [bho3, Code.opsOf, bhr3, Code.piece, bhBody, Try.f22, Option.getD_some, List.size_toArray, List.length_cons, List.length_nil, Nat.reduceAdd, Nat.zero_add, List.range, List.range.loop]
 (refine oW fun dd K hK => ?_; go_simp; refine qT hK ?_; clear hK K)
 refine ogE ?_
 rw [bhs5_eq]
 refine ogS ?_
 rw [bhs6_eq]
 refine ogS ?_
 rw [bhr4_eq]
 refine ogR ?_
 simp only [bho4, Code.opsOf, bhr4, Code.piece, bhBody, Try.f22, Option.getD_some, List.size_toArray, List.length_cons, List.length_nil, Nat.reduceAdd, Nat.zero_add, List.range, List.range.loop]
 iterate 3 (refine oW fun dd K hK => ?_; go_simp; refine qT hK ?_; clear hK K)
 refine oc callable52 #[.pointer (some ⟨qb, 1, none⟩)] ?_
 refine own_load hbt hct rfl ?_
 rw [Frame.finish_at]
 walk_nrm
 iterate 2 (refine oW fun dd K hK => ?_; go_simp; refine qT hK ?_; clear hK K)
 refine oc callable52 #[.pointer (some ⟨t, 1, none⟩)] ?_
 refine own_load hbn hcn rfl ?_
 rw [Frame.finish_at]
 walk_nrm
 (refine oW fun dd K hK => ?_; go_simp; refine qT hK ?_; clear hK K)
 refine ogE ?_
 rw [bhb0_eq]
 refine ogB ?_
 rw [bhl7_eq]
 refine ogP ?_
 refine h _ ?_
 exact ⟨rfl, rfl, rfl, trivial⟩
theorem bh_1 {b k : Nat} (hk : k < 10000000) {nx : Option Addr} (hbn : BoxP w nx) (hcn : w.cell? ⟨b, 1, none⟩ = some (.pointer nx)) {A : Array Value} (hA : Slots 23 A [(3, .int .i64 k), (4, .pointer (some ⟨b, 0, none⟩))]) {cs : List Frame} {main : Bool} {Stop : Goroutine → World → Prop}
  (h : ∀ A, Slots 23 A [(3, .int .i64 (k + 1 : Nat)), (4, .pointer nx)] → Own Try.prog main F Stop (G ((Go.Conc.base 22).at ⟨A, []⟩ [.code bhs8, .inLoop bhs8, .inBlock 0, .code bhs11]) cs) w) :
  Own Try.prog main F Stop (G ((Go.Conc.base 22).at ⟨A, []⟩ [.code bhs8, .inLoop bhs8, .inBlock 0, .code bhs11]) cs) w := by
 obtain ⟨hsz, h3, h4, _⟩ := hA
 obtain ⟨s, rfl⟩ := bhT_of hsz
 change s 3 = _ at h3
 change s 4 = _ at h4
 clear hsz
 simp only [bhT, h3, h4]
 clear h3 h4
 have hk64 : IntKind.i64.wrap ((k : Int) + 1) = (k : Int) + 1 := IntWalk.i64_in _ (by omega)
 rw [bhs8_eq]
 refine ogS ?_
 rw [bhs9_eq]
 refine ogS ?_
 rw [bhr5_eq]
 refine ogR ?_
 simp only [bho5, Code.opsOf, bhr5, Code.piece, bhBody, Try.f22, Option.getD_some, List.size_toArray, List.length_cons, List.length_nil, Nat.reduceAdd, Nat.zero_add, List.range, List.range.loop]
 iterate 2 (refine oW fun dd K hK => ?_; go_simp; refine qT hK ?_; clear hK K)
 refine ogE ?_
 rw [bhc15_eq]
 refine ogT ?_
 simp only [if_true]
 refine ogK ?_
 rw [bhs10_eq]
 refine ogS ?_
 rw [bhb1_eq]
 refine ogB ?_
 rw [bhr7_eq]
 refine ogR ?_
 simp only [bho7, Code.opsOf, bhr7, Code.piece, bhBody, Try.f22, Option.getD_some, List.size_toArray, List.length_cons, List.length_nil, Nat.reduceAdd, Nat.zero_add, List.range, List.range.loop]
 iterate 3 (refine oW fun dd K hK => ?_; go_simp; refine qT hK ?_; clear hK K)
 refine ogE ?_
 refine ogI ?_
 rw [bhr6_eq]
 refine ogR ?_
 simp only [bho6, Code.opsOf, bhr6, Code.piece, bhBody, Try.f22, Option.getD_some, List.size_toArray, List.length_cons, List.length_nil, Nat.reduceAdd, Nat.zero_add, List.range, List.range.loop]
 iterate 3 (refine oW fun dd K hK => ?_; go_simp; refine qT hK ?_; clear hK K)
 refine oc callable52 #[.pointer (some ⟨b, 1, none⟩)] ?_
 refine own_load hbn hcn rfl ?_
 rw [Frame.finish_at]
 walk_nrm
 (refine oW fun dd K hK => ?_; go_simp; refine qT hK ?_; clear hK K)
 refine ogE ?_
 refine ogL ?_
 refine h _ ?_
 exact ⟨rfl, rfl, rfl, trivial⟩
theorem bh_2 {k : Nat} {A : Array Value} (hA : Slots 23 A [(3, .int .i64 k), (4, .pointer none)]) {c : Frame} {cs : List Frame} {main : Bool} {Stop : Goroutine → World → Prop}
  (h : Own Try.prog main F Stop (G (c.finish (.int .i64 k)) cs) w) :
  Own Try.prog main F Stop (G ((Go.Conc.base 22).at ⟨A, []⟩ [.code bhs8, .inLoop bhs8, .inBlock 0, .code bhs11]) (c :: cs)) w := by
 obtain ⟨hsz, h3, h4, _⟩ := hA
 obtain ⟨s, rfl⟩ := bhT_of hsz
 change s 3 = _ at h3
 change s 4 = _ at h4
 clear hsz
 simp only [bhT, h3, h4]
 clear h3 h4
 rw [bhs8_eq]
 refine ogS ?_
 rw [bhs9_eq]
 refine ogS ?_
 rw [bhr5_eq]
 refine ogR ?_
 simp only [bho5, Code.opsOf, bhr5, Code.piece, bhBody, Try.f22, Option.getD_some, List.size_toArray, List.length_cons, List.length_nil, Nat.reduceAdd, Nat.zero_add, List.range, List.range.loop]
 iterate 2 (refine oW fun dd K hK => ?_; go_simp; refine qT hK ?_; clear hK K)
 refine ogE ?_
 rw [bhc15_eq]
 refine ogF ?_
 simp only [Bool.false_eq_true, if_false]
 refine own_go rfl (fun d => stepG_exit rfl) ?_
 rw [bhs11_eq]
 refine ogS ?_
 rw [bhr8_eq]
 refine ogR ?_
 simp only [bho8, Code.opsOf, bhr8, Code.piece, bhBody, Try.f22, Option.getD_some, List.size_toArray, List.length_cons, List.length_nil, Nat.reduceAdd, Nat.zero_add, List.range, List.range.loop]
 iterate 2 (refine oW fun dd K hK => ?_; go_simp; refine qT hK ?_; clear hK K)
 refine ogE ?_
 refine ogX ?_
 refine own_go rfl (fun d => stepG_leave (fn := Try.f22) (v := .int .i64 k) rfl rfl Try.func22 (by simp [results, Try.f22]) (by simp [results, Try.f22, go_sem])) ?_
 exact h
end
noncomputable section
section
variable {P : Program} {F : Fz} {w : World} {main : Bool} {Stop : Goroutine → World → Prop} {b : Frame} {a : Act} {cs : List Frame} {ops : Array Oper} {i : Nat} {rest : List Nat} {kk : List Item} {o : Oper} {f : FuncId} {fn : Func} {ats : Array TypeId}
theorem own_store_ptr {x y : Operand} (ho : ops[i]? = some o) (hw : Region.wanted o (yielded ops a.tmps) = true) (hk : b.kind ≠ .early) (hop : o.op = .call { callee := .value (.func f), args := #[x, y], argTypes := ats })
  (hf : P.funcs[f]? = some fn) (hname : (fn.name == "runtime.NumGoroutine") = false) (hb : fn.body.isNone = true) (hn : Extern.findNext fn = none)
  (he : Extern.find fn = some Extern.Atomic.storeT) {ad : Addr} {v n : Option Addr} (hs : ad.spot = none) (hx : a.eval x = .pointer (some ad)) (hy : a.eval y = .pointer n) (hc : w.cell? ad = some (.pointer v)) (hfz : w.frozen? ad = false) (hnh : ¬ held F ad)
  (h : Own P main F Stop (G (b.at (a.put o.dst (.tuple #[])) (.inRegion ops rest :: kk)) cs) (w.setCell ad (.pointer n))) : Own P main F Stop (G (b.at a (.inRegion ops (i :: rest) :: kk)) cs) w := by
 have e1 : execOp a.eval o = callFunc f #[.pointer (some ad), .pointer n] := exec_extern hop (by simp [hx, hy])
 refine own_val (w' := w.setCell ad (.pointer n)) ho hw hk (fun d => ?_) (fun d => ⟨0, by simpa [setCell_at'] using grew_setCell (w := w.at d) hs hnh (.pointer n)⟩) (fun d e hm => ?_) h
 ·have hc' : (w.at d).cell? ad = some (.pointer v) := hc
  have hz' : (w.at d).frozen? ad = false := hfz
  rw [e1, run_callFunc_extern hf hname hb hn he]
  change (Sem.run P (do
   store (← asAddr (.pointer (some ad))) (.pointer n) .atomic
   pure (Value.tuple #[])) (w.at d)).andThen _ = _
  simp [asAddr, hc', hz', run_store P (w.at d) ad (.pointer n) .atomic rfl, Result.andThen, setCell_at']
 ·have hc' : (w.at d).cell? ad = some (.pointer v) := hc
  have hz' : (w.at d).frozen? ad = false := hfz
  rw [e1, events_callFunc_extern hf hname hb hn he] at hm
  change e ∈ Sem.events P (do
   store (← asAddr (.pointer (some ad))) (.pointer n) .atomic
   pure (Value.tuple #[])) (w.at d) _ at hm
  simp [asAddr, hc', hz', run_store P (w.at d) ad (.pointer n) .atomic rfl, events_store P (w.at d) _ ad (.pointer n) .atomic rfl] at hm
  rcases hm with rfl | rfl
  ·exact evT_ext f
  ·exact evT_write _ _ hnh
end
variable {F : Fz} {w : World}
def qpsBody : Code := Try.f47.body.getD .skip
def qpsr0 : Code := Code.piece [] qpsBody
def qpso0 : Array Oper := Code.opsOf qpsr0
theorem qpsr0_eq : qpsr0 = .region 0 qpso0 false := by kernel_rfl
theorem enter_qps (args : Array Value) : Frame.enter Try.prog 47 args .normal = (Go.Conc.base 47).at { tmps := args ++ Array.replicate (10 - args.size) undef, defers := [] } [.code qpsr0] := enter_at args Try.func47 rfl
theorem callable47 : Callable 47 := callable Try.func47 rfl rfl
def qpsT (s : Nat → Value) : Array Value := #[s 0, s 1, s 2, s 3, s 4, s 5, s 6, s 7, s 8, s 9]
theorem qpsT_of {A : Array Value} (h : A.size = 10) : ∃ s, A = qpsT s := by
 obtain ⟨s, hs, _⟩ := arr_lit A h
 exact ⟨s, hs⟩
theorem own_store {ad : Addr} {v n : Option Addr} (hc : w.cell? ad = some (.pointer v)) (hs : ad.spot = none) (hz : w.frozen? ad = false) (hnh : ¬ held F ad) (hbn : BoxP w n) {c : Frame} {cs : List Frame} {main : Bool} {Stop : Goroutine → World → Prop} (h : Own Try.prog main F Stop (G (c.finish (.tuple #[])) cs) (w.setCell ad (.pointer n))) :
  Own Try.prog main F Stop (G (Frame.enter Try.prog 47 #[.pointer (some ad), .pointer n] .normal) (c :: cs)) w := by
 obtain ⟨ab, ao, asp⟩ := ad
 simp only at hs
 subst hs
 have cv := fun d => (conv54 (hbn.at d)).1
 have cvE := fun d => (conv54 (hbn.at d)).2
 rw [enter_qps]
 walk_nrm
 rw [qpsr0_eq]
 refine ogR ?_
 simp only [qpso0, Code.opsOf, qpsr0, Code.piece, qpsBody, Try.f47, Option.getD_some, List.size_toArray, List.length_cons, List.length_nil, Nat.reduceAdd, Nat.zero_add, List.range, List.range.loop]
 iterate 4 (refine oW fun dd K hK => ?_; go_simp; refine qT hK ?_; clear hK K)
 (refine own_val (v := _) (w' := w) rfl rfl (by decide) (fun d => by simp [execOp, Act.eval, cv d]; rfl) (fun d => ⟨0, Grew.refl _ _⟩) (fun d e hm => by simp [execOp, Act.eval, cvE d] at hm) ?_; walk_nrm)
 refine own_store_ptr (f := 63) (fn := Try.f63) rfl rfl (by decide) rfl Try.func63 rfl rfl rfl rfl rfl rfl rfl hc hz hnh ?_
 walk_nrm
 refine ogE ?_
 refine own_go rfl (fun d => stepG_end) ?_
 refine own_go rfl (fun d => stepG_leave (fn := Try.f47) (v := .tuple #[]) rfl rfl Try.func47 (by simp [results, Try.f47]) (by simp [results, Try.f47, go_sem])) ?_
 exact h
end
end Go.Proofs.Ytcejbandeikdjaa
