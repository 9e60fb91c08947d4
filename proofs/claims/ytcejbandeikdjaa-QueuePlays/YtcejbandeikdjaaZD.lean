/-
  The law QueuePlays holds of the given program: what queue.Play comes to by any schedule is what the document's reference comes to, for arguments of at most 1048576 items in all (QueuePlaysUptoSaid).
  Part 4 of 6.
-/
import Derived.Test.YtcejbandeikdjaaZC
import Derived.Conc.LeavingOf
import Derived.WalkKit
import Derived.RegionTactic
import Derived.ChangeAlike
import Derived.Deep.QuietTactic
import Derived.BigQuiet
set_option linter.unusedSimpArgs false
set_option linter.unusedVariables false
set_option maxRecDepth 100000
set_option maxHeartbeats 2000000
namespace Go.Proofs.Ytcejbandeikdjaa
open Go Go.Conc Go.RowKit Go.Proofs
noncomputable section
variable {F : Fz} {w w' : World} {L : Lay} {p : Par} {g : Gate} {x y : OX L} {i : Nat}
theorem NotedA.at {aa ab i m : Nat} {v a b c : Value} {xs : List Value} {v' : Value} (h : NotedA F aa ab i m v a b c xs w w' v') (d : Nat) : NotedA F aa ab i m v a b c xs w (w'.at d) v' :=
 ⟨⟨h.wf.own⟩, h.row, h.arr, h.size, h.own, h.old⟩
theorem ou_noted (hL : L.Ok) (hP : p.Ok L) (hi : i < p.n) {an : L.A} {ab : Nat} (h : OU L p g x w) (hc : (x.th i).call = none) (hk : (x.th i).k < (p.ops i).length) (hau : L.AU an w) (hna : ∀ r, L.AR an r → NF L p x r ∧ r ≠ ab) {F2 : Fz} {a b c : Value} (hac : (L.AV an).cells = [a, b, c]) {v' : Value}
  (hn : NotedA F2 p.aa ab i (x.th i).k (x.th i).row a b c (((x.th i).ans.map fun a => (L.AV a).cells).flatten) w w' v') :
  OU L p g (upd x i x.s ⟨(x.th i).k + 1, none, (x.th i).ans ++ [an], v'⟩) w' ∧ (∀ r, OR L p (upd x i x.s ⟨(x.th i).k + 1, none, (x.th i).ans ++ [an], v'⟩) r → OR L p x r ∨ L.AR an r ∨ w.heap.size ≤ r) := by
 have ht := h.thr i hi
 have hsame : ∀ r, r < w.heap.size → r ≠ p.aa → some r ≠ Value.ownBlock (x.th i).row → w'.heap[r]? = w.heap[r]? := hn.old
 have hT : ∀ r, TR (⟨(x.th i).k + 1, none, (x.th i).ans ++ [an], v'⟩ : Thr L) r → TR (x.th i) r ∨ L.AR an r ∨ w.heap.size ≤ r := by
  rintro r (h1 | ⟨a, ha, h1⟩ | ⟨c, A, ab, h1, h2⟩)
  ·rcases hn.own r h1 with h2 | h2
   ·exact .inl (.inl h2.symm)
   ·exact .inr (.inr h2)
  ·rcases List.mem_append.1 ha with ha | ha
   ·exact .inl (.inr (.inl ⟨a, ha, h1⟩))
   ·rw [List.mem_singleton] at ha
    subst ha
    exact .inr (.inl h1)
  ·cases h1
 have hO : ∀ r, OR L p (upd x i x.s ⟨(x.th i).k + 1, none, (x.th i).ans ++ [an], v'⟩) r → OR L p x r ∨ L.AR an r ∨ w.heap.size ≤ r := by
  rintro r (h1 | rfl | ⟨j, hj, h1⟩)
  ·exact .inl (.inl h1)
  ·exact .inl (.inr (.inl rfl))
  ·by_cases e : j = i
   ·subst e
    rw [upd_self] at h1
    rcases hT r h1 with h2 | h2 | h2
    ·exact .inl (.inr (.inr ⟨j, hj, h2⟩))
    ·exact .inr (.inl h2)
    ·exact .inr (.inr h2)
   ·rw [upd_ne e] at h1
    exact .inl (.inr (.inr ⟨j, hj, h1⟩))
 have hrow : ∀ r, some r = Value.ownBlock (x.th i).row → TR (x.th i) r := fun r hr => .inl hr.symm
 have hrowI : ∀ r, p.I r ≠ none → some r ≠ Value.ownBlock (x.th i).row := fun r hr e => hr (h.inone r (.inr (.inr ⟨i, hi, hrow r e⟩)))
 have haaI : ∀ r, p.I r ≠ none → r ≠ p.aa := fun r hr e => hr (h.inone r (.inr (.inl e)))
 have hX : ∀ r, TR (⟨(x.th i).k + 1, none, (x.th i).ans ++ [an], v'⟩ : Thr L) r → ∀ j, j < p.n → j ≠ i → ¬ TR (x.th j) r := by
  intro r hr j hj hne hh
  rcases hT r hr with h2 | h2 | h2
  ·exact h.tt j i hj hi hne r hh h2
  ·exact (hna r h2).1.1 (.inr (.inr ⟨j, hj, hh⟩))
  ·have := (h.thr j hj).low hL hh; omega
 refine ⟨⟨fixed_stable h.fix fun r hr => hsame r (fixed_lt h.fix hr) (haaI r hr) (hrowI r hr), hL.sS _ w w' h.su hn.size fun r hr => hsame r (hL.lS _ _ _ h.su hr) (by rintro rfl; exact h.sa hr) fun e => (h.ts i hi r (hrow r e)).1 hr, ?_, ?_, ?_, h.sa, ?_, ?_, ?_⟩, hO⟩
 ·obtain ⟨c, h1, h2, h3⟩ := h.arr
  refine ⟨_, hn.arr c h1, by simpa using h2, fun j hj => ?_⟩
  by_cases e : j = i
  ·subst e
   rw [upd_self, Array.getElem?_setIfInBounds_self_of_lt (by omega)]
  ·rw [upd_ne e, Array.getElem?_setIfInBounds_ne (fun e1 => e e1.symm)]
   exact h3 j hj
 ·intro j hj
  by_cases e : j = i
  ·subst e
   rw [upd_self]
   refine ⟨?_, ?_, ?_, ?_, ?_, fun c A ab h1 => by cases h1⟩
   ·have := hn.row
    simp only [List.map_append, List.map_cons, List.map_nil, List.flatten_append, List.flatten_cons, List.flatten_nil, List.append_nil, List.length_append, List.length_cons, List.length_nil, hac, ht.al]
    exact this
   ·intro a ha
    rcases List.mem_append.1 ha with ha | ha
    ·exact hL.sA a w w' (ht.au a ha) hn.size fun r hr => hsame r (ht.low hL (.inr (.inl ⟨a, ha, hr⟩))) (h.ts j hj r (.inr (.inl ⟨a, ha, hr⟩))).2 (ht.ar a ha r hr)
    ·rw [List.mem_singleton] at ha
     subst ha
     exact hL.sA a w w' hau hn.size fun r hr => hsame r (hL.lA a w r hau hr) (fun e => (hna r hr).1.1 (.inr (.inl e))) (fun e => (hna r hr).1.1 (.inr (.inr ⟨j, hj, hrow r e⟩)))
   ·simp [ht.al]
   ·exact hk
   ·intro a ha r hr e
    rcases hn.own r e.symm with h2 | h2
    ·rcases List.mem_append.1 ha with ha | ha
     ·exact ht.ar a ha r hr h2
     ·rw [List.mem_singleton] at ha
      subst ha
      exact (hna r hr).1.1 (.inr (.inr ⟨j, hj, hrow r h2⟩))
    ·rcases List.mem_append.1 ha with ha | ha
     ·have := ht.low hL (.inr (.inl ⟨a, ha, hr⟩)); omega
     ·rw [List.mem_singleton] at ha
      subst ha
      have := hL.lA a w r hau hr; omega
  ·rw [upd_ne e]
   exact (h.thr j hj).stable hL hn.size fun r hr => hsame r ((h.thr j hj).low hL hr) (h.ts j hj r hr).2 fun e1 => h.tt j i hj hi e r hr (hrow r e1)
 ·intro j hj r hr
  by_cases e : j = i
  ·subst e
   rw [upd_self] at hr
   rcases hT r hr with h2 | h2 | h2
   ·exact h.ts j hj r h2
   ·exact ⟨fun hh => (hna r h2).1.1 (.inl hh), fun e => (hna r h2).1.1 (.inr (.inl e))⟩
   ·refine ⟨fun hh => ?_, ?_⟩
    ·have := hL.lS _ _ _ h.su hh; omega
    ·rintro rfl
     have := h.aalt; omega
  ·rw [upd_ne e] at hr
   exact h.ts j hj r hr
 ·intro j hj c A ab hc
  by_cases e : j = i
  ·subst e
   rw [upd_self] at hc
   cases hc
  ·rw [upd_ne e] at hc
   exact h.jj j hj c A ab hc
 ·intro j k hj hk2 hne r h1 h2
  by_cases e : j = i
  ·subst e
   rw [upd_self] at h1
   rw [upd_ne (fun e => hne e.symm)] at h2
   exact hX r h1 k hk2 (fun e => hne e.symm) h2
  ·rw [upd_ne e] at h1
   by_cases e2 : k = i
   ·subst e2
    rw [upd_self] at h2
    exact hX r h2 j hj e h1
   ·rw [upd_ne e2] at h2
    exact h.tt j k hj hk2 hne r h1 h2
 ·intro r hr
  rcases hO r hr with h1 | h1 | h1
  ·exact h.inone r h1
  ·exact (hna r h1).1.2
  ·exact h.inone' (.inr h1)
theorem own_note (hL : L.Ok) (hP : p.Ok L) (hi : i < p.n) {an : L.A} {ab : Nat} {A0 : Array Value} (h : OU L p g x w) (hc : (x.th i).call = none) (hk : (x.th i).k < (p.ops i).length) (hau : L.AU an w) (hna : ∀ r, L.AR an r → NF L p x r ∧ r ≠ ab) (ha : Ans w ab) (hnb : NF L p x ab) (hwf : Wf F w) (hF : ∀ r, OR L p x r ∨ r = ab → F r = none) (hA : Slots 33 A0 (dgS8 p (g.st i) i (x.th i).k ab)) {cs : List Frame} {Stop : Goroutine → World → Prop}
  (K : ∀ w' A v', OU L p g (upd x i x.s ⟨(x.th i).k + 1, none, (x.th i).ans ++ [an], v'⟩) w' → (∀ r, OR L p (upd x i x.s ⟨(x.th i).k + 1, none, (x.th i).ans ++ [an], v'⟩) r → OR L p x r ∨ L.AR an r ∨ w.heap.size ≤ r) → w.heap.size ≤ w'.heap.size → Wf F w' → Slots 33 A (dgS p (g.st i) i ((x.th i).k + 1)) →
   Own Try.prog false F Stop (G ((Go.Conc.base 68).at ⟨A, []⟩ [.code dgs2, .inLoop dgs2, .inBlock 0]) cs) w') :
  Own Try.prog false F Stop (back (L.AV an).v (dgFr A0 :: cs)) w := by
 have hkl := hP.len i hi
 refine dg_2a (lc := (L.AV an).lc) ha (fun k hh => ?_) hA fun A1 hA1 => ?_
 ·obtain ⟨z, hz, _⟩ := hh
  rw [hF ab (.inr rfl)] at hz
  cases hz
 have hsz : ((((w.setCell ⟨ab, 0, none⟩ (.bool (L.AV an).ok)).setCell ⟨ab, 1, none⟩ (.int .i64 (L.AV an).n)).setCell ⟨ab, 2, none⟩ (.slice (L.AV an).la (L.AV an).ll (L.AV an).lc))).heap.size = w.heap.size := by simp
 have hne : ∀ r, r ≠ ab → ((((w.setCell ⟨ab, 0, none⟩ (.bool (L.AV an).ok)).setCell ⟨ab, 1, none⟩ (.int .i64 (L.AV an).n)).setCell ⟨ab, 2, none⟩ (.slice (L.AV an).la (L.AV an).ll (L.AV an).lc))).heap[r]? = w.heap[r]? := by
  intro r hr
  rw [heap_setCell_ne _ _ _ hr, heap_setCell_ne _ _ _ hr, heap_setCell_ne _ _ _ hr]
 have hab : ((((w.setCell ⟨ab, 0, none⟩ (.bool (L.AV an).ok)).setCell ⟨ab, 1, none⟩ (.int .i64 (L.AV an).n)).setCell ⟨ab, 2, none⟩ (.slice (L.AV an).la (L.AV an).ll (L.AV an).lc))).heap[ab]? = some (.cells #[.bool (L.AV an).ok, .int .i64 (L.AV an).n, .slice (L.AV an).la (L.AV an).ll (L.AV an).lc] 46 (0, 0)) := by
  obtain ⟨a, b, c, h1⟩ := ha.o
  rw [heap_setCell_eq (heap_setCell_eq (heap_setCell_eq h1 _) _) _]
  rfl
 generalize (((w.setCell ⟨ab, 0, none⟩ (.bool (L.AV an).ok)).setCell ⟨ab, 1, none⟩ (.int .i64 (L.AV an).n)).setCell ⟨ab, 2, none⟩ (.slice (L.AV an).la (L.AV an).ll (L.AV an).lc)) = W at hsz hne hab ⊢
 have hU : OU L p g x W := h.stable hL (by omega) fun r hr => hne r (by
  rintro rfl
  rcases hr with hr | hr
  ·exact hnb.1 hr
  ·exact hr hnb.2)
 have hauW : L.AU an W := hL.sA an w W hau (by omega) fun r hr => hne r (hna r hr).2
 have hwfW : Wf F W := by
  constructor
  intro r z hz
  obtain ⟨c, e, z0, h1, h2⟩ := hwf.own r z hz
  refine ⟨c, e, z0, (hne r ?_).trans h1, h2⟩
  rintro rfl
  rw [hF r (.inr rfl)] at hz
  cases hz
 have ht := hU.thr i hi
 have hmF : ∀ r, (r = p.aa ∨ some r = Value.ownBlock (x.th i).row) → F r = none := by
  rintro r (rfl | hr)
  ·exact hF _ (.inl (.inr (.inl rfl)))
  ·exact hF _ (.inl (.inr (.inr ⟨i, hi, .inl hr.symm⟩)))
 obtain ⟨c0, harr, hcs, hci⟩ := hU.arr
 have hrI : ∀ r, p.I r ≠ none → some r ≠ Value.ownBlock (x.th i).row := fun r hr e => hr (h.inone r (.inr (.inr ⟨i, hi, .inl e.symm⟩)))
 have key := dg_2b (F := FU F (fun r => r = p.aa ∨ some r = Value.ownBlock (x.th i).row) W) (w := W) (nn := W.heap.size) (main := false) (cs := cs) (kk := [.inBlock 1, .code dgr7, .inLoop dgs2, .inBlock 0]) (Stop := fun a u => ∃ v' A, a = G ((Go.Conc.base 68).at ⟨A, []⟩ [.inBlock 1, .code dgr7, .inLoop dgs2, .inBlock 0]) cs ∧ NotedA (FU F (fun r => r = p.aa ∨ some r = Value.ownBlock (x.th i).row) W) p.aa ab i (x.th i).k (x.th i).row (.bool (L.AV an).ok) (.int .i64 (L.AV an).n) (.slice (L.AV an).la (L.AV an).ll (L.AV an).lc) (((x.th i).ans.map fun a => (L.AV a).cells).flatten) W u v' ∧ Slots 33 A (dgS8 p (g.st i) i (x.th i).k ab))
  fu_under (Nat.le_refl _) ⟨rfl, rfl, rfl⟩ hi (by omega) ⟨fu_wf, hP.av W hU.fix, hP.ib W hU.fix i hi, ⟨c0, harr, hci i hi⟩, hab⟩ (by rw [← ht.al]; exact ht.row) (fu_mine (.inl rfl)) (fun b hb => fu_mine (.inr hb.symm)) ⟨fun e => (h.ts i hi _ (.inl e.symm)).2 rfl, fun e => hnb.1 (.inr (.inr ⟨i, hi, .inl e.symm⟩)), hrI _ hP.inI.1, hrI _ (hP.inI.2 i hi)⟩
  (fun r c e z0 h1 h2 h3 h4 => ⟨_, fu_cells (fun hm => hm.elim h2 h3) h1, fun e => by simp only [Prod.mk.injEq] at e; omega⟩) hA1 fun w2 v' A2 hn hA2 => .stop fun d => ⟨v', A2, rfl, hn.at d, hA2⟩
 refine (own_weaken (fun a ha => fu_held hwfW hmF ha) key).bind fun a u hs => ?_
 obtain ⟨v', A2, rfl, hn, hA2⟩ := hs u.drawn
 have hn : NotedA _ p.aa ab i (x.th i).k (x.th i).row (.bool (L.AV an).ok) (.int .i64 (L.AV an).n) (.slice (L.AV an).la (L.AV an).ll (L.AV an).lc) (((x.th i).ans.map fun a => (L.AV a).cells).flatten) W u v' := hn
 refine dg_2c (by omega) hA2 fun A3 hA3 => ?_
 obtain ⟨q1, q2⟩ := ou_noted hL hP hi hU hc hk hauW hna rfl hn
 refine K u A3 v' q1 (fun r hr => ?_) (by have := hn.size; omega) ?_ hA3
 ·rcases q2 r hr with h1 | h1 | h1
  ·exact .inl h1
  ·exact .inr (.inl h1)
  ·exact .inr (.inr (by omega))
 ·constructor
  intro r z hz
  obtain ⟨c, e, z0, h1, h2⟩ := hwfW.own r z hz
  refine ⟨c, e, z0, (hn.old r (Array.getElem?_eq_some_iff.1 h1).1 ?_ ?_).trans h1, h2⟩
  ·rintro rfl
   rw [hmF _ (.inl rfl)] at hz
   cases hz
  ·intro e
   rw [hmF _ (.inr e)] at hz
   cases hz
end
noncomputable section
variable {F : Fz} {w w' w0 : World} {L : Lay} {p : Par} {g : Gate} {x y x0 : OX L} {i : Nat}
theorem OU.at (hL : L.Ok) (h : OU L p g x w) (d : Nat) : OU L p g x (w.at d) := h.stable hL (Nat.le_refl _) fun _ _ => rfl
theorem wf_none (hw0 : Wf F w0) {r : Nat} (h : w0.heap.size ≤ r) : F r = none := by
 cases e : F r with
 | none => rfl
 | some z =>
  obtain ⟨c, e1, z0, h1, _⟩ := hw0.own r z e
  have := (Array.getElem?_eq_some_iff.1 h1).1
  omega
theorem wf_under (hw0 : Wf F w0) : Under F w0.heap.size := by
 intro r z h
 obtain ⟨c, e1, z0, h1, _⟩ := hw0.own r z h
 exact (Array.getElem?_eq_some_iff.1 h1).1
theorem nf_after (hL : L.Ok) (h : OU L p g x w) (hi : i < p.n) {s' : L.S} {r : Nat} (hr : (∃ c A ab, (x.th i).call = some (c, A, ab) ∧ L.CR c r) ∨ w.heap.size ≤ r) (hs : ¬ L.SR s' r) : NF L p (upd x i s' { x.th i with call := none }) r := by
 have hM : ∀ q, (∃ c A ab, (x.th i).call = some (c, A, ab) ∧ L.CR c q) → MineC L x i q := fun q h => .inr h
 refine ⟨?_, ?_⟩
 ·rintro (h1 | rfl | ⟨j, hj, h1⟩)
  ·exact hs h1
  ·rcases hr with hr | hr
   ·exact h.aaM hi (hM _ hr)
   ·have := h.aalt; omega
  ·by_cases e : j = i
   ·subst e
    rw [upd_self] at h1
    rcases h1 with h1 | ⟨a, ha, h1⟩ | ⟨c, A, ab, h1, _⟩
    ·rcases hr with hr | hr
     ·exact h.rowM hj h1 (hM _ hr)
     ·have := (h.thr j hj).low hL (.inl h1); omega
    ·rcases hr with hr | hr
     ·exact h.ansM hj ha h1 (hM _ hr)
     ·have := (h.thr j hj).low hL (.inr (.inl ⟨a, ha, h1⟩)); omega
    ·cases h1
   ·rw [upd_ne e] at h1
    rcases hr with hr | hr
    ·exact h.other hi hj e h1 (hM _ hr)
    ·have := (h.thr j hj).low hL h1; omega
 ·rcases hr with hr | hr
  ·exact h.inone r (mine_or hi (hM _ hr))
  ·exact h.inone' (.inr hr)
theorem nf_ab (hL : L.Ok) (h : OU L p g x w) (hi : i < p.n) {s' : L.S} (hsr : ∀ q, L.SR s' q → MineC L x i q ∨ w.heap.size ≤ q) {c0 : L.C} {A0 : Array Value} {ab : Nat} (hc : (x.th i).call = some (c0, A0, ab)) : NF L p (upd x i s' { x.th i with call := none }) ab := by
 have hT : TR (x.th i) ab := .inr (.inr ⟨c0, A0, ab, hc, .inl rfl⟩)
 obtain ⟨_, k2, _, k4, k5, _, k7, _⟩ := (h.thr i hi).call c0 A0 ab hc
 refine ⟨?_, h.inone ab (.inr (.inr ⟨i, hi, hT⟩))⟩
 rintro (h1 | e1 | ⟨j, hj, h1⟩)
 ·rcases hsr ab h1 with h2 | h2
  ·exact h.abM hi hc h2
  ·have := (h.thr i hi).low hL hT; omega
 ·exact (h.ts i hi ab hT).2 e1
 ·by_cases e : j = i
  ·subst e
   rw [upd_self] at h1
   rcases h1 with h1 | ⟨a, ha, h1⟩ | ⟨c, A, ab, h1, _⟩
   ·exact k5 h1.symm
   ·exact (k7 a ha ab h1).1 rfl
   ·cases h1
  ·rw [upd_ne e] at h1
   exact h.tt j i hj hi e ab h1 hT
theorem nf_fresh (hL : L.Ok) (h : OU L p g x w) (hi : i < p.n) {s' : L.S} (hsr : ∀ q, L.SR s' q → MineC L x i q ∨ w.heap.size ≤ q) {ab : Nat} (hlt : ab < w.heap.size) (hn : NF L p x ab) (hc : (x.th i).call = none) : NF L p (upd x i s' { x.th i with call := none }) ab := by
 refine ⟨?_, hn.2⟩
 rintro (h1 | e1 | ⟨j, hj, h1⟩)
 ·rcases hsr ab h1 with h2 | h2
  ·exact hn.1 (mine_or hi h2)
  ·omega
 ·exact hn.1 (.inr (.inl e1))
 ·by_cases e : j = i
  ·subst e
   rw [upd_self] at h1
   have h2 : TR (x.th j) ab := by
    rcases h1 with h1 | h1 | ⟨c, A, ab, h1, _⟩
    ·exact .inl h1
    ·exact .inr (.inl h1)
    ·cases h1
   exact hn.1 (.inr (.inr ⟨j, hj, h2⟩))
  ·rw [upd_ne e] at h1
   exact hn.1 (.inr (.inr ⟨j, hj, h1⟩))
def TEnd (L : Lay) (p : Par) (g : Gate) (i : Nat) (y : OX L) (cs : List Frame) (a : Goroutine) : Prop :=
 ((opsUsers L p g).liv y i = true ∧ a = G (Frame.enter Try.prog 119 #[.pointer (some ⟨g.st i, 0, none⟩)] .normal) ((opsUsers L p g).fr y i ++ cs)) ∨ ((opsUsers L p g).liv y i = false ∧ ∃ v, a = back v cs)
def AdvTo (L : Lay) (p : Par) (g : Gate) (i : Nat) (x0 : OX L) (w0 : World) (S : OX L → Prop) (x : OX L) (cs : List Frame) (a : Goroutine) (u : World) : Prop :=
 ∃ y, S y ∧ (∀ j, j ≠ i → y.th j = x.th j) ∧ OU L p g y u ∧ (∀ r, OR L p y r → OR L p x0 r ∨ w0.heap.size ≤ r) ∧ TEnd L p g i y cs a
theorem own_adv (hL : L.Ok) (hP : p.Ok L) (hi : i < p.n) (hF0 : ∀ r, OR L p x0 r → F r = none) (hw0 : Wf F w0) (c : Frame) (cs : List Frame) : ∀ (m : Nat) (x : OX L) (w : World) (A : Array Value), (p.ops i).length - (x.th i).k = m → OU L p g x w → (x.th i).call = none → Wf F w → w0.heap.size ≤ w.heap.size → (∀ r, OR L p x r → OR L p x0 r ∨ w0.heap.size ≤ r) → Slots 33 A (dgS p (g.st i) i (x.th i).k) →
  Own Try.prog false F (AdvTo L p g i x0 w0 (fun y => Adv L p i (x.s, x.th i) (y.s, y.th i)) x (c :: cs)) (G ((Go.Conc.base 68).at ⟨A, []⟩ [.code dgs2, .inLoop dgs2, .inBlock 0]) (c :: cs)) w := by
 have hFn : ∀ r, OR L p x0 r ∨ w0.heap.size ≤ r → F r = none := fun r h => h.elim (hF0 r) (wf_none hw0)
 intro m
 induction m with
 | zero =>
  intro x w A hm h hc hwf hsz hO hA
  have hk : (x.th i).k = (p.ops i).length := by have := (h.thr i hi).kl; omega
  rw [hk] at hA
  refine dg_3 hA (.stop fun d => ⟨x, .done hc hk, fun j _ => rfl, h.at hL d, hO, .inr ⟨?_, _, rfl⟩⟩)
  show (x.th i).call.isSome = false
  rw [hc]
  rfl
 | succ m ih =>
  intro x w A hm h hc hwf hsz hO hA
  have hk : (x.th i).k < (p.ops i).length := by omega
  obtain ⟨o, ho⟩ : ∃ o, (p.ops i)[(x.th i).k]? = some o := ⟨_, List.getElem?_eq_getElem hk⟩
  obtain ⟨opb, oo, hoa, f0, f1, f2, f3, g0, g1, g2, g3⟩ := hP.op w h.fix i hi _ o ho
  have hdb := hP.db w h.fix
  have hib := hP.ib w h.fix i hi
  have hA' := hA
  unfold dgS at hA'
  rw [hoa] at hA'
  refine dg_1 (wf_under hwf) (Nat.le_refl _) hL.call hk (hP.len i hi) hdb.c hdb.z hib.c hib.z hdb.lt hib.lt f0 f1 f2 f3 g0 g1 g2 g3 hA' fun A1 hA1 => ?_
  have hA1' : Slots 33 A1 (dgS8 p (g.st i) i (x.th i).k (w.heap.size + 1)) := by
   unfold dgS8
   rw [hoa]
   obtain ⟨b0, b1, b2, b3, b4, b5, b6, b7, b8⟩ := hA1
   exact ⟨b0, b1, b2, b3, b4, b5, b7, b8⟩
  have e1 : ∀ r, r < w.heap.size → ((w.alloc (.cells #[.int .i64 o.kd, .int .i64 o.a, .int .i64 o.b, .int .i64 o.c] 44)).alloc (.cells #[.bool false, .int .i64 0, .slice none 0 0] 46)).heap[r]? = w.heap[r]? := fun r hr => by
   rw [heap_alloc_lt _ _ (by simp; omega), heap_alloc_lt _ _ hr]
  have e2 : ((w.alloc (.cells #[.int .i64 o.kd, .int .i64 o.a, .int .i64 o.b, .int .i64 o.c] 44)).alloc (.cells #[.bool false, .int .i64 0, .slice none 0 0] 46)).heap[w.heap.size + 1]? = some (.cells #[.bool false, .int .i64 0, .slice none 0 0] 46 (0, 0)) := by
   have := heap_alloc_new (w.alloc (.cells #[.int .i64 o.kd, .int .i64 o.a, .int .i64 o.b, .int .i64 o.c] 44)) (.cells #[.bool false, .int .i64 0, .slice none 0 0] 46)
   simpa using this
  have e3 : ((w.alloc (.cells #[.int .i64 o.kd, .int .i64 o.a, .int .i64 o.b, .int .i64 o.c] 44)).alloc (.cells #[.bool false, .int .i64 0, .slice none 0 0] 46)).heap.size = w.heap.size + 2 := by simp
  generalize (w.alloc (.cells #[.int .i64 o.kd, .int .i64 o.a, .int .i64 o.b, .int .i64 o.c] 44)).alloc (.cells #[.bool false, .int .i64 0, .slice none 0 0] 46) = W at e1 e2 e3 ⊢
  have hx : OU L p g x W := h.stable hL (by omega) fun r hr => e1 r (hr.elim (h.low hL) (fixed_lt h.fix))
  have hans : Ans W (w.heap.size + 1) := ⟨⟨_, _, _, e2⟩⟩
  have hnf : NF L p x (w.heap.size + 1) := ⟨fun hh => by have := h.low hL hh; omega, h.inone' (.inr (by omega))⟩
  have hwf1 : Wf F W := by
   constructor
   intro r z hz
   obtain ⟨c, e, z0, h1, h2⟩ := hwf.own r z hz
   exact ⟨c, e, z0, (e1 r (Array.getElem?_eq_some_iff.1 h1).1).trans h1, h2⟩
  have hSF : ∀ r, L.SR x.s r → F r = none := fun r hr => hFn r (hO r (.inl hr))
  have key := own_gd (hL.beg x.s i o (g.st i) (FU F (fun r => L.SR x.s r) W) W (dgFr A1) (c :: cs) hx.su fu_wf fun r hr => fu_mine hr)
  refine (own_weaken (fun a ha => fu_held hwf1 hSF ha) key).bind fun a u hs => ?_
  obtain ⟨hgd, s', res, hrel, hsu, hsr, hres⟩ := hs u.drawn
  have hgd : Gd (FU F (fun r => L.SR x.s r) W) W u := hgd
  have hsu : L.SU s' u := hsu
  have hus : W.heap.size ≤ u.heap.size := hgd.size
  have hsame : ∀ r, r < W.heap.size → ¬ MineC L x i r → u.heap[r]? = W.heap[r]? := fun r hr hm => fu_same hgd (fun hh => hm (.inl hh)) hr
  have hsr2 : ∀ q, L.SR s' q → MineC L x i q ∨ W.heap.size ≤ q := by
   intro q hq
   rcases hsr q hq with h1 | h1 | h1
   ·exact .inl (.inl h1)
   ·exact h1.elim
   ·exact .inr h1
  have hwf2 : Wf F u := by
   constructor
   intro r z hz
   obtain ⟨c, e, z0, h1, h2⟩ := hwf1.own r z hz
   refine ⟨c, e, z0, (fu_same hgd (fun hh => ?_) (Array.getElem?_eq_some_iff.1 h1).1).trans h1, h2⟩
   rw [hSF r hh] at hz
   cases hz
  cases res with
  | inl c1 =>
   obtain ⟨hjj, hcu, hcr, hcs, rfl⟩ := hres
   have hcu : L.CU c1 u := hcu
   obtain ⟨q1, q2⟩ := ou_next hL hx hi hus hsame hsu hsr2 (call' := some (c1, A1, w.heap.size + 1)) (fun _ c2 h2 => hL.jb _ _ _ _ _ _ _ h2 hrel) (by
    intro c A ab e
    cases e
    exact ⟨hjj, hA1', hcu, fun q hq => (hcr q hq).elim False.elim .inr, hcs, hk, .inr ⟨hans, hnf⟩⟩)
   refine .stop fun d => ⟨_, ?_, fun j hj => upd_ne hj, q1.at hL d, fun r hr => ?_, .inl ⟨?_, ?_⟩⟩
   ·show Adv L p i (x.s, x.th i) (s', (upd x i s' { x.th i with call := some (c1, A1, w.heap.size + 1) }).th i)
    rw [upd_self]
    exact .live ho hrel
   ·rcases q2 r hr with h1 | h1 | ⟨c2, A2, h1⟩
    ·exact hO r h1
    ·exact .inr (by omega)
    ·cases h1
     exact .inr (by omega)
   ·show ((upd x i s' { x.th i with call := some (c1, A1, w.heap.size + 1) }).th i).call.isSome = true
    rw [upd_self]
    rfl
   ·simp only [opsUsers, upd_self, List.append_assoc, List.cons_append, List.nil_append]
  | inr an =>
   obtain ⟨hau, har, has, rfl⟩ := hres
   have hau : L.AU an u := hau
   obtain ⟨q1, q2⟩ := ou_next hL hx hi hus hsame hsu hsr2 (call' := none) (fun _ c2 h2 => hL.jb _ _ _ _ _ _ _ h2 hrel) (by intro c A ab e; cases e)
   have hq2 : ∀ r, OR L p (upd x i s' { x.th i with call := none }) r → OR L p x0 r ∨ w0.heap.size ≤ r := by
    intro r hr
    rcases q2 r hr with h1 | h1 | ⟨c2, A2, h1⟩
    ·exact hO r h1
    ·exact .inr (by omega)
    ·cases h1
   have hti : (upd x i s' { x.th i with call := none }).th i = { x.th i with call := none } := upd_self
   have hAn : ∀ q, L.AR an q → W.heap.size ≤ q := fun q hq => (har q hq).elim False.elim id
   refine own_note hL hP hi (ab := w.heap.size + 1) q1 (by rw [hti]) (by rw [hti]; exact hk) hau (fun r hr => ⟨nf_after hL hx hi (.inr (hAn r hr)) (has r hr), fun e => by have := hAn r hr; omega⟩) (ans_same hans (hsame _ (by omega) fun hm => hnf.1 (mine_or hi hm))) (nf_fresh hL hx hi hsr2 (by omega) hnf hc) hwf2 ?_ (by rw [hti]; exact hA1') ?_
   ·rintro r (h1 | rfl)
    ·exact hFn r (hq2 r h1)
    ·exact hFn _ (.inr (by omega))
   ·intro w' A2 v' r1 r2 r3 r4 r5
    rw [hti] at r1 r2 r5
    have hti2 : ∀ t : Thr L, (upd (upd x i s' { x.th i with call := none }) i (upd x i s' { x.th i with call := none }).s t).th i = t := fun t => upd_self
    refine (ih _ w' A2 (by rw [hti2]; simp only; omega) r1 (by rw [hti2]) r4 (by omega) ?_ (by rw [hti2]; exact r5)).bind fun a u hs => .stop fun d => ?_
    ·intro r hr
     rcases r2 r hr with h1 | h1 | h1
     ·exact hq2 r h1
     ·exact .inr (by have := hAn r h1; omega)
     ·exact .inr (by omega)
    ·obtain ⟨y, k1, k2, k3, k4, k5⟩ := hs d
     refine ⟨y, ?_, fun j hj => ?_, k3, k4, k5⟩
     ·rw [hti2] at k1
      exact .imm ho hrel k1
     ·rw [k2 j hj, upd_ne hj, upd_ne hj]
end
noncomputable section
variable {F : Fz} {w w' w0 : World} {L : Lay} {p : Par} {g : Gate} {x y x0 : OX L} {i : Nat}
theorem plain_dg (A : Array Value) : Plain (dgFr A) := ⟨rfl, rfl, ⟨_, Try.func68⟩⟩
theorem own_stp (hL : L.Ok) (hP : p.Ok L) (hi : i < p.n) (h : OU L p g x w) {c0 : L.C} {A : Array Value} {ab : Nat} (hc : (x.th i).call = some (c0, A, ab)) (hwf : Wf F w) (hF : ∀ r, OR L p x r → F r = none) (c : Frame) (cs : List Frame) :
  Own Try.prog false F (AdvTo L p g i x w (fun y => Stp L p i (x.s, x.th i) (y.s, y.th i)) x (c :: cs)) (back (.tuple #[]) (L.cf (g.st i) c0 ++ dgFr A :: c :: cs)) w := by
 obtain ⟨hA, hans, hcu0, k4, k5, k6, k7, hk⟩ := (h.thr i hi).call c0 A ab hc
 have hT : TR (x.th i) ab := .inr (.inr ⟨c0, A, ab, hc, .inl rfl⟩)
 have hablt : ab < w.heap.size := (h.thr i hi).low hL hT
 have hdis : ∀ q, L.CR c0 q → ¬ L.SR x.s q := fun q hq => (h.ts i hi q (.inr (.inr ⟨c0, A, ab, hc, .inr hq⟩))).1
 have hMF : ∀ r, (L.SR x.s r ∨ L.CR c0 r) → F r = none := fun r hr => hF r (hr.elim .inl fun hr => .inr (.inr ⟨i, hi, .inr (.inr ⟨c0, A, ab, hc, .inr hr⟩)⟩))
 have key := own_gd (hL.stp x.s c0 (g.st i) (FU F (fun r => L.SR x.s r ∨ L.CR c0 r) w) w (dgFr A) (c :: cs) (h.jj i hi c0 A ab hc) h.su hcu0 hdis fu_wf fun r hr => fu_mine hr)
 refine (own_weaken (fun a ha => fu_held hwf hMF ha) key).bind fun a u hs => ?_
 obtain ⟨hgd, s', res, hrel, hsu, hsr, hres⟩ := hs u.drawn
 have hgd : Gd (FU F (fun r => L.SR x.s r ∨ L.CR c0 r) w) w u := hgd
 have hsu : L.SU s' u := hsu
 have hus : w.heap.size ≤ u.heap.size := hgd.size
 have hCM : ∀ q, L.CR c0 q → MineC L x i q := fun q hq => .inr ⟨c0, A, ab, hc, hq⟩
 have hsame : ∀ r, r < w.heap.size → ¬ MineC L x i r → u.heap[r]? = w.heap[r]? := fun r hr hm => fu_same hgd (fun hh => hm (hh.elim .inl (hCM r))) hr
 have hsr2 : ∀ q, L.SR s' q → MineC L x i q ∨ w.heap.size ≤ q := by
  intro q hq
  rcases hsr q hq with h1 | h1 | h1
  ·exact .inl (.inl h1)
  ·exact .inl (hCM q h1)
  ·exact .inr h1
 have hwf2 : Wf F u := by
  constructor
  intro r z hz
  obtain ⟨c, e, z0, h1, h2⟩ := hwf.own r z hz
  refine ⟨c, e, z0, (fu_same hgd (fun hh => ?_) (Array.getElem?_eq_some_iff.1 h1).1).trans h1, h2⟩
  rw [hMF r hh] at hz
  cases hz
 cases res with
 | inl c1 =>
  obtain ⟨hjj, hcu, hcr, hcs, rfl⟩ := hres
  have hcu : L.CU c1 u := hcu
  obtain ⟨q1, q2⟩ := ou_next hL h hi hus hsame hsu hsr2 (call' := some (c1, A, ab)) (fun _ c2 h2 => hL.js _ _ _ _ _ _ h2 hrel) (by
   intro c A1 ab1 e
   cases e
   exact ⟨hjj, hA, hcu, fun q hq => (hcr q hq).elim (fun h1 => .inl (hCM q h1)) .inr, hcs, hk, .inl ⟨c0, A, hc⟩⟩)
  refine .stop fun d => ⟨_, ?_, fun j hj => upd_ne hj, q1.at hL d, fun r hr => ?_, .inl ⟨?_, ?_⟩⟩
  ·show Stp L p i (x.s, x.th i) (s', (upd x i s' { x.th i with call := some (c1, A, ab) }).th i)
   rw [upd_self]
   exact .live hc hrel
  ·rcases q2 r hr with h1 | h1 | ⟨c2, A2, h1⟩
   ·exact .inl h1
   ·exact .inr h1
   ·cases h1
    exact .inl (.inr (.inr ⟨i, hi, hT⟩))
  ·show ((upd x i s' { x.th i with call := some (c1, A, ab) }).th i).call.isSome = true
   rw [upd_self]
   rfl
  ·simp only [opsUsers, upd_self, List.append_assoc, List.cons_append, List.nil_append]
 | inr an =>
  obtain ⟨hau, har, has, rfl⟩ := hres
  have hau : L.AU an u := hau
  obtain ⟨q1, q2⟩ := ou_next hL h hi hus hsame hsu hsr2 (call' := none) (fun _ c2 h2 => hL.js _ _ _ _ _ _ h2 hrel) (by intro c A ab e; cases e)
  have hFn : ∀ r, OR L p x r ∨ w.heap.size ≤ r → F r = none := fun r h => h.elim (hF r) (wf_none hwf)
  have hq2 : ∀ r, OR L p (upd x i s' { x.th i with call := none }) r → OR L p x r ∨ w.heap.size ≤ r := by
   intro r hr
   rcases q2 r hr with h1 | h1 | ⟨c2, A2, h1⟩
   ·exact .inl h1
   ·exact .inr h1
   ·cases h1
  have hti : (upd x i s' { x.th i with call := none }).th i = { x.th i with call := none } := upd_self
  have hOA : ∀ q, L.AR an q → OR L p x q ∨ w.heap.size ≤ q := fun q hq => (har q hq).elim (fun h1 => .inl (mine_or hi (hCM q h1))) .inr
  refine own_note hL hP hi (ab := ab) q1 (by rw [hti]) (by rw [hti]; exact hk) hau (fun r hr => ⟨nf_after hL h hi ((har r hr).elim (fun h1 => .inl ⟨c0, A, ab, hc, h1⟩) .inr) (has r hr), ?_⟩) (ans_same hans (hsame _ hablt (h.abM hi hc))) (nf_ab hL h hi hsr2 hc) hwf2 ?_ (by rw [hti]; exact hA) ?_
  ·rintro rfl
   rcases har _ hr with h1 | h1
   ·exact k4 h1
   ·omega
  ·rintro r (h1 | rfl)
   ·exact hFn r (hq2 r h1)
   ·exact hFn _ (.inl (.inr (.inr ⟨i, hi, hT⟩)))
  ·intro w' A2 v' r1 r2 r3 r4 r5
   rw [hti] at r1 r2 r5
   have hti2 : ∀ t : Thr L, (upd (upd x i s' { x.th i with call := none }) i (upd x i s' { x.th i with call := none }).s t).th i = t := fun t => upd_self
   refine (own_adv hL hP hi hF hwf c cs _ _ w' A2 rfl r1 (by rw [hti2]) r4 (by omega) ?_ (by rw [hti2]; exact r5)).bind fun a u hs => .stop fun d => ?_
   ·intro r hr
    rcases r2 r hr with h1 | h1 | h1
    ·exact hq2 r h1
    ·exact hOA r h1
    ·exact .inr (by omega)
   ·obtain ⟨y, k1, k2, k3, k4, k5⟩ := hs d
    refine ⟨y, ?_, fun j hj => ?_, k3, k4, k5⟩
    ·rw [hti2] at k1
     exact .ans hc hrel k1
    ·rw [k2 j hj, upd_ne hj, upd_ne hj]
theorem ops_ok (hL : L.Ok) (hP : p.Ok L) (hn : g.n = p.n) : (opsUsers L p g).Ok g where
 call := callable68
 plain := by
  intro x i hl
  have hl : (x.th i).call.isSome = true := hl
  obtain ⟨⟨c0, A, ab⟩, hc⟩ := Option.isSome_iff_exists.1 hl
  have e : (opsUsers L p g).fr x i = L.cf (g.st i) c0 ++ [dgFr A] := by simp only [opsUsers, hc]
  rw [e]
  refine ⟨by simp, fun u hu => ?_⟩
  rcases List.mem_append.1 hu with hu | hu
  ·exact (hL.plain _ _).2 u hu
  ·rw [List.mem_singleton] at hu
   subst hu
   exact plain_dg A
 stable := fun x w w' h hsz hs => OU.stable hL h hsz hs
 fix := fun x w r o h hr => ⟨OU.fix h r o hr, hP.cells r o hr⟩
 low := fun x w r h hr => OU.low hL h hr
 stpO := by
  intro x i y j h hj
  have e := h.2 j hj
  exact ⟨by simp only [opsUsers, e], by simp only [opsUsers, e]⟩
 borO := by
  intro x i y j h hj
  have e := h.2 j hj
  exact ⟨by simp only [opsUsers, e], by simp only [opsUsers, e]⟩
 nwO := by
  intro x i y j h hj hnw
  have e := h.2 j hj
  simp only [opsUsers, e] at hnw ⊢
  exact hnw
 go := by
  intro x i hi hl F w c cs h hwf hF
  have hl : (x.th i).call.isSome = true := hl
  obtain ⟨⟨c0, A, ab⟩, hc⟩ := Option.isSome_iff_exists.1 hl
  have e : (opsUsers L p g).fr x i ++ c :: cs = L.cf (g.st i) c0 ++ dgFr A :: c :: cs := by simp only [opsUsers, hc, List.append_assoc, List.cons_append, List.nil_append]
  rw [e]
  refine (own_stp hL hP (by omega) h hc hwf hF c cs).bind fun a u hs => .stop fun d => ?_
  obtain ⟨y, k1, k2, k3, k4, k5⟩ := hs d
  exact ⟨y, ⟨k1, k2⟩, k3, k4, k5⟩
 born := by
  intro x i hi hnw F w c cs h hwf hF
  have h : OU L p g x w := h
  have hob := hP.ob w h.fix i (by omega)
  have hF : ∀ r, OR L p x r → F r = none := hF
  refine dg_0 (sv := stepperV (g.st i)) (ob := p.ob i) (db := p.db) (ib := p.ib i) (av := p.av) hob.c hob.z fun A hA => ?_
  refine (own_adv hL hP (by omega) hF hwf c cs _ x w A rfl h hnw.1 hwf (Nat.le_refl _) (fun r hr => .inl hr) (by rw [hnw.2]; exact hA)).bind fun a u hs => .stop fun d => ?_
  obtain ⟨y, k1, k2, k3, k4, k5⟩ := hs d
  exact ⟨y, ⟨k1, k2⟩, k3, k4, k5⟩
end
noncomputable section
variable {F : Fz} {w w' : World}
structure QS where
 q : RQ
 bl : List Nat
def QS.bk (s : QS) (k : Nat) : Nat := s.bl.getD k 0
def QS.pt (s : QS) (k : Nat) : Value := .pointer (some ⟨s.bk k, 0, none⟩)
def QS.nv (s : QS) (n : Option Nat) : Value := .pointer (n.map fun n => ⟨s.bk n, 0, none⟩)
structure QU (qb : Nat) (s : QS) (w : World) : Prop where
 len : s.bl.length = s.q.B.length
 hd : s.q.hd < s.q.B.length
 tl : s.q.tl < s.q.B.length
 nx : ∀ (k : Nat) (v : Int) (n : Nat), s.q.B[k]? = some (v, some n) → n < s.q.B.length
 bx : ∀ (k : Nat) (v : Int) (n : Option Nat), s.q.B[k]? = some (v, n) → w.heap[s.bk k]? = some (.cells #[.int .i64 v, s.nv n] 106 (0, 0))
 q0 : w.heap[qb]? = some (.cells #[s.pt s.q.hd, s.pt s.q.tl] 62 (0, 0))
 nd : ∀ j k, j < s.q.B.length → k < s.q.B.length → s.bk j = s.bk k → j = k
def QR (qb : Nat) (s : QS) (r : Nat) : Prop := r = qb ∨ ∃ k, k < s.q.B.length ∧ r = s.bk k
section
variable {qb : Nat} {s : QS}
theorem QU.get (h : QU qb s w) {k : Nat} (hk : k < s.q.B.length) : ∃ v n, s.q.B[k]? = some (v, n) ∧ s.q.nx k = n ∧ s.q.vl k = v ∧ (∀ m, n = some m → m < s.q.B.length) := by
 have e : s.q.B[k]? = some ((s.q.B[k]).1, (s.q.B[k]).2) := by rw [List.getElem?_eq_getElem hk]
 refine ⟨_, _, e, by simp [RQ.nx, e], by simp [RQ.vl, e], fun m hm => h.nx k (s.q.B[k]).1 m (by rw [e, hm])⟩
theorem QU.box (h : QU qb s w) {k : Nat} (hk : k < s.q.B.length) : w.heap[s.bk k]? = some (.cells #[.int .i64 (s.q.vl k), s.nv (s.q.nx k)] 106 (0, 0)) := by
 obtain ⟨v, n, h1, h2, h3, _⟩ := h.get hk
 rw [h2, h3]
 exact h.bx k v n h1
theorem QU.boxP (h : QU qb s w) {k : Nat} (hk : k < s.q.B.length) : BoxP w (some ⟨s.bk k, 0, none⟩) := .inr ⟨_, _, _, rfl, h.box hk, rfl⟩
theorem QU.nxlt (h : QU qb s w) {k m : Nat} (hm : s.q.nx k = some m) : m < s.q.B.length := by
 unfold RQ.nx at hm
 cases e : s.q.B[k]? with
 | none => rw [e] at hm; cases hm
 | some x =>
  rw [e] at hm
  obtain ⟨v, n⟩ := x
  have hm : n = some m := hm
  subst hm
  exact h.nx k v m e
theorem QU.apart (h : QU qb s w) {k : Nat} (hk : k < s.q.B.length) : s.bk k ≠ qb := by
 intro e
 have h1 := h.box hk
 rw [e, h.q0] at h1
 injection h1 with h1
 injection h1 with _ h1
 exact absurd h1 (by decide)
theorem QU.hc (h : QU qb s w) : w.cell? ⟨qb, 0, none⟩ = some (s.pt s.q.hd) := by simp [World.cell?, h.q0]
theorem QU.tc (h : QU qb s w) : w.cell? ⟨qb, 1, none⟩ = some (s.pt s.q.tl) := by simp [World.cell?, h.q0]
theorem QU.qz (h : QU qb s w) (k : Nat) : w.frozen? ⟨qb, k, none⟩ = false := by simp [World.frozen?, h.q0]
theorem QU.nc (h : QU qb s w) {k : Nat} (hk : k < s.q.B.length) : w.cell? ⟨s.bk k, 1, none⟩ = some (s.nv (s.q.nx k)) := by simp [World.cell?, h.box hk]
theorem QU.vc (h : QU qb s w) {k : Nat} (hk : k < s.q.B.length) : w.cell? ⟨s.bk k, 0, none⟩ = some (.int .i64 (s.q.vl k)) := by simp [World.cell?, h.box hk]
theorem QU.bz (h : QU qb s w) {k : Nat} (hk : k < s.q.B.length) (j : Nat) : w.frozen? ⟨s.bk k, j, none⟩ = false := by simp [World.frozen?, h.box hk]
theorem QU.same (h : QU qb s w) (hs : ∀ r, QR qb s r → w'.heap[r]? = w.heap[r]?) : QU qb s w' :=
 ⟨h.len, h.hd, h.tl, h.nx, fun k v n hk => (hs _ (.inr ⟨k, (List.getElem?_eq_some_iff.1 hk).1, rfl⟩)).trans (h.bx k v n hk), (hs _ (.inl rfl)).trans h.q0, h.nd⟩
theorem QU.low (h : QU qb s w) {r : Nat} (hr : QR qb s r) : r < w.heap.size := by
 rcases hr with rfl | ⟨k, hk, rfl⟩
 ·exact (Array.getElem?_eq_some_iff.1 h.q0).1
 ·exact (Array.getElem?_eq_some_iff.1 (h.box hk)).1
theorem QU.eq (h : QU qb s w) {j k : Nat} (hj : j < s.q.B.length) (hk : k < s.q.B.length) (d : Nat) : PtrEq Try.prog (w.at d) (some ⟨s.bk j, 0, none⟩) (some ⟨s.bk k, 0, none⟩) (decide (j = k)) := by
 by_cases e : j = k
 ·subst e
  have := ptrEq_block (P := Try.prog) (w.at d) ⟨s.bk j, 0, none⟩ ⟨s.bk j, 0, none⟩ rfl
  simpa using this
 ·rw [decide_eq_false e]
  exact ptrEq_apart (a := ⟨s.bk j, 0, none⟩) (b := ⟨s.bk k, 0, none⟩) (fun e1 => e (h.nd j k hj hk e1)) (h.box hj) (h.box hk)
theorem QU.setTl (h : QU qb s w) {n : Nat} (hn : n < s.q.B.length) : QU qb { s with q := { s.q with tl := n } } (w.setCell ⟨qb, 1, none⟩ (s.pt n)) :=
 ⟨h.len, h.hd, hn, h.nx, fun k v m hk => (heap_setCell_ne _ _ _ (h.apart (List.getElem?_eq_some_iff.1 hk).1)).trans (h.bx k v m hk), by rw [heap_setCell_eq h.q0]; rfl, h.nd⟩
theorem QU.setHd (h : QU qb s w) {n : Nat} (hn : n < s.q.B.length) : QU qb { s with q := { s.q with hd := n } } (w.setCell ⟨qb, 0, none⟩ (s.pt n)) :=
 ⟨h.len, hn, h.tl, h.nx, fun k v m hk => (heap_setCell_ne _ _ _ (h.apart (List.getElem?_eq_some_iff.1 hk).1)).trans (h.bx k v m hk), by rw [heap_setCell_eq h.q0]; rfl, h.nd⟩
theorem QU.help (h : QU qb s w) {t n : Nat} (hn : n < s.q.B.length) : QU qb { s with q := s.q.help t n } (if decide (s.q.tl = t) then w.setCell ⟨qb, 1, none⟩ (s.pt n) else w) := by
 unfold RQ.help
 by_cases e : s.q.tl = t
 ·rw [if_pos e, if_pos (by simpa using e)]
  exact h.setTl hn
 ·rw [if_neg e, if_neg (by simpa using e)]
  exact h
theorem QU.link (h : QU qb s w) {t n : Nat} (ht : t < s.q.B.length) (hn : n < s.q.B.length) : QU qb { s with q := s.q.link t n } (w.setCell ⟨s.bk t, 1, none⟩ (s.pt n)) := by
 have hl : (s.q.link t n).B.length = s.q.B.length := by simp [RQ.link]
 refine ⟨by rw [hl]; exact h.len, by rw [hl]; exact h.hd, by rw [hl]; exact h.tl, ?_, ?_, ?_, by rw [hl]; exact h.nd⟩
 ·intro k v m hk
  rw [hl]
  simp only [RQ.link, List.getElem?_modify] at hk
  cases e : s.q.B[k]? with
  | none => rw [e] at hk; cases hk
  | some x =>
   rw [e] at hk
   change some ((fun a : Int × Option Nat => if t = k then (a.1, some n) else a) x) = _ at hk
   by_cases e1 : t = k
   ·simp only [if_pos e1] at hk
    simp only [Option.map_some, Option.some.injEq, Prod.mk.injEq] at hk
    omega
   ·simp only [if_neg e1] at hk
    simp only [Option.map_some, Option.some.injEq] at hk
    exact h.nx k v m (by rw [e]; exact congrArg some hk)
 ·intro k v m hk
  simp only [RQ.link, List.getElem?_modify] at hk
  cases e : s.q.B[k]? with
  | none => rw [e] at hk; cases hk
  | some x =>
   have hkl := (List.getElem?_eq_some_iff.1 e).1
   rw [e] at hk
   change some ((fun a : Int × Option Nat => if t = k then (a.1, some n) else a) x) = _ at hk
   by_cases e1 : t = k
   ·subst e1
    simp only [if_true] at hk
    simp only [Option.map_some, Option.some.injEq, Prod.mk.injEq] at hk
    obtain ⟨rfl, rfl⟩ := hk
    show (w.setCell ⟨s.bk t, 1, none⟩ (s.pt n)).heap[s.bk t]? = _
    rw [heap_setCell_eq (h.bx t x.1 x.2 e)]
    rfl
   ·simp only [if_neg e1] at hk
    simp only [Option.map_some, Option.some.injEq] at hk
    refine (heap_setCell_ne _ _ _ ?_).trans (h.bx k v m (by rw [e]; exact congrArg some hk))
    intro e2
    exact e1 (h.nd t k ht hkl e2.symm)
 ·exact (heap_setCell_ne _ _ _ (fun e => h.apart ht e.symm)).trans h.q0
theorem bk_app {b k : Nat} (hk : k < s.bl.length) {q : RQ} : QS.bk ⟨q, s.bl ++ [b]⟩ k = s.bk k := by
 simp only [QS.bk, List.getD_eq_getElem?_getD, List.getElem?_append_left hk]
theorem QU.new (h : QU qb s w) (v : Int) : QU qb ⟨{ s.q with B := s.q.B ++ [(v, none)] }, s.bl ++ [w.heap.size]⟩ (w.alloc (.cells #[.int .i64 v, .pointer none] 106)) := by
 have hl := h.len
 have hnew : QS.bk ⟨{ s.q with B := s.q.B ++ [(v, none)] }, s.bl ++ [w.heap.size]⟩ s.q.B.length = w.heap.size := by
  simp [QS.bk, List.getD_eq_getElem?_getD, ← hl]
 have hold : ∀ k, k < s.q.B.length → QS.bk ⟨{ s.q with B := s.q.B ++ [(v, none)] }, s.bl ++ [w.heap.size]⟩ k = s.bk k := fun k hk => bk_app (by omega)
 have hlt : ∀ k, k < s.q.B.length → s.bk k < w.heap.size := fun k hk => h.low (.inr ⟨k, hk, rfl⟩)
 have hhd := h.hd
 have htl := h.tl
 refine ⟨by simp [hl], by simp; omega, by simp; omega, ?_, ?_, ?_, ?_⟩
 ·intro k v1 n hk
  simp only [List.length_append, List.length_cons, List.length_nil]
  simp only [List.getElem?_append] at hk
  split at hk
  ·have := h.nx k v1 n hk; omega
  ·rename_i h1
   have : k - s.q.B.length = 0 := by
    rcases Nat.eq_zero_or_pos (k - s.q.B.length) with h2 | h2
    ·exact h2
    ·rw [List.getElem?_eq_none (by simp; omega)] at hk
     cases hk
   rw [this] at hk
   simp at hk
 ·intro k v1 n hk
  simp only [List.getElem?_append] at hk
  split at hk
  ·rename_i h1
   rw [hold k h1, heap_alloc_lt _ _ (hlt k h1), h.bx k v1 n hk]
   have e : QS.nv ⟨{ s.q with B := s.q.B ++ [(v, none)] }, s.bl ++ [w.heap.size]⟩ n = s.nv n := by
    unfold QS.nv
    cases n with
    | none => rfl
    | some n => simp only [Option.map_some]; rw [hold n (h.nx k v1 n hk)]
   rw [e]
  ·rename_i h1
   have : k - s.q.B.length = 0 := by
    rcases Nat.eq_zero_or_pos (k - s.q.B.length) with h2 | h2
    ·exact h2
    ·rw [List.getElem?_eq_none (by simp; omega)] at hk
     cases hk
   rw [this] at hk
   simp only [List.getElem?_cons_zero, Option.some.injEq, Prod.mk.injEq] at hk
   obtain ⟨rfl, rfl⟩ := hk
   obtain rfl : k = s.q.B.length := by omega
   rw [hnew]
   exact heap_alloc_new _ _
 ·rw [heap_alloc_lt _ _ (h.low (.inl rfl)), h.q0]
  unfold QS.pt
  rw [hold _ h.hd, hold _ h.tl]
 ·intro j k hj hk e
  simp only [List.length_append, List.length_cons, List.length_nil] at hj hk
  by_cases ej : j < s.q.B.length
  ·by_cases ek : k < s.q.B.length
   ·rw [hold j ej, hold k ek] at e
    exact h.nd j k ej ek e
   ·obtain rfl : k = s.q.B.length := by omega
    rw [hold j ej, hnew] at e
    have := hlt j ej; omega
  ·obtain rfl : j = s.q.B.length := by omega
   by_cases ek : k < s.q.B.length
   ·rw [hold k ek, hnew] at e
    have := hlt k ek; omega
   ·omega
end
end
noncomputable section
variable {F : Fz} {w w' : World} {qb st : Nat}
structure QC where
 c : RC
 v : Int
 A : Array Value
 A2 : Array Value
 ab : Nat
 eb : Nat
def putIt (ph : Nat) : List Item := match ph with
 | 1 => [.inRegion puto2 [1], .code puts5, .inBlock 1, .inLoop putb1, .inBlock 0]
 | 2 => [.inRegion puto4 [1], .code puts7, .inBlock 1, .inLoop putb1, .inBlock 0]
 | 3 => [.inRegion puto7 [1], .code puts11, .code puts12, .inBlock 1, .inLoop putb1, .inBlock 0]
 | 4 => [.inRegion puto9 [1], .code puts13, .inBlock 1, .inLoop putb1, .inBlock 0]
 | _ => [.inRegion puto11 [1], .code puts15, .inBlock 1, .inLoop putb1, .inBlock 0]
def takIt (ph : Nat) : List Item := match ph with
 | 1 => [.inRegion tako3 [1], .code taks6, .inBlock 1, .inLoop takb1, .inBlock 0]
 | 2 => [.inRegion tako5 [1], .code taks8, .inBlock 1, .inLoop takb1, .inBlock 0]
 | 3 => [.inRegion tako7 [1], .code taks10, .inBlock 1, .inLoop takb1, .inBlock 0]
 | 4 => [.inRegion tako15 [1], .code takr16, .inBlock 2, .inBlock 1, .inLoop takb1, .inBlock 0]
 | _ => [.inRegion tako9 [1], .code taks16, .inBlock 2, .inBlock 1, .inLoop takb1, .inBlock 0]
def empIt (ph : Nat) : List Item := match ph with
 | 1 => [.inRegion empo3 [1], .code emps5]
 | _ => [.inRegion empo5 [1], .code emps7]
def QC.fr (c : QC) : List Frame := match c.c.kd with
 | 1 => [(Go.Conc.base 25).at ⟨c.A, []⟩ (putIt c.c.ph), (Go.Conc.base 38).at ⟨c.A2, []⟩ [.inRegion qdoo3 [4], .code qdos5, .inBlock 0, .code qdos14]]
 | 2 => [(Go.Conc.base 26).at ⟨c.A, []⟩ (takIt c.c.ph), (Go.Conc.base 38).at ⟨c.A2, []⟩ [.inRegion qdoo6 [2, 3, 4, 5, 6, 7], .code qdos8, .inBlock 0, .code qdos14]]
 | _ => [(Go.Conc.base 27).at ⟨c.A, []⟩ (empIt c.c.ph), (Go.Conc.base 38).at ⟨c.A2, []⟩ [.inRegion qdoo10 [2], .code qdoc39, .code qdos13, .inBlock 0, .code qdos14]]
def putSl (qb st : Nat) (s : QS) (c : QC) : List (Nat × Value) := (0, .pointer (some ⟨qb, 0, none⟩)) :: (1, stepperV st) :: (2, .int .i64 c.v) :: (6, s.pt c.c.new) :: (match c.c.ph with
 | 1 => []
 | 2 => [(7, s.pt c.c.T)]
 | 3 => [(7, s.pt c.c.T), (8, s.pt c.c.n)]
 | 4 => [(7, s.pt c.c.T), (8, .pointer none)]
 | _ => [(7, s.pt c.c.T)])
def takSl (qb st : Nat) (s : QS) (c : QC) : List (Nat × Value) := (0, .pointer (some ⟨qb, 0, none⟩)) :: (1, stepperV st) :: (match c.c.ph with
 | 1 => []
 | 2 => [(6, s.pt c.c.H)]
 | 3 => [(6, s.pt c.c.H), (7, s.pt c.c.T)]
 | 4 => [(6, s.pt c.c.H), (7, s.pt c.c.T), (8, s.pt c.c.n)]
 | _ => [(6, s.pt c.c.H), (7, s.pt c.c.T), (8, s.pt c.c.n)])
def empSl (qb st : Nat) (s : QS) (c : QC) : List (Nat × Value) := (0, .pointer (some ⟨qb, 0, none⟩)) :: (1, stepperV st) :: (match c.c.ph with
 | 1 => []
 | _ => [(5, s.pt c.c.H)])
structure QJ (qb st : Nat) (s : QS) (c : QC) : Prop where
 H : c.c.H < s.q.B.length
 T : c.c.T < s.q.B.length
 n : c.c.n < s.q.B.length
 new : c.c.new < s.q.B.length
 kd : c.c.kd = 1 ∨ c.c.kd = 2 ∨ c.c.kd = 3
 ph : 1 ≤ c.c.ph ∧ c.c.ph ≤ if c.c.kd = 3 then 2 else 5
 A : match c.c.kd with
  | 1 => Slots 51 c.A (putSl qb st s c)
  | 2 => Slots 56 c.A (takSl qb st s c)
  | _ => Slots 21 c.A (empSl qb st s c)
 A2 : match c.c.kd with
  | 1 => Slots 43 c.A2 [(8, .pointer (some ⟨c.ab, 0, none⟩))]
  | 2 => Slots 43 c.A2 [(8, .pointer (some ⟨c.ab, 0, none⟩))]
  | _ => Slots 43 c.A2 [(8, .pointer (some ⟨c.ab, 0, none⟩)), (11, .pointer (some ⟨c.eb, 0, none⟩))]
def QExt (s s' : QS) : Prop := s.q.B.length ≤ s'.q.B.length ∧ ∀ k, k < s.q.B.length → s'.bk k = s.bk k
theorem QJ.ext {s s' : QS} {c : QC} (h : QJ qb st s c) (he : QExt s s') : QJ qb st s' c := by
 obtain ⟨he1, he2⟩ := he
 have e : ∀ k, k < s.q.B.length → s'.pt k = s.pt k := fun k hk => by unfold QS.pt; rw [he2 k hk]
 have hH := h.H
 have hT := h.T
 have hn := h.n
 have hnew := h.new
 refine ⟨by omega, by omega, by omega, by omega, h.kd, h.ph, ?_, h.A2⟩
 have := h.A
 simpa only [putSl, takSl, empSl, e _ hH, e _ hT, e _ hn, e _ hnew] using this
def absR : QC ⊕ (Bool × Int) → RR
 | .inl c => .inl c.c
 | .inr a => .inr a
def QCR (c : QC) (r : Nat) : Prop := r = c.ab ∨ (c.c.kd = 3 ∧ r = c.eb)
def QCU (c : QC) (w : World) : Prop := Ans w c.ab ∧ (c.c.kd = 3 → w.heap[c.eb]? = some (.cells #[.bool true, .int .i64 0, .slice none 0 0] 46 (0, 0)) ∧ c.eb ≠ c.ab)
def QLay (qb : Nat) : Lay where
 S := QS
 C := QC
 A := Bool × Int
 SU := QU qb
 SR := QR qb
 CU := QCU
 CR := QCR
 AV := fun a => ⟨a.1, a.2, none, 0, 0⟩
 AU := fun _ _ => True
 AR := fun _ _ => False
 cf := fun st c => stepFr ⟨st, 0, none⟩ :: c.fr
 df := 38
 first := #[.pointer (some ⟨qb, 0, none⟩)]
 capt := #[]
 beg := fun s _ o y => QExt s y.1 ∧ (y.1.q, absR y.2) = s.q.begin o
 stp := fun s c y => QExt s y.1 ∧ (y.1.q, absR y.2) = s.q.step c.c
 J := fun st s c => QJ qb st s c
theorem QCU.same {c : QC} (h : QCU c w) (hs : ∀ r, QCR c r → w'.heap[r]? = w.heap[r]?) : QCU c w' :=
 ⟨ans_same h.1 (hs _ (.inl rfl)), fun hk => ⟨(hs _ (.inr ⟨hk, rfl⟩)).trans (h.2 hk).1, (h.2 hk).2⟩⟩
theorem qr_same {s : QS} {q' : RQ} (hl : q'.B.length = s.q.B.length) {r : Nat} (h : QR qb ⟨q', s.bl⟩ r) : QR qb s r := by
 rcases h with h | ⟨k, hk, h⟩
 ·exact .inl h
 ·exact .inr ⟨k, by simp only at hk; omega, h⟩
theorem q_live {s : QS} {c : QC} {q' : RQ} {rc' : RC} {A' : Array Value} {cs : List Frame} (hQ : QU qb ⟨q', s.bl⟩ w') (hl : q'.B.length = s.q.B.length) (hr : (q', .inl rc') = s.q.step c.c) (hk : rc'.kd = c.c.kd) (hJ : QJ qb st ⟨q', s.bl⟩ { c with c := rc', A := A' }) (hcu : QCU c w) (hdis : ∀ q, QCR c q → ¬ QR qb s q) (hsame : ∀ r, ¬ QR qb s r → w'.heap[r]? = w.heap[r]?) (d : Nat) :
  (QLay qb).Out st s (QCR c) ((QLay qb).stp s c) w cs (G (Frame.enter Try.prog 119 #[.pointer (some ⟨st, 0, none⟩)] .normal) ((QLay qb).cf st { c with c := rc', A := A' } ++ cs)) (w'.at d) := by
 have hcr : ∀ q, QCR { c with c := rc', A := A' } q → QCR c q := by
  rintro q (h | ⟨h1, h2⟩)
  ·exact .inl h
  ·exact .inr ⟨hk ▸ h1, h2⟩
 refine ⟨⟨q', s.bl⟩, .inl { c with c := rc', A := A' }, ⟨⟨by simp only; omega, fun k _ => rfl⟩, hr⟩, hQ.same fun _ _ => rfl, fun q h => .inl (qr_same hl h), hJ, ?_, fun q h => .inl (hcr q h), fun q h h2 => hdis q (hcr q h) (qr_same hl h2), rfl⟩
 have : QCU { c with c := rc', A := A' } w := ⟨hcu.1, fun h => hcu.2 (hk ▸ h)⟩
 exact this.same fun r hr => hsame r (hdis r (hcr r hr))
theorem q_ans {s : QS} {c : QC} {q' : RQ} {an : Bool × Int} {cs : List Frame} (hQ : QU qb ⟨q', s.bl⟩ w') (hl : q'.B.length = s.q.B.length) (hr : (q', .inr an) = s.q.step c.c) (d : Nat) :
  (QLay qb).Out st s (QCR c) ((QLay qb).stp s c) w cs (back (.agg #[.bool an.1, .int .i64 an.2, .slice none 0 0]) cs) (w'.at d) :=
 ⟨⟨q', s.bl⟩, .inr an, ⟨⟨by simp only; omega, fun k _ => rfl⟩, hr⟩, hQ.same fun _ _ => rfl, fun q h => .inl (qr_same hl h), trivial, fun q h => h.elim, fun q h => h.elim, rfl⟩
theorem help_same {s : QS} {t : Nat} {v : Value} (r : Nat) (hr : ¬ QR qb s r) : (if decide (s.q.tl = t) then w.setCell ⟨qb, 1, none⟩ v else w).heap[r]? = w.heap[r]? := by
 split
 ·exact heap_setCell_ne _ _ _ (fun e => hr (.inl e))
 ·rfl
theorem not_heldB {b : Nat} (h : F b = none) (k : Nat) : ¬ held F ⟨b, k, none⟩ := by
 rintro ⟨z, hz, _⟩
 rw [h] at hz
 cases hz
theorem ansW_same {ab : Nat} {b : Bool} {n : Int} {r : Nat} (hr : r ≠ ab) : (ansW w ab b n).heap[r]? = w.heap[r]? := by
 unfold ansW
 rw [heap_setCell_ne _ _ _ hr, heap_setCell_ne _ _ _ hr, heap_setCell_ne _ _ _ hr]
theorem stp_put {s : QS} {T : Nat} {H ph new : Nat} {N : Option Nat} {v : Int} {A A2 : Array Value} {ab eb : Nat} (hJ : QJ qb st s ⟨⟨1, ph, H, T, N, new⟩, v, A, A2, ab, eb⟩) (hs : QU qb s w) (hc : QCU ⟨⟨1, ph, H, T, N, new⟩, v, A, A2, ab, eb⟩ w) (hdis : ∀ q, QCR ⟨⟨1, ph, H, T, N, new⟩, v, A, A2, ab, eb⟩ q → ¬ QR qb s q) (hF : ∀ r, QR qb s r ∨ QCR ⟨⟨1, ph, H, T, N, new⟩, v, A, A2, ab, eb⟩ r → F r = none) (b : Frame) (cs : List Frame) :
  Own Try.prog false F ((QLay qb).Out st s (QCR ⟨⟨1, ph, H, T, N, new⟩, v, A, A2, ab, eb⟩) ((QLay qb).stp s ⟨⟨1, ph, H, T, N, new⟩, v, A, A2, ab, eb⟩) w (b :: cs)) (back (.tuple #[]) ((QLay qb).cf st ⟨⟨1, ph, H, T, N, new⟩, v, A, A2, ab, eb⟩ ++ b :: cs)) w := by
 have hA := hJ.A
 have hA2 := hJ.A2
 have hq : F qb = none := hF qb (.inl (.inl rfl))
 have hbF : ∀ k, k < s.q.B.length → F (s.bk k) = none := fun k hk => hF _ (.inl (.inr ⟨k, hk, rfl⟩))
 have hT : T < s.q.B.length := hJ.T
 have hnew : new < s.q.B.length := hJ.new
 have hH : H < s.q.B.length := hJ.H
 have hn : N.getD 0 < s.q.B.length := hJ.n
 have hp := hJ.ph
 simp only at hp
 have hph : ph = 1 ∨ ph = 2 ∨ ph = 3 ∨ ph = 4 ∨ ph = 5 := by
  rw [if_neg (by decide)] at hp
  omega
 rcases hph with rfl | rfl | rfl | rfl | rfl
 ·refine put_1 (t := s.bk s.q.tl) (hs.boxP hs.tl) hs.tc hA fun A' hA' => .stop fun d => q_live (rc' := ⟨1, 2, H, s.q.tl, N, new⟩) (A' := A') hs rfl rfl rfl ⟨hH, hs.tl, hn, hnew, .inl rfl, ⟨by simp, by simp⟩, hA', hA2⟩ hc hdis (fun r _ => rfl) d
 ·cases e : s.q.nx T with
  | none =>
   refine put_2b (t := s.bk T) (n := 0) (.inl rfl) ((hs.nc hT).trans (by rw [e]; rfl)) hA fun A' hA' => .stop fun d => q_live (rc' := ⟨1, 4, H, T, none, new⟩) (A' := A') hs rfl (by simp [RQ.step, RQ.put, e]) rfl ⟨hH, hT, by simp only [RC.n, Option.getD_none]; omega, hnew, .inl rfl, ⟨by simp, by simp⟩, hA', hA2⟩ hc hdis (fun r _ => rfl) d
  | some n =>
   have hnl := hs.nxlt e
   refine put_2a (t := s.bk T) (n := s.bk n) (hs.boxP hnl) ((hs.nc hT).trans (by rw [e]; rfl)) hA fun A' hA' => .stop fun d => q_live (rc' := ⟨1, 3, H, T, some n, new⟩) (A' := A') hs rfl (by simp [RQ.step, RQ.put, e]) rfl ⟨hH, hT, hnl, hnew, .inl rfl, ⟨by simp, by simp⟩, hA', hA2⟩ hc hdis (fun r _ => rfl) d
 ·refine put_3 (t := s.bk T) (n := s.bk (N.getD 0)) (eq := decide (s.q.tl = T)) (hs.boxP hT) (hs.boxP hn) hs.tc (hs.qz 1) (not_heldB hq 1) (fun d => hs.eq hs.tl hT d) hA fun A' hA' => .stop fun d => q_live (q' := s.q.help T (N.getD 0)) (rc' := ⟨1, 1, H, T, N, new⟩) (A' := A') (hs.help hn) (help_len _ _ _) rfl rfl ⟨by simp only [help_len]; exact hH, by simp only [help_len]; exact hT, by simp only [help_len]; exact hn, by simp only [help_len]; exact hnew, .inl rfl, ⟨by simp, by simp⟩, hA', hA2⟩ hc hdis help_same d
 ·cases e : s.q.nx T with
  | none =>
   have hll : (s.q.link T new).B.length = s.q.B.length := by simp [RQ.link]
   refine put_4a (t := s.bk T) (bx := s.bk new) (hs.boxP hnew) ((hs.nc hT).trans (by rw [e]; rfl)) (hs.bz hT 1) (not_heldB (hbF T hT) 1) hA fun A' hA' => .stop fun d => q_live (q' := s.q.link T new) (rc' := ⟨1, 5, H, T, N, new⟩) (A' := A') (hs.link hT hnew) hll (by simp [RQ.step, RQ.put, e]) rfl ⟨by simp only [hll]; exact hH, by simp only [hll]; exact hT, by simp only [hll]; exact hn, by simp only [hll]; exact hnew, .inl rfl, ⟨by simp, by simp⟩, hA', hA2⟩ hc hdis (fun r hr => heap_setCell_ne _ _ _ (fun e => hr (.inr ⟨T, hT, e⟩))) d
  | some n =>
   have hnl := hs.nxlt e
   refine put_4b (t := s.bk T) (bx := s.bk new) (cur := ⟨s.bk n, 0, none⟩) (hs.boxP hnew) ((hs.nc hT).trans (by rw [e]; rfl)) (hs.bz hT 1) (not_heldB (hbF T hT) 1) hA fun A' hA' => .stop fun d => q_live (rc' := ⟨1, 1, H, T, N, new⟩) (A' := A') hs rfl (by simp [RQ.step, RQ.put, e]) rfl ⟨hH, hT, hn, hnew, .inl rfl, ⟨by simp, by simp⟩, hA', hA2⟩ hc hdis (fun r _ => rfl) d
 ·refine put_5 (t := s.bk T) (n := 0) (bx := s.bk new) (eq := decide (s.q.tl = T)) (hs.boxP hT) (hs.boxP hnew) hs.tc (hs.qz 1) (not_heldB hq 1) (fun d => hs.eq hs.tl hT d) hA ?_
  have hab : ∀ r, QR qb s r → r ≠ ab := fun r hr e => hdis r (.inl e) hr
  have hans : Ans (if decide (s.q.tl = T) then w.setCell ⟨qb, 1, none⟩ (s.pt new) else w) ab := ans_same hc.1 (help_same ab (hdis ab (.inl rfl)))
  refine do_put1 hans (fun k => not_heldB (hF ab (.inr (.inl rfl))) k) hA2 (.stop fun d => q_ans (an := (true, 0)) (q' := s.q.help T new) ?_ (help_len _ _ _) rfl d)
  exact (hs.help hnew).same fun r hr => ansW_same (hab r (qr_same (s := s) (help_len _ _ _) hr))
end
noncomputable section
variable {F : Fz} {w w' : World} {qb st : Nat}
theorem stp_take {s : QS} {T : Nat} {H ph new : Nat} {N : Option Nat} {v : Int} {A A2 : Array Value} {ab eb : Nat} (hJ : QJ qb st s ⟨⟨2, ph, H, T, N, new⟩, v, A, A2, ab, eb⟩) (hs : QU qb s w) (hc : QCU ⟨⟨2, ph, H, T, N, new⟩, v, A, A2, ab, eb⟩ w) (hdis : ∀ q, QCR ⟨⟨2, ph, H, T, N, new⟩, v, A, A2, ab, eb⟩ q → ¬ QR qb s q) (hF : ∀ r, QR qb s r ∨ QCR ⟨⟨2, ph, H, T, N, new⟩, v, A, A2, ab, eb⟩ r → F r = none) (b : Frame) (cs : List Frame) :
  Own Try.prog false F ((QLay qb).Out st s (QCR ⟨⟨2, ph, H, T, N, new⟩, v, A, A2, ab, eb⟩) ((QLay qb).stp s ⟨⟨2, ph, H, T, N, new⟩, v, A, A2, ab, eb⟩) w (b :: cs)) (back (.tuple #[]) ((QLay qb).cf st ⟨⟨2, ph, H, T, N, new⟩, v, A, A2, ab, eb⟩ ++ b :: cs)) w := by
 have hA := hJ.A
 have hA2 := hJ.A2
 have hq : F qb = none := hF qb (.inl (.inl rfl))
 have hT : T < s.q.B.length := hJ.T
 have hnew : new < s.q.B.length := hJ.new
 have hH : H < s.q.B.length := hJ.H
 have hn : N.getD 0 < s.q.B.length := hJ.n
 have hp := hJ.ph
 simp only at hp
 have hab : ∀ r, QR qb s r → r ≠ ab := fun r hr e => hdis r (.inl e) hr
 have hph : ph = 1 ∨ ph = 2 ∨ ph = 3 ∨ ph = 4 ∨ ph = 5 := by
  rw [if_neg (by decide)] at hp
  omega
 rcases hph with rfl | rfl | rfl | rfl | rfl
 ·refine tak_1 (h0 := s.bk s.q.hd) (hs.boxP hs.hd) hs.hc hA fun A' hA' => .stop fun d => q_live (rc' := ⟨2, 2, s.q.hd, T, N, new⟩) (A' := A') hs rfl rfl rfl ⟨hs.hd, hT, hn, hnew, .inr (.inl rfl), ⟨by simp, by simp⟩, hA', hA2⟩ hc hdis (fun r _ => rfl) d
 ·refine tak_2 (h0 := s.bk H) (t := s.bk s.q.tl) (hs.boxP hs.tl) hs.tc hA fun A' hA' => .stop fun d => q_live (rc' := ⟨2, 3, H, s.q.tl, N, new⟩) (A' := A') hs rfl rfl rfl ⟨hH, hs.tl, hn, hnew, .inr (.inl rfl), ⟨by simp, by simp⟩, hA', hA2⟩ hc hdis (fun r _ => rfl) d
 ·cases e : s.q.nx H with
  | none =>
   refine tak_3n (h0 := s.bk H) (t := s.bk T) (.inl rfl) ((hs.nc hH).trans (by rw [e]; rfl)) hA ?_
   refine do_take1 (er := 4) (v := 0) hc.1 (fun k => not_heldB (hF ab (.inr (.inl rfl))) k) hA2 (.stop fun d => q_ans (an := (false, 0)) (q' := s.q) (hs.same fun r hr => ansW_same (hab r hr)) rfl (by simp [RQ.step, RQ.take, e]) d)
  | some n =>
   have hnl := hs.nxlt e
   by_cases e2 : H = T
   ·refine tak_3t (h0 := s.bk H) (t := s.bk T) (n := s.bk n) (hs.boxP hnl) ((hs.nc hH).trans (by rw [e]; rfl)) (fun d => by have := hs.eq hH hT d; rwa [decide_eq_true e2] at this) hA fun A' hA' => .stop fun d => q_live (rc' := ⟨2, 4, H, T, some n, new⟩) (A' := A') hs rfl (by simp only [RQ.step, RQ.take]; rw [e]; simp [e2]) rfl ⟨hH, hT, hnl, hnew, .inr (.inl rfl), ⟨by simp, by simp⟩, hA', hA2⟩ hc hdis (fun r _ => rfl) d
   ·refine tak_3h (h0 := s.bk H) (t := s.bk T) (n := s.bk n) (hs.boxP hnl) ((hs.nc hH).trans (by rw [e]; rfl)) (fun d => by have := hs.eq hH hT d; rwa [decide_eq_false e2] at this) hA fun A' hA' => .stop fun d => q_live (rc' := ⟨2, 5, H, T, some n, new⟩) (A' := A') hs rfl (by simp [RQ.step, RQ.take, e, e2]) rfl ⟨hH, hT, hnl, hnew, .inr (.inl rfl), ⟨by simp, by simp⟩, hA', hA2⟩ hc hdis (fun r _ => rfl) d
 ·refine tak_4 (h0 := s.bk H) (t := s.bk T) (n := s.bk (N.getD 0)) (eq := decide (s.q.tl = T)) (hs.boxP hT) (hs.boxP hn) hs.tc (hs.qz 1) (not_heldB hq 1) (fun d => hs.eq hs.tl hT d) hA fun A' hA' => .stop fun d => q_live (q' := s.q.help T (N.getD 0)) (rc' := ⟨2, 1, H, T, N, new⟩) (A' := A') (hs.help hn) (help_len _ _ _) rfl rfl ⟨by simp only [help_len]; exact hH, by simp only [help_len]; exact hT, by simp only [help_len]; exact hn, by simp only [help_len]; exact hnew, .inr (.inl rfl), ⟨by simp, by simp⟩, hA', hA2⟩ hc hdis help_same d
 ·by_cases e : s.q.hd = H
  ·have h2 := hs.setHd hn
   refine tak_5a (h0 := s.bk H) (t := s.bk T) (n := s.bk (N.getD 0)) (cur := some ⟨s.bk s.q.hd, 0, none⟩) (hs.boxP hH) (hs.boxP hn) hs.hc (hs.qz 0) (not_heldB hq 0) (fun d => by have := hs.eq hs.hd hH d; rwa [decide_eq_true e] at this) (h2.vc hn) (h2.bz hn 0) hA ?_
   refine do_take1 (er := 0) (ans_same hc.1 (heap_setCell_ne _ _ _ fun e1 => hdis ab (.inl rfl) (.inl e1))) (fun k => not_heldB (hF ab (.inr (.inl rfl))) k) hA2 (.stop fun d => q_ans (an := (true, s.q.vl (N.getD 0))) (q' := { s.q with hd := N.getD 0 }) (h2.same fun r hr => ansW_same (hab r (qr_same (s := s) rfl hr))) rfl (by simp [RQ.step, RQ.take, e, RC.n]) d)
  ·refine tak_5b (h0 := s.bk H) (t := s.bk T) (n := s.bk (N.getD 0)) (cur := some ⟨s.bk s.q.hd, 0, none⟩) (hs.boxP hH) (hs.boxP hn) hs.hc (hs.qz 0) (not_heldB hq 0) (fun d => by have := hs.eq hs.hd hH d; rwa [decide_eq_false e] at this) hA fun A' hA' => .stop fun d => q_live (rc' := ⟨2, 1, H, T, N, new⟩) (A' := A') hs rfl (by simp [RQ.step, RQ.take, e]) rfl ⟨hH, hT, hn, hnew, .inr (.inl rfl), ⟨by simp, by simp⟩, hA', hA2⟩ hc hdis (fun r _ => rfl) d
theorem stp_emp {s : QS} {T : Nat} {H ph new : Nat} {N : Option Nat} {v : Int} {A A2 : Array Value} {ab eb : Nat} (hJ : QJ qb st s ⟨⟨3, ph, H, T, N, new⟩, v, A, A2, ab, eb⟩) (hs : QU qb s w) (hc : QCU ⟨⟨3, ph, H, T, N, new⟩, v, A, A2, ab, eb⟩ w) (hdis : ∀ q, QCR ⟨⟨3, ph, H, T, N, new⟩, v, A, A2, ab, eb⟩ q → ¬ QR qb s q) (hF : ∀ r, QR qb s r ∨ QCR ⟨⟨3, ph, H, T, N, new⟩, v, A, A2, ab, eb⟩ r → F r = none) (b : Frame) (cs : List Frame) :
  Own Try.prog false F ((QLay qb).Out st s (QCR ⟨⟨3, ph, H, T, N, new⟩, v, A, A2, ab, eb⟩) ((QLay qb).stp s ⟨⟨3, ph, H, T, N, new⟩, v, A, A2, ab, eb⟩) w (b :: cs)) (back (.tuple #[]) ((QLay qb).cf st ⟨⟨3, ph, H, T, N, new⟩, v, A, A2, ab, eb⟩ ++ b :: cs)) w := by
 have hA := hJ.A
 have hA2 := hJ.A2
 have hT : T < s.q.B.length := hJ.T
 have hnew : new < s.q.B.length := hJ.new
 have hH : H < s.q.B.length := hJ.H
 have hn : N.getD 0 < s.q.B.length := hJ.n
 have hp := hJ.ph
 simp only at hp
 have hab : ∀ r, QR qb s r → r ≠ ab := fun r hr e => hdis r (.inl e) hr
 have heb : ∀ r, QR qb s r → r ≠ eb := fun r hr e => hdis r (.inr ⟨rfl, e⟩) hr
 obtain ⟨he, hne⟩ := hc.2 rfl
 have hph : ph = 1 ∨ ph = 2 := by
  simp only [if_true] at hp
  omega
 rcases hph with rfl | rfl
 ·refine emp_1 (h0 := s.bk s.q.hd) (hs.boxP hs.hd) hs.hc hA fun A' hA' => .stop fun d => q_live (rc' := ⟨3, 2, s.q.hd, T, N, new⟩) (A' := A') hs rfl rfl rfl ⟨hs.hd, hT, hn, hnew, .inr (.inr rfl), ⟨by simp, by simp⟩, hA', hA2⟩ hc hdis (fun r _ => rfl) d
 ·cases e : s.q.nx H with
  | none =>
   refine emp_2 (h0 := s.bk H) (nx := none) (.inl rfl) ((hs.nc hH).trans (by rw [e]; rfl)) hA ?_
   refine do_emp1t hc.1 (fun k => not_heldB (hF ab (.inr (.inl rfl))) k) he hne (fun k => not_heldB (hF eb (.inr (.inr ⟨rfl, rfl⟩))) k) hA2 (.stop fun d => q_ans (an := (true, 1)) (q' := s.q) (hs.same fun r hr => (ansW_same (hab r hr)).trans (heap_setCell_ne _ _ _ (heb r hr))) rfl (by simp [RQ.step, RQ.emp, e]) d)
  | some n =>
   have hnl := hs.nxlt e
   refine emp_2 (h0 := s.bk H) (nx := some ⟨s.bk n, 0, none⟩) (hs.boxP hnl) ((hs.nc hH).trans (by rw [e]; rfl)) hA ?_
   refine do_emp1f hc.1 (fun k => not_heldB (hF ab (.inr (.inl rfl))) k) he hne hA2 (.stop fun d => q_ans (an := (true, 0)) (q' := s.q) (hs.same fun r hr => ansW_same (hab r hr)) rfl (by simp [RQ.step, RQ.emp, e]) d)
end
noncomputable section
variable {F : Fz} {w w' : World} {qb st : Nat}
theorem plain_base {f : FuncId} (h : ∃ fn, Try.prog.funcs[f]? = some fn) (A : Array Value) (k : List Item) : Plain ((Go.Conc.base f).at ⟨A, []⟩ k) := ⟨rfl, rfl, h⟩
theorem size2 (w : World) (a b : Obj) : ((w.alloc a).alloc b).heap.size = w.heap.size + 2 := by simp
theorem old2 (w : World) (a b : Obj) {r : Nat} (h : r < w.heap.size) : ((w.alloc a).alloc b).heap[r]? = w.heap[r]? := by
 rw [heap_alloc_lt _ _ (by simp; omega), heap_alloc_lt _ _ h]
theorem new2 (w : World) (a : Obj) (c : Array Value) (t : TypeId) : ((w.alloc a).alloc (.cells c t)).heap[w.heap.size + 1]? = some (.cells c t (0, 0)) := by
 have := heap_alloc_new (w.alloc a) (.cells c t)
 simpa using this
theorem beg_put {s : QS} {i : Nat} {a b0 c0 : Int} (hs : QU qb s w) (hwf : Wf F w) (b : Frame) (cs : List Frame) :
  Own Try.prog false F ((QLay qb).Out st s (fun _ => False) ((QLay qb).beg s i ⟨1, a, b0, c0⟩) w (b :: cs)) (G (Frame.enter Try.prog 38 #[.pointer (some ⟨qb, 0, none⟩), stepperV st, .int .i64 i, .agg #[.int .i64 1, .int .i64 a, .int .i64 b0, .int .i64 c0]] .normal) (b :: cs)) w := by
 refine do_put0 (wf_under hwf) (Nat.le_refl _) fun A2 hA2 => ?_
 have e1 : ∀ r, r < w.heap.size → ((w.alloc (.cells #[.int .i64 1, .int .i64 a, .int .i64 b0, .int .i64 c0] 44)).alloc (.cells #[.bool false, .int .i64 0, .slice none 0 0] 46)).heap[r]? = w.heap[r]? := fun r hr => old2 _ _ _ hr
 have e2 := new2 w (.cells #[.int .i64 1, .int .i64 a, .int .i64 b0, .int .i64 c0] 44) #[.bool false, .int .i64 0, .slice none 0 0] 46
 have e3 := size2 w (.cells #[.int .i64 1, .int .i64 a, .int .i64 b0, .int .i64 c0] 44) (.cells #[.bool false, .int .i64 0, .slice none 0 0] 46)
 generalize (w.alloc (.cells #[.int .i64 1, .int .i64 a, .int .i64 b0, .int .i64 c0] 44)).alloc (.cells #[.bool false, .int .i64 0, .slice none 0 0] 46) = W at e1 e2 e3 ⊢
 have hW : QU qb s W := hs.same fun r hr => e1 r (hs.low hr)
 have hnw := hW.new a
 have hlen := hs.len
 have hpos : 0 < s.q.B.length := Nat.lt_of_le_of_lt (Nat.zero_le _) hs.hd
 have hold : ∀ k, k < s.q.B.length → QS.bk ⟨{ s.q with B := s.q.B ++ [(a, none)] }, s.bl ++ [W.heap.size]⟩ k = s.bk k := fun k hk => bk_app (by omega)
 have hbn : QS.bk ⟨{ s.q with B := s.q.B ++ [(a, none)] }, s.bl ++ [W.heap.size]⟩ s.q.B.length = W.heap.size := by
  simp [QS.bk, List.getD_eq_getElem?_getD, ← hlen]
 have hqr : ∀ r, QR qb ⟨{ s.q with B := s.q.B ++ [(a, none)] }, s.bl ++ [W.heap.size]⟩ r → QR qb s r ∨ r = W.heap.size := by
  rintro r (h | ⟨k, hk, h⟩)
  ·exact .inl (.inl h)
  ·simp only [List.length_append, List.length_cons, List.length_nil] at hk
   by_cases e : k < s.q.B.length
   ·exact .inl (.inr ⟨k, e, by rw [← hold k e]; exact h⟩)
   ·obtain rfl : k = s.q.B.length := by omega
    exact .inr (by rw [h, hbn])
 have hans : Ans (W.alloc (.cells #[.int .i64 a, .pointer none] 106)) (w.heap.size + 1) := ⟨⟨_, _, _, (heap_alloc_lt _ _ (by omega)).trans e2⟩⟩
 refine put_0 (wf_under hwf) (by omega) (hW.boxP hW.hd) hW.hc fun A hA => .stop fun d => ?_
 refine ⟨⟨{ s.q with B := s.q.B ++ [(a, none)] }, s.bl ++ [W.heap.size]⟩, .inl ⟨⟨1, 1, 0, 0, some 0, s.q.B.length⟩, a, A, A2, w.heap.size + 1, 0⟩, ⟨⟨by simp, hold⟩, by simp [RQ.begin, absR]⟩, hnw.same fun _ _ => rfl, ?_, ⟨?_, ?_, ?_, ?_, .inl rfl, ⟨by simp, by simp⟩, ?_, hA2⟩, ⟨ans_same hans rfl, fun h => by simp at h⟩, ?_, ?_, rfl⟩
 ·intro r hr
  rcases hqr r hr with h | h
  ·exact .inl h
  ·exact .inr (.inr (by omega))
 ·simp only [List.length_append]; omega
 ·simp only [List.length_append]; omega
 ·simp only [List.length_append, RC.n, Option.getD_some]; omega
 ·simp only [List.length_append, List.length_cons, List.length_nil]; omega
 ·show Slots 51 A [(0, .pointer (some ⟨qb, 0, none⟩)), (1, stepperV st), (2, .int .i64 a), (6, .pointer (some ⟨QS.bk ⟨{ s.q with B := s.q.B ++ [(a, none)] }, s.bl ++ [W.heap.size]⟩ s.q.B.length, 0, none⟩))]
  rw [hbn]
  exact hA
 ·rintro r (h | ⟨h, _⟩)
  ·exact .inr (by simp only at h; omega)
  ·simp at h
 ·rintro r (h | ⟨h, _⟩) h2
  ·simp only at h
   rcases hqr r h2 with h3 | h3
   ·have := hs.low h3; omega
   ·omega
  ·simp at h
theorem beg_take {s : QS} {i : Nat} {a b0 c0 : Int} (hs : QU qb s w) (hwf : Wf F w) (b : Frame) (cs : List Frame) :
  Own Try.prog false F ((QLay qb).Out st s (fun _ => False) ((QLay qb).beg s i ⟨2, a, b0, c0⟩) w (b :: cs)) (G (Frame.enter Try.prog 38 #[.pointer (some ⟨qb, 0, none⟩), stepperV st, .int .i64 i, .agg #[.int .i64 2, .int .i64 a, .int .i64 b0, .int .i64 c0]] .normal) (b :: cs)) w := by
 refine do_take0 (wf_under hwf) (Nat.le_refl _) fun A2 hA2 => ?_
 have e1 : ∀ r, r < w.heap.size → ((w.alloc (.cells #[.int .i64 2, .int .i64 a, .int .i64 b0, .int .i64 c0] 44)).alloc (.cells #[.bool false, .int .i64 0, .slice none 0 0] 46)).heap[r]? = w.heap[r]? := fun r hr => old2 _ _ _ hr
 have e2 := new2 w (.cells #[.int .i64 2, .int .i64 a, .int .i64 b0, .int .i64 c0] 44) #[.bool false, .int .i64 0, .slice none 0 0] 46
 have e3 := size2 w (.cells #[.int .i64 2, .int .i64 a, .int .i64 b0, .int .i64 c0] 44) (.cells #[.bool false, .int .i64 0, .slice none 0 0] 46)
 generalize (w.alloc (.cells #[.int .i64 2, .int .i64 a, .int .i64 b0, .int .i64 c0] 44)).alloc (.cells #[.bool false, .int .i64 0, .slice none 0 0] 46) = W at e1 e2 e3 ⊢
 have hW : QU qb s W := hs.same fun r hr => e1 r (hs.low hr)
 have hpos : 0 < s.q.B.length := Nat.lt_of_le_of_lt (Nat.zero_le _) hs.hd
 refine tak_0 (hW.boxP hW.hd) hW.hc fun A hA => .stop fun d => ?_
 refine ⟨s, .inl ⟨⟨2, 1, 0, 0, some 0, 0⟩, 0, A, A2, w.heap.size + 1, 0⟩, ⟨⟨Nat.le_refl _, fun k _ => rfl⟩, by simp [RQ.begin, absR]⟩, hW.same fun _ _ => rfl, fun r hr => .inl hr, ⟨hpos, hpos, hpos, hpos, .inr (.inl rfl), ⟨by simp, by simp⟩, hA, hA2⟩, ⟨⟨⟨_, _, _, e2⟩⟩, fun h => by simp at h⟩, ?_, ?_, rfl⟩
 ·rintro r (h | ⟨h, _⟩)
  ·exact .inr (by simp only at h; omega)
  ·simp at h
 ·rintro r (h | ⟨h, _⟩) h2
  ·simp only at h
   have := hs.low h2; omega
  ·simp at h
theorem beg_emp {s : QS} {i : Nat} {a b0 c0 : Int} (hs : QU qb s w) (hwf : Wf F w) (b : Frame) (cs : List Frame) :
  Own Try.prog false F ((QLay qb).Out st s (fun _ => False) ((QLay qb).beg s i ⟨3, a, b0, c0⟩) w (b :: cs)) (G (Frame.enter Try.prog 38 #[.pointer (some ⟨qb, 0, none⟩), stepperV st, .int .i64 i, .agg #[.int .i64 3, .int .i64 a, .int .i64 b0, .int .i64 c0]] .normal) (b :: cs)) w := by
 refine do_emp0 (wf_under hwf) (Nat.le_refl _) fun A2 hA2 => ?_
 have e1 : ∀ r, r < w.heap.size → ((w.alloc (.cells #[.int .i64 3, .int .i64 a, .int .i64 b0, .int .i64 c0] 44)).alloc (.cells #[.bool false, .int .i64 0, .slice none 0 0] 46)).heap[r]? = w.heap[r]? := fun r hr => old2 _ _ _ hr
 have e2 := new2 w (.cells #[.int .i64 3, .int .i64 a, .int .i64 b0, .int .i64 c0] 44) #[.bool false, .int .i64 0, .slice none 0 0] 46
 have e3 := size2 w (.cells #[.int .i64 3, .int .i64 a, .int .i64 b0, .int .i64 c0] 44) (.cells #[.bool false, .int .i64 0, .slice none 0 0] 46)
 generalize (w.alloc (.cells #[.int .i64 3, .int .i64 a, .int .i64 b0, .int .i64 c0] 44)).alloc (.cells #[.bool false, .int .i64 0, .slice none 0 0] 46) = W at e1 e2 e3 ⊢
 have e4 := heap_alloc_new W (.cells #[.bool true, .int .i64 0, .slice none 0 0] 46)
 have e5 : ∀ r, r < W.heap.size → (W.alloc (.cells #[.bool true, .int .i64 0, .slice none 0 0] 46)).heap[r]? = W.heap[r]? := fun r hr => heap_alloc_lt _ _ hr
 generalize W.alloc (.cells #[.bool true, .int .i64 0, .slice none 0 0] 46) = V at e4 e5 ⊢
 have hV : QU qb s V := hs.same fun r hr => (e5 r (by have := hs.low hr; omega)).trans (e1 r (hs.low hr))
 have hpos : 0 < s.q.B.length := Nat.lt_of_le_of_lt (Nat.zero_le _) hs.hd
 have hans : Ans V (w.heap.size + 1) := ⟨⟨_, _, _, (e5 _ (by omega)).trans e2⟩⟩
 refine emp_0 (hV.boxP hV.hd) hV.hc fun A hA => .stop fun d => ?_
 refine ⟨s, .inl ⟨⟨3, 1, 0, 0, some 0, 0⟩, 0, A, A2, w.heap.size + 1, w.heap.size + 2⟩, ⟨⟨Nat.le_refl _, fun k _ => rfl⟩, by simp [RQ.begin, absR]⟩, hV.same fun _ _ => rfl, fun r hr => .inl hr, ⟨hpos, hpos, hpos, hpos, .inr (.inr rfl), ⟨by simp, by simp⟩, hA, hA2⟩, ⟨ans_same hans rfl, fun _ => ⟨?_, by simp⟩⟩, ?_, ?_, rfl⟩
 ·rw [e3] at e4
  exact e4
 ·rintro r (h | ⟨_, h⟩)
  ·exact .inr (by simp only at h; omega)
  ·exact .inr (by simp only at h; omega)
 ·rintro r (h | ⟨_, h⟩) h2
  ·simp only at h
   have := hs.low h2; omega
  ·simp only at h
   have := hs.low h2; omega
theorem beg_other {s : QS} {i : Nat} {kd a b0 c0 : Int} (h1 : kd ≠ 1) (h2 : kd ≠ 2) (h3 : kd ≠ 3) (hs : QU qb s w) (hwf : Wf F w) (b : Frame) (cs : List Frame) :
  Own Try.prog false F ((QLay qb).Out st s (fun _ => False) ((QLay qb).beg s i ⟨kd, a, b0, c0⟩) w (b :: cs)) (G (Frame.enter Try.prog 38 #[.pointer (some ⟨qb, 0, none⟩), stepperV st, .int .i64 i, .agg #[.int .i64 kd, .int .i64 a, .int .i64 b0, .int .i64 c0]] .normal) (b :: cs)) w := by
 refine do_other (wf_under hwf) (Nat.le_refl _) (by simpa using h1) (by simpa using h2) (by simpa using h3) (.stop fun d => ?_)
 refine ⟨s, .inr (false, 0), ⟨⟨Nat.le_refl _, fun k _ => rfl⟩, by simp [RQ.begin, absR, h1, h2, h3]⟩, hs.same fun r hr => ?_, fun r hr => .inl hr, trivial, fun q h => h.elim, fun q h => h.elim, rfl⟩
 have hlt := hs.low hr
 exact (ansW_same (by omega)).trans (old2 _ _ _ hlt)
theorem qlay_ok (qb : Nat) : (QLay qb).Ok where
 call := callable38
 jb := fun st s s' c i o r h hb => h.ext hb.1
 js := fun st s s' c c1 r h hb => h.ext hb.1
 plain := by
  intro st c
  refine ⟨by simp [QLay], fun u hu => ?_⟩
  have hu : u ∈ stepFr ⟨st, 0, none⟩ :: c.fr := hu
  rcases List.mem_cons.1 hu with rfl | hu
  ·exact plain_base ⟨_, Try.func53⟩ _ _
  ·unfold QC.fr at hu
   split at hu <;>
   ·rcases List.mem_cons.1 hu with rfl | hu
    ·first
      | exact plain_base ⟨_, Try.func25⟩ _ _
      | exact plain_base ⟨_, Try.func26⟩ _ _
      | exact plain_base ⟨_, Try.func27⟩ _ _
    ·rw [List.mem_singleton] at hu
     subst hu
     exact plain_base ⟨_, Try.func38⟩ _ _
 sS := fun s w w' h _ hs => QU.same h hs
 sC := fun c w w' h _ hs => QCU.same h hs
 sA := fun _ _ _ _ _ _ => trivial
 lS := fun s w r h hr => QU.low h hr
 lC := by
  rintro c w r h (rfl | ⟨hk, rfl⟩)
  ·obtain ⟨_, _, _, h1⟩ := h.1.o
   exact (Array.getElem?_eq_some_iff.1 h1).1
  ·exact (Array.getElem?_eq_some_iff.1 (h.2 hk).1).1
 lA := fun _ _ _ _ h => h.elim
 beg := by
  intro s i o st F w c cs hs hwf hF
  obtain ⟨kd, a, b0, c0⟩ := o
  by_cases h1 : kd = 1
  ·subst h1
   exact beg_put hs hwf c cs
  ·by_cases h2 : kd = 2
   ·subst h2
    exact beg_take hs hwf c cs
   ·by_cases h3 : kd = 3
    ·subst h3
     exact beg_emp hs hwf c cs
    ·exact beg_other h1 h2 h3 hs hwf c cs
 stp := by
  intro s c st F w b cs hJ hs hc hdis hwf hF
  obtain ⟨⟨kd, ph, H, T, N, new⟩, v, A, A2, ab, eb⟩ := c
  have hkd : kd = 1 ∨ kd = 2 ∨ kd = 3 := QJ.kd hJ
  rcases hkd with rfl | rfl | rfl
  ·exact stp_put hJ hs hc hdis hF b cs
  ·exact stp_take hJ hs hc hdis hF b cs
  ·exact stp_emp hJ hs hc hdis hF b cs
end
noncomputable section
variable {qb : Nat} {p : Par} {g : Gate}
def absT (t : Thr (QLay qb)) : RT := ⟨t.k, t.call.map fun c => QC.c c.1, t.ans⟩
def absX (x : OX (QLay qb)) : PS := ⟨QS.q x.s, fun j => absT (x.th j)⟩
theorem adv_abs {i : Nat} {a b : (QLay qb).S × Thr (QLay qb)} (h : Adv (QLay qb) p i a b) : a.2.call = none → (QS.q b.1, absT b.2) = advL ((p.ops i).drop a.2.k) (QS.q a.1) (absT a.2) := by
 induction h with
 | done h1 h2 =>
  intro _
  rw [h2, List.drop_length]
  rfl
 | @live s s' t o c A ab ho hb =>
  intro hc
  obtain ⟨hlt, e⟩ := List.getElem?_eq_some_iff.1 ho
  have hb2 : (QS.q s', (Sum.inl (QC.c c) : RR)) = (QS.q s).begin o := hb.2
  show _ = advL ((p.ops i).drop t.k) (QS.q s) (absT t)
  rw [List.drop_eq_getElem_cons hlt, e]
  simp only [advL]
  rw [← hb2]
  rfl
 | @imm s s' t o an row y ho hb _ ih =>
  intro hc
  obtain ⟨hlt, e⟩ := List.getElem?_eq_some_iff.1 ho
  have hb2 : (QS.q s', (Sum.inr an : RR)) = (QS.q s).begin o := hb.2
  show _ = advL ((p.ops i).drop t.k) (QS.q s) (absT t)
  rw [List.drop_eq_getElem_cons hlt, e]
  simp only [advL]
  rw [← hb2]
  exact ih rfl
theorem stp_abs {i : Nat} {a b : (QLay qb).S × Thr (QLay qb)} (h : Stp (QLay qb) p i a b) : (QS.q b.1, absT b.2) = stpF (p.ops i) (QS.q a.1) (absT a.2) := by
 cases h with
 | @live s s' t c c' A ab hc hb =>
  have hb2 : (QS.q s', (Sum.inl (QC.c c') : RR)) = (QS.q s).step (QC.c c) := hb.2
  have e : (absT t).call = some (QC.c c) := by simp [absT, hc]
  show _ = stpF (p.ops i) (QS.q s) (absT t)
  simp only [stpF, e]
  rw [← hb2]
  rfl
 | @ans s s' t c A ab an row y hc hb ha =>
  have hb2 : (QS.q s', (Sum.inr an : RR)) = (QS.q s).step (QC.c c) := hb.2
  have e : (absT t).call = some (QC.c c) := by simp [absT, hc]
  show _ = stpF (p.ops i) (QS.q s) (absT t)
  simp only [stpF, e]
  rw [← hb2]
  exact adv_abs ha rfl
noncomputable abbrev QUs (qb : Nat) (p : Par) (g : Gate) : Users := opsUsers (QLay qb) p g
theorem put_abs {x y : OX (QLay qb)} {i : Nat} {r : RQ × RT} (hr : (QS.q y.s, absT (y.th i)) = r) (h : ∀ j, j ≠ i → y.th j = x.th j) : absX y = (absX x).put i r := by
 subst hr
 simp only [absX, PS.put, PS.mk.injEq, true_and]
 funext j
 by_cases e : j = i
 ·rw [if_pos e, e]
 ·rw [if_neg e, h j e]
theorem liv_abs (x : OX (QLay qb)) (j : Nat) : (QUs qb p g).liv x j = (absX x).live j := by
 show (x.th j).call.isSome = ((x.th j).call.map _).isSome
 rw [Option.isSome_map]
theorem born_abs {x y : OX (QLay qb)} {i : Nat} (hn : (QUs qb p g).nw x i) (h : (QUs qb p g).bor x i y) : absX y = (absX x).put i (advL (p.ops i) (absX x).q ((absX x).th i)) := by
 refine put_abs ?_ h.2
 have h1 := adv_abs h.1 hn.1
 have h2 : (x.th i).k = 0 := hn.2
 rw [show (x.s, x.th i).2.k = 0 from h2, List.drop_zero] at h1
 exact h1
theorem borns_abs (zok : (QUs qb p g).Ok g) : ∀ (i : Nat) (x y : OX (QLay qb)), (∀ j, j < i → (QUs qb p g).nw x j) → Borns (QUs qb p g) i x y → absX y = pBorns p.ops i (absX x)
 | 0, x, y, _, h => by
  have h : y = x := h
  rw [h]; rfl
 | i + 1, x, z, hn, ⟨y, h1, h2⟩ => by
  have e := borns_abs zok i x y (fun j hj => hn j (by omega)) h1
  have hny : (QUs qb p g).nw y i := borns_nw zok i x y h1 i (Nat.le_refl i) (hn i (by omega))
  simp only [pBorns]
  rw [← e]
  exact born_abs hny h2
theorem turn_abs {n M : Nat} {s t : OX (QLay qb) × List Nat} {i : Int} (h : Turn (QUs qb p g) n M s i t) : (absX t.1, t.2) = pTurn p.ops n M (absX s.1, s.2) i := by
 unfold Turn at h
 unfold pTurn
 simp only [← liv_abs (p := p) (g := g)]
 split at h
 ·rename_i hc
  rw [if_pos hc]
  obtain ⟨h1, h2⟩ := h
  refine Prod.ext ?_ h2
  exact put_abs (stp_abs h1.1) h1.2
 ·rename_i hc
  rw [if_neg hc, h]
theorem turns_abs {n M : Nat} : ∀ (l : List Int) (s t : OX (QLay qb) × List Nat), Turns (QUs qb p g) n M l s t → (absX t.1, t.2) = pTurns p.ops n M l (absX s.1, s.2)
 | [], s, t, h => by
  have h : t = s := h
  rw [h]; rfl
 | i :: l, s, t, ⟨u, h1, h2⟩ => by
  simp only [pTurns]
  rw [← turn_abs h1]
  exact turns_abs l u t h2
theorem cnt_abs (x : OX (QLay qb)) (n : Nat) : cnt ((QUs qb p g).liv x) n = cnt (absX x).live n := cnt_congr fun j _ => liv_abs x j
theorem rounds_gen {Z : Users} {ops : Nat → List Op4} {n M : Nat} (ab : Z.X → PS) (hl : ∀ x j, Z.liv x j = (ab x).live j) (ht : ∀ l s t, Turns Z n M l s t → (ab t.1, t.2) = pTurns ops n M l (ab s.1, s.2)) {s t : Z.X × List Nat} (h : Rounds Z n M s t) : pDone n M (ab t.1, t.2) ∧ ∃ k, ∀ f, k ≤ f → pRounds ops n M f (ab s.1, s.2) = (ab t.1, t.2) := by
 have hc : ∀ x, cnt (Z.liv x) n = cnt (ab x).live n := fun x => cnt_congr fun j _ => hl x j
 induction h with
 | done h =>
  rw [hc] at h
  have h : pDone n M (ab _, _) := h
  exact ⟨h, 0, fun f _ => pRounds_done h f⟩
 | more h1 h2 h3 _ ih =>
  obtain ⟨hd, k, hk⟩ := ih
  refine ⟨hd, k + 1, fun f hf => ?_⟩
  obtain ⟨f, rfl⟩ : ∃ e, f = e + 1 := ⟨f - 1, by omega⟩
  rw [hc] at h1
  simp only [pRounds]
  rw [if_neg (fun h => h.elim (fun h => by simp only at h; omega) fun h => by simp only at h; omega), ← ht _ _ _ h3]
  exact hk f (by omega)
theorem rounds_abs {n M : Nat} {s t : OX (QLay qb) × List Nat} (h : Rounds (QUs qb p g) n M s t) : pDone n M (absX t.1, t.2) ∧ ∃ k, ∀ f, k ≤ f → pRounds p.ops n M f (absX s.1, s.2) = (absX t.1, t.2) :=
 rounds_gen (Z := QUs qb p g) absX liv_abs turns_abs h
theorem over_abs (zok : (QUs qb p g).Ok g) {n M : Nat} {S : List Int} {x0 : OX (QLay qb)} (hnw : ∀ j, j < n → (QUs qb p g).nw x0 j) {t : OX (QLay qb) × List Nat} (h : OverRel (QUs qb p g) n M S x0 t) : pDone n M (absX t.1, t.2) ∧ ∃ k, ∀ f, k ≤ f → pOver p.ops n M S f (absX x0) = (absX t.1, t.2) := by
 obtain ⟨x1, h1, s, h2, h3⟩ := h
 obtain ⟨hd, k, hk⟩ := rounds_abs h3
 refine ⟨hd, k, fun f hf => ?_⟩
 rw [← hk f hf, turns_abs _ _ _ h2, borns_abs zok n x0 x1 hnw h1]
 rfl
end
noncomputable section
variable {F : Fz} {w : World}
def diBody : Code := Try.f61.body.getD .skip
def dis0 : Code := Code.piece [] diBody
def dir0 : Code := Code.piece [true] diBody
def dio0 : Array Oper := Code.opsOf dir0
def dis1 : Code := Code.piece [false] diBody
def dir1 : Code := Code.piece [false, true] diBody
def dio1 : Array Oper := Code.opsOf dir1
def dis2 : Code := Code.piece [false, false] diBody
def dir2 : Code := Code.piece [false, false, true] diBody
def dio2 : Array Oper := Code.opsOf dir2
def dis3 : Code := Code.piece [false, false, false] diBody
def dir3 : Code := Code.piece [false, false, false, true] diBody
def dio3 : Array Oper := Code.opsOf dir3
def dis4 : Code := Code.piece [false, false, false, false] diBody
def dis5 : Code := Code.piece [false, false, false, false, true] diBody
def dir4 : Code := Code.piece [false, false, false, false, true, true] diBody
def dio4 : Array Oper := Code.opsOf dir4
def dib0 : Code := Code.piece [false, false, false, false, true, false] diBody
def dil6 : Code := Code.piece [false, false, false, false, true, false, true] diBody
def dis7 : Code := Code.piece [false, false, false, false, true, false, true, true] diBody
def dir5 : Code := Code.piece [false, false, false, false, true, false, true, true, true] diBody
def dio5 : Array Oper := Code.opsOf dir5
def dis8 : Code := Code.piece [false, false, false, false, true, false, true, true, false] diBody
def dic18 : Code := Code.piece [false, false, false, false, true, false, true, true, false, true] diBody
def dis9 : Code := Code.piece [false, false, false, false, true, false, true, true, false, false] diBody
def dib1 : Code := Code.piece [false, false, false, false, true, false, true, true, false, false, true] diBody
def dis10 : Code := Code.piece [false, false, false, false, true, false, true, true, false, false, true, true] diBody
def dir6 : Code := Code.piece [false, false, false, false, true, false, true, true, false, false, true, true, true] diBody
def dio6 : Array Oper := Code.opsOf dir6
def dis11 : Code := Code.piece [false, false, false, false, true, false, true, true, false, false, true, true, false] diBody
def dir7 : Code := Code.piece [false, false, false, false, true, false, true, true, false, false, true, true, false, true] diBody
def dio7 : Array Oper := Code.opsOf dir7
def dir8 : Code := Code.piece [false, false, false, false, true, false, true, true, false, false, true, true, false, false] diBody
def dio8 : Array Oper := Code.opsOf dir8
def dir9 : Code := Code.piece [false, false, false, false, true, false, true, true, false, false, false] diBody
def dio9 : Array Oper := Code.opsOf dir9
def dis12 : Code := Code.piece [false, false, false, false, false] diBody
def dir10 : Code := Code.piece [false, false, false, false, false, true] diBody
def dio10 : Array Oper := Code.opsOf dir10
theorem dis0_eq : dis0 = .seq dir0 dis1 := by kernel_rfl
theorem dir0_eq : dir0 = .region 0 dio0 false := by kernel_rfl
theorem dis1_eq : dis1 = .seq dir1 dis2 := by kernel_rfl
theorem dir1_eq : dir1 = .region 1 dio1 false := by kernel_rfl
theorem dis2_eq : dis2 = .seq dir2 dis3 := by kernel_rfl
theorem dir2_eq : dir2 = .region 2 dio2 false := by kernel_rfl
theorem dis3_eq : dis3 = .seq dir3 dis4 := by kernel_rfl
theorem dir3_eq : dir3 = .region 3 dio3 false := by kernel_rfl
theorem dis4_eq : dis4 = .seq dis5 dis12 := by kernel_rfl
theorem dis5_eq : dis5 = .seq dir4 dib0 := by kernel_rfl
theorem dir4_eq : dir4 = .region 4 dio4 false := by kernel_rfl
theorem dib0_eq : dib0 = .block 0 dil6 := by kernel_rfl
theorem dil6_eq : dil6 = .loop dis7 := by kernel_rfl
theorem dis7_eq : dis7 = .seq dir5 dis8 := by kernel_rfl
theorem dir5_eq : dir5 = .region 5 dio5 false := by kernel_rfl
theorem dis8_eq : dis8 = .seq dic18 dis9 := by kernel_rfl
theorem dic18_eq : dic18 = .cond (.tmp 18) .skip (.exit 0) := by kernel_rfl
theorem dis9_eq : dis9 = .seq dib1 dir9 := by kernel_rfl
theorem dib1_eq : dib1 = .block 1 dis10 := by kernel_rfl
theorem dis10_eq : dis10 = .seq dir6 dis11 := by kernel_rfl
theorem dir6_eq : dir6 = .region 6 dio6 false := by kernel_rfl
theorem dis11_eq : dis11 = .seq dir7 dir8 := by kernel_rfl
theorem dir7_eq : dir7 = .region 7 dio7 true := by kernel_rfl
theorem dir8_eq : dir8 = .region 8 dio8 false := by kernel_rfl
theorem dir9_eq : dir9 = .region 9 dio9 false := by kernel_rfl
theorem dis12_eq : dis12 = .seq dir10 .ret := by kernel_rfl
theorem dir10_eq : dir10 = .region 10 dio10 true := by kernel_rfl
theorem enter_di (args : Array Value) : Frame.enter Try.prog 61 args .normal = (Go.Conc.base 61).at { tmps := args ++ Array.replicate (38 - args.size) undef, defers := [] } [.code dis0] := enter_at args Try.func61 rfl
theorem callable61 : Callable 61 := callable Try.func61 rfl rfl
def diT (s : Nat → Value) : Array Value := #[s 0, s 1, s 2, s 3, s 4, s 5, s 6, s 7, s 8, s 9, s 10, s 11, s 12, s 13, s 14, s 15, s 16, s 17, s 18, s 19, s 20, s 21, s 22, s 23, s 24, s 25, s 26, s 27, s 28, s 29, s 30, s 31, s 32, s 33, s 34, s 35, s 36, s 37]
theorem diT_of {A : Array Value} (h : A.size = 38) : ∃ s, A = diT s := by
 obtain ⟨s, hs, _⟩ := arr_lit A h
 exact ⟨s, hs⟩
theorem info84 : ∃ i, Try.prog.info? 84 = some i ∧ i.zero = some (.slice none 0 0) ∧ i.size = 1 ∧ i.bytes = 24 := by
 have h : (Try.prog.info? 84).map (fun i => (i.size, i.bytes)) = some (1, 24) := by kernel_rfl
 have h0 : (Try.prog.info? 84).bind (·.zero) = some (.slice none 0 0) := by kernel_rfl
 obtain ⟨i, hi, h1⟩ := Option.map_eq_some_iff.1 h
 rw [hi] at h0
 simp only [Prod.mk.injEq] at h1
 exact ⟨i, hi, h0, h1.1, h1.2⟩
section
variable {n : Nat} {es : Array Event}
@[go_sem] theorem mkSlice27 (h : n ≤ 64) : (Instr.makeSlice 27 (.int .i64 n) (.int .i64 n)).run Try.prog w = .ok (.slice (some ⟨w.heap.size, 0, none⟩) n n) (w.alloc (.cells (madeCells #[.slice none 0 0] n) 84)) := by
 obtain ⟨i, hi, hz, hs, hb⟩ := info84
 have := run_make (P := Try.prog) w 27 84 i (.slice none 0 0) Try.underlying27 hi hz .i64 .i64 n n (by omega) (by omega) (by rw [hb]; omega) (by omega)
 rw [hs] at this
 simpa [Value.cells] using this
@[go_sem] theorem mkSlice27e (h : n ≤ 64) : (Instr.makeSlice 27 (.int .i64 n) (.int .i64 n)).events Try.prog w es = es := by
 obtain ⟨i, hi, hz, hs, hb⟩ := info84
 exact events_make (P := Try.prog) w 27 84 i (.slice none 0 0) Try.underlying27 hi hz .i64 .i64 n n (by omega) (by omega) (by rw [hb]; omega) (by omega) (by rw [hb]; omega) es
end
theorem set_new27 (X : World) (u v : Value) : (X.alloc (.cells #[u] 27)).setCell ⟨X.heap.size, 0, none⟩ v = X.alloc (.cells #[v] 27) := by go_simp
theorem di_0 {nn : Nat} (hU : Under F nn) (hn : nn ≤ w.heap.size) {ta : Option Addr} {tl tc n df : Nat} {first capt : Array Value} (hn1 : min tl 64 = n) {cs : List Frame} {main : Bool} {Stop : Goroutine → World → Prop}
  (h : ∀ A, Slots 38 A [(0, .slice ta tl tc), (3, .pointer (some ⟨w.heap.size, 0, none⟩)), (6, .int .i64 n)] → Own Try.prog main F Stop (G ((Go.Conc.base 61).at ⟨A, []⟩ [.code dis2]) cs) (w.alloc (.cells #[.func (.func df) first capt] 88))) :
  Own Try.prog main F Stop (G (Frame.enter Try.prog 61 #[.slice ta tl tc, .func (.func df) first capt] .normal) cs) w := by
 have hn2 : (if (64 : Int) < (tl : Int) then (64 : Int) else tl) = (n : Int) := by split <;> omega
 rw [enter_di]
 walk_nrm
 rw [dis0_eq]
 refine ogS ?_
 rw [dir0_eq]
 refine ogR ?_
 simp only [dio0, Code.opsOf, dir0, Code.piece, diBody, Try.f61, Option.getD_some, List.size_toArray, List.length_cons, List.length_nil, Nat.reduceAdd, Nat.zero_add, List.range, List.range.loop]
 (refine oW fun dd K hK => ?_; go_simp; refine qA hK hU ?_; clear hK K)
 iterate 2 (refine oW fun dd K hK => ?_; go_simp; refine qT hK ?_; clear hK K)
 refine ogE ?_
 rw [dis1_eq]
 refine ogS ?_
 rw [dir1_eq]
 refine ogR ?_
 simp only [dio1, Code.opsOf, dir1, Code.piece, diBody, Try.f61, Option.getD_some, List.size_toArray, List.length_cons, List.length_nil, Nat.reduceAdd, Nat.zero_add, List.range, List.range.loop]
 iterate 4 (refine oW fun dd K hK => ?_; go_simp; refine qT hK ?_; clear hK K)
 refine ogE ?_
 refine h _ ?_
 exact ⟨rfl, rfl, rfl, rfl, trivial⟩
theorem di_1 {nn : Nat} (hU : Under F nn) (hn : nn ≤ w.heap.size) {ta : Option Addr} {tl tc n db : Nat} (hn64 : n ≤ 64) {A : Array Value} (hA : Slots 38 A [(0, .slice ta tl tc), (3, .pointer (some ⟨db, 0, none⟩)), (6, .int .i64 n)]) {cs : List Frame} {main : Bool} {Stop : Goroutine → World → Prop}
  (h : ∀ A, Slots 38 A [(0, .slice ta tl tc), (3, .pointer (some ⟨db, 0, none⟩)), (6, .int .i64 n), (7, .pointer (some ⟨w.heap.size + 1, 0, none⟩)), (8, .slice none 0 0), (16, .int .i64 n), (17, .int .i64 (0 : Nat))] → Own Try.prog main F Stop (G ((Go.Conc.base 61).at ⟨A, []⟩ [.code dis7, .inLoop dis7, .inBlock 0, .code dis12]) cs) ((w.alloc (.cells (madeCells #[.slice none 0 0] n) 84)).alloc (.cells #[.slice (some ⟨w.heap.size, 0, none⟩) n n] 27))) :
  Own Try.prog main F Stop (G ((Go.Conc.base 61).at ⟨A, []⟩ [.code dis2]) cs) w := by
 obtain ⟨hsz, h0, h3, h6, _⟩ := hA
 obtain ⟨s, rfl⟩ := diT_of hsz
 change s 0 = _ at h0
 change s 3 = _ at h3
 change s 6 = _ at h6
 clear hsz
 simp only [diT, h0, h3, h6]
 clear h0 h3 h6
 rw [dis2_eq]
 refine ogS ?_
 rw [dir2_eq]
 refine ogR ?_
 simp only [dio2, Code.opsOf, dir2, Code.piece, diBody, Try.f61, Option.getD_some, List.size_toArray, List.length_cons, List.length_nil, Nat.reduceAdd, Nat.zero_add, List.range, List.range.loop]
 (refine oW fun dd K hK => ?_; go_simp; refine qT hK ?_; clear hK K)
 (refine oW fun dd K hK => ?_; go_simp; refine hK _ _ ⟨⟨⟨0, grew_alloc hU (by first | (simp [go_sem]; done) | (simp [go_sem]; omega)) _⟩, fun e he => by (have hm := mem_listed he; clear he hK; simp [go_sem, storedEv, mkSlice27e hn64] at hm)⟩, ?_⟩; clear hK K; rw [alloc_at']; refine Own.at ?_ dd)
 (refine oW fun dd K hK => ?_; go_simp; refine qA hK hU ?_; clear hK K)
 (refine oW fun dd K hK => ?_; go_simp; refine qS hK hU ?_; clear hK K)
 have e1 := set_new27 (w.alloc (.cells (madeCells #[.slice none 0 0] n) 84)) (.slice none 0 0) (.slice (some ⟨w.heap.size, 0, none⟩) n n)
 simp only [World.size_alloc] at e1
 rw [e1]
 clear e1
 refine ogE ?_
 rw [dis3_eq]
 refine ogS ?_
 rw [dir3_eq]
 refine ogR ?_
 simp only [dio3, Code.opsOf, dir3, Code.piece, diBody, Try.f61, Option.getD_some, List.size_toArray, List.length_cons, List.length_nil, Nat.reduceAdd, Nat.zero_add, List.range, List.range.loop]
 (refine oW fun dd K hK => ?_; go_simp; refine qT hK ?_; clear hK K)
 refine ogE ?_
 rw [dis4_eq]
 refine ogS ?_
 rw [dis5_eq]
 refine ogS ?_
 rw [dir4_eq]
 refine ogR ?_
 simp only [dio4, Code.opsOf, dir4, Code.piece, diBody, Try.f61, Option.getD_some, List.size_toArray, List.length_cons, List.length_nil, Nat.reduceAdd, Nat.zero_add, List.range, List.range.loop]
 iterate 2 (refine oW fun dd K hK => ?_; go_simp; refine qT hK ?_; clear hK K)
 refine ogE ?_
 rw [dib0_eq]
 refine ogB ?_
 rw [dil6_eq]
 refine ogP ?_
 refine h _ ?_
 exact ⟨rfl, rfl, rfl, rfl, rfl, rfl, rfl, rfl, trivial⟩
theorem di_5 {ta : Option Addr} {tl tc n db av : Nat} {l : Value} {A : Array Value} (hA : Slots 38 A [(0, .slice ta tl tc), (3, .pointer (some ⟨db, 0, none⟩)), (6, .int .i64 n), (7, .pointer (some ⟨av, 0, none⟩)), (8, l), (16, .int .i64 n), (17, .int .i64 n)]) {cs : List Frame} {main : Bool} {Stop : Goroutine → World → Prop}
  (h : ∀ A, Slots 38 A [(0, .slice ta tl tc), (3, .pointer (some ⟨db, 0, none⟩)), (6, .int .i64 n), (7, .pointer (some ⟨av, 0, none⟩)), (8, l), (16, .int .i64 n), (17, .int .i64 n)] → Own Try.prog main F Stop (G ((Go.Conc.base 61).at ⟨A, []⟩ [.code dir10, .code .ret]) cs) w) :
  Own Try.prog main F Stop (G ((Go.Conc.base 61).at ⟨A, []⟩ [.code dis7, .inLoop dis7, .inBlock 0, .code dis12]) cs) w := by
 obtain ⟨hsz, h0, h3, h6, h7, h8, h16, h17, _⟩ := hA
 obtain ⟨s, rfl⟩ := diT_of hsz
 change s 0 = _ at h0
 change s 3 = _ at h3
 change s 6 = _ at h6
 change s 7 = _ at h7
 change s 8 = _ at h8
 change s 16 = _ at h16
 change s 17 = _ at h17
 clear hsz
 simp only [diT, h0, h3, h6, h7, h8, h16, h17]
 clear h0 h3 h6 h7 h8 h16 h17
 have hlt : decide ((n : Int) < (n : Int)) = false := by simp
 rw [dis7_eq]
 refine ogS ?_
 rw [dir5_eq]
 refine ogR ?_
 simp only [dio5, Code.opsOf, dir5, Code.piece, diBody, Try.f61, Option.getD_some, List.size_toArray, List.length_cons, List.length_nil, Nat.reduceAdd, Nat.zero_add, List.range, List.range.loop]
 (refine oW fun dd K hK => ?_; go_simp; refine qT hK ?_; clear hK K)
 refine ogE ?_
 rw [dis8_eq]
 refine ogS ?_
 rw [dic18_eq]
 refine ogF ?_
 simp only [Bool.false_eq_true, if_false]
 refine own_go rfl (fun d => stepG_exit rfl) ?_
 rw [dis12_eq]
 refine ogS ?_
 refine h _ ?_
 exact ⟨rfl, rfl, rfl, rfl, rfl, rfl, rfl, rfl, trivial⟩
theorem di_2 {nn : Nat} (hU : Under F nn) (hn : nn ≤ w.heap.size) {ta : Option Addr} {tl tc n db av k : Nat} {l : Value} (hk : k < n) {A : Array Value} (hA : Slots 38 A [(0, .slice ta tl tc), (3, .pointer (some ⟨db, 0, none⟩)), (6, .int .i64 n), (7, .pointer (some ⟨av, 0, none⟩)), (8, l), (16, .int .i64 n), (17, .int .i64 k)]) {cs : List Frame} {main : Bool} {Stop : Goroutine → World → Prop}
  (h : ∀ A, Slots 38 A ((9, .pointer (some ⟨w.heap.size, 0, none⟩)) :: [(0, .slice ta tl tc), (3, .pointer (some ⟨db, 0, none⟩)), (6, .int .i64 n), (7, .pointer (some ⟨av, 0, none⟩)), (8, l), (16, .int .i64 n), (17, .int .i64 k)]) → Own Try.prog main F Stop (G ((Go.Conc.base 61).at ⟨A, []⟩ [.code dis11, .inBlock 1, .code dir9, .inLoop dis7, .inBlock 0, .code dis12]) cs) (w.alloc (.cells #[.int .i64 k] 3))) :
  Own Try.prog main F Stop (G ((Go.Conc.base 61).at ⟨A, []⟩ [.code dis7, .inLoop dis7, .inBlock 0, .code dis12]) cs) w := by
 obtain ⟨hsz, h0, h3, h6, h7, h8, h16, h17, _⟩ := hA
 obtain ⟨s, rfl⟩ := diT_of hsz
 change s 0 = _ at h0
 change s 3 = _ at h3
 change s 6 = _ at h6
 change s 7 = _ at h7
 change s 8 = _ at h8
 change s 16 = _ at h16
 change s 17 = _ at h17
 clear hsz
 simp only [diT, h0, h3, h6, h7, h8, h16, h17]
 clear h0 h3 h6 h7 h8 h16 h17
 have hlt : decide ((k : Int) < (n : Int)) = true := by simp; omega
 have hlt2 : decide (k < n) = true := by simp; omega
 rw [dis7_eq]
 refine ogS ?_
 rw [dir5_eq]
 refine ogR ?_
 simp only [dio5, Code.opsOf, dir5, Code.piece, diBody, Try.f61, Option.getD_some, List.size_toArray, List.length_cons, List.length_nil, Nat.reduceAdd, Nat.zero_add, List.range, List.range.loop]
 (refine oW fun dd K hK => ?_; go_simp; refine qT hK ?_; clear hK K)
 refine ogE ?_
 rw [dis8_eq]
 refine ogS ?_
 rw [dic18_eq]
 refine ogT ?_
 simp only [if_true]
 refine ogK ?_
 rw [dis9_eq]
 refine ogS ?_
 rw [dib1_eq]
 refine ogB ?_
 rw [dis10_eq]
 refine ogS ?_
 rw [dir6_eq]
 refine ogR ?_
 simp only [dio6, Code.opsOf, dir6, Code.piece, diBody, Try.f61, Option.getD_some, List.size_toArray, List.length_cons, List.length_nil, Nat.reduceAdd, Nat.zero_add, List.range, List.range.loop]
 (refine oW fun dd K hK => ?_; go_simp; refine qT hK ?_; clear hK K)
 (refine oW fun dd K hK => ?_; go_simp; refine qA hK hU ?_; clear hK K)
 (refine oW fun dd K hK => ?_; go_simp; refine qS hK hU ?_; clear hK K)
 rw [set_new]
 refine ogE ?_
 refine h _ ?_
 exact ⟨rfl, rfl, rfl, rfl, rfl, rfl, rfl, rfl, rfl, trivial⟩
end
noncomputable section
variable {F : Fz} {w : World}
structure SD (nn ib tb o k ol oc : Nat) (oa : Option Addr) (u : World) : Prop where
 top : nn ≤ u.heap.size
 il : ib < u.heap.size
 tl : tb < u.heap.size
 ci : u.cell? ⟨ib, 0, none⟩ = some (.int .i64 k)
 zi : u.frozen? ⟨ib, 0, none⟩ = false
 ct : u.cell? ⟨tb, o + k, none⟩ = some (.slice oa ol oc)
 zt : u.frozen? ⟨tb, o + k, none⟩ = false
section
variable {nn ib tb o k ol oc : Nat} {oa : Option Addr} {u : World}
theorem SD.at (h : SD nn ib tb o k ol oc oa u) (d : Nat) : SD nn ib tb o k ol oc oa (u.at d) := ⟨h.top, h.il, h.tl, h.ci, h.zi, h.ct, h.zt⟩
theorem SD.alloc (h : SD nn ib tb o k ol oc oa u) (ob : Obj) : SD nn ib tb o k ol oc oa (u.alloc ob) := by
 have e1 : (u.alloc ob).heap[ib]? = u.heap[ib]? := heap_alloc_lt _ _ h.il
 have e2 : (u.alloc ob).heap[tb]? = u.heap[tb]? := heap_alloc_lt _ _ h.tl
 refine ⟨by simp; have := h.top; omega, by simp; have := h.il; omega, by simp; have := h.tl; omega, ?_, ?_, ?_, ?_⟩
 ·rw [← h.ci]; unfold World.cell?; simp only [e1]
 ·rw [← h.zi]; unfold World.frozen?; simp only [e1]
 ·rw [← h.ct]; unfold World.cell?; simp only [e2]
 ·rw [← h.zt]; unfold World.frozen?; simp only [e2]
end
theorem set_new32 (X : World) (u v : Value) : (X.alloc (.cells #[u] 32)).setCell ⟨X.heap.size, 0, none⟩ v = X.alloc (.cells #[v] 32) := by go_simp
theorem info44 : ∃ i, Try.prog.info? 44 = some i ∧ i.size = 4 := by
 have h : (Try.prog.info? 44).map (fun i => i.size) = some 4 := by kernel_rfl
 obtain ⟨i, hi, h1⟩ := Option.map_eq_some_iff.1 h
 exact ⟨i, hi, h1⟩
theorem slice_h {w : World} {a : Option Addr} {ol oc m : Nat} (hmc : m ≤ oc) : (Instr.sliceAt 32 (.slice a ol oc) none (some (.int .i64 m)) none).run Try.prog w = .ok (.slice a m oc) w := by
 obtain ⟨i, hi, hs⟩ := info44
 have hu : Try.prog.underlying 32 = some (.slice 44) := Try.underlying32
 have e : a.map (fun x : Addr => x.add 0) = a := by
  cases a with
  | none => rfl
  | some x => simp [Addr.add]
 have hm : (m : Int) ≤ oc := by omega
 simp [Instr.sliceAt, Instr.slice, run_underlying hu, Instr.sliceBounds, run_sliceBound, sizeOf, typeInfo, hi, hs, hmc, hm, e]
theorem slice_he {w : World} {es : Array Event} {a : Option Addr} {ol oc m : Nat} (hmc : m ≤ oc) : (Instr.sliceAt 32 (.slice a ol oc) none (some (.int .i64 m)) none).events Try.prog w es = es := by
 obtain ⟨i, hi, hs⟩ := info44
 have hu : Try.prog.underlying 32 = some (.slice 44) := Try.underlying32
 have hm : (m : Int) ≤ oc := by omega
 simp [Instr.sliceAt, Instr.slice, run_underlying hu, Instr.sliceBounds, Instr.sliceBound, asIntOf, run_sliceBound, sizeOf, typeInfo, hi, hs, hmc, hm]
set_option maxHeartbeats 8000000 in
theorem di_3 {nn : Nat} (hU : Under F nn) {tb o tl tc n db av ib k ol oc m : Nat} {oa : Option Addr} {l : Value} (hkt : k < tl) (hm0 : min ol 65536 = m) (hoc : ol ≤ oc) (hs : SD nn ib tb o k ol oc oa w) {A : Array Value} (hA : Slots 38 A ((9, .pointer (some ⟨ib, 0, none⟩)) :: [(0, .slice (some ⟨tb, o, none⟩) tl tc), (3, .pointer (some ⟨db, 0, none⟩)), (6, .int .i64 n), (7, .pointer (some ⟨av, 0, none⟩)), (8, l), (16, .int .i64 n), (17, .int .i64 k)])) {cs : List Frame} {main : Bool} {Stop : Goroutine → World → Prop} {kk : List Item}
  (h : ∀ A, Slots 38 A ((9, .pointer (some ⟨ib, 0, none⟩)) :: (10, .pointer (some ⟨w.heap.size, 0, none⟩)) :: [(0, .slice (some ⟨tb, o, none⟩) tl tc), (3, .pointer (some ⟨db, 0, none⟩)), (6, .int .i64 n), (7, .pointer (some ⟨av, 0, none⟩)), (8, l), (16, .int .i64 n), (17, .int .i64 k)]) → Own Try.prog main F Stop (G ((Go.Conc.base 61).at ⟨A, []⟩ kk) cs) (w.alloc (.cells #[.slice oa m oc] 32))) :
  Own Try.prog main F Stop (G ((Go.Conc.base 61).at ⟨A, []⟩ (.code dir7 :: kk)) cs) w := by
 obtain ⟨hsz, h9, h0, h3, h6, h7, h8, h16, h17, _⟩ := hA
 obtain ⟨s, rfl⟩ := diT_of hsz
 change s 9 = _ at h9
 change s 0 = _ at h0
 change s 3 = _ at h3
 change s 6 = _ at h6
 change s 7 = _ at h7
 change s 8 = _ at h8
 change s 16 = _ at h16
 change s 17 = _ at h17
 clear hsz
 simp only [diT, h9, h0, h3, h6, h7, h8, h16, h17]
 clear h9 h0 h3 h6 h7 h8 h16 h17
 have hmc : m ≤ oc := by omega
 have hm2 : (if (65536 : Int) < (ol : Int) then (65536 : Int) else ol) = (m : Int) := by split <;> omega
 have hS : ∀ u d, SD nn ib tb o k ol oc oa u → SD nn ib tb o k ol oc oa (World.at u d) := fun u d h => h.at d
 rw [dir7_eq]
 refine own_drawnM (SD nn ib tb o k ol oc oa) (last := 12) run_mixed (ll_of (by kernel_rfl)) (by decide) ?_
 simp only [dio7, Code.opsOf, dir7, Code.piece, diBody, Try.f61, Option.getD_some, List.size_toArray, List.length_cons, List.length_nil, Nat.reduceAdd, Nat.zero_add, List.range, List.range.loop]
 have hZ : ∀ a u d, Own Try.prog main F Stop (G ((Go.Conc.base 61).at a (.inRegion dio7 [12] :: kk)) cs) u → Own Try.prog main F Stop (G ((Go.Conc.base 61).at a (.inRegion dio7 [12] :: kk)) cs) (World.at u d) := fun a u d h => h.at d
 simp only [dio7, Code.opsOf, dir7, Code.piece, diBody, Try.f61, Option.getD_some, List.size_toArray, List.length_cons, List.length_nil, Nat.reduceAdd, Nat.zero_add, List.range, List.range.loop] at hZ
 refine anyM_take hS hZ (i := 0) (v := .slice (some ⟨tb, o, none⟩) tl tc) hs rfl rfl (by kernel_rfl) (by kernel_rfl) (by kernel_rfl) (fun u hu => .inl ⟨rfl, fun d => ⟨by simp [go_sem, execOp, Act.eval], fun e he => by have hm := mem_listed he; simp [go_sem, execOp, Act.eval] at hm⟩⟩) ?_
 walk_nrm
 refine anyM_take hS hZ (i := 1) (v := .int .i64 k) hs rfl rfl (by kernel_rfl) (by kernel_rfl) (by kernel_rfl) (fun u hu => .inl ⟨rfl, fun d => ⟨by simp [go_sem, execOp, Act.eval, hu.ci, hu.zi], fun e he => by have hm := mem_listed he; simp [go_sem, execOp, Act.eval, hu.ci, hu.zi] at hm; subst hm; exact evT_read _ _⟩⟩) ?_
 walk_nrm
 refine anyM_take hS hZ (i := 2) (v := .pointer (some ⟨tb, o + k, none⟩)) hs rfl rfl (by kernel_rfl) (by kernel_rfl) (by kernel_rfl) (fun u hu => .inl ⟨rfl, fun d => ⟨by simp [go_sem, execOp, Act.eval, hkt], fun e he => by have hm := mem_listed he; simp [go_sem, execOp, Act.eval, hkt] at hm⟩⟩) ?_
 walk_nrm
 refine anyM_take hS hZ (i := 3) (v := .slice oa ol oc) hs rfl rfl (by kernel_rfl) (by kernel_rfl) (by kernel_rfl) (fun u hu => .inl ⟨rfl, fun d => ⟨by simp [go_sem, execOp, Act.eval, hu.ct, hu.zt], fun e he => by have hm := mem_listed he; simp [go_sem, execOp, Act.eval, hu.ct, hu.zt] at hm; subst hm; exact evT_read _ _⟩⟩) ?_
 walk_nrm
 refine anyM_take hS hZ (i := 4) (v := .slice (some ⟨tb, o, none⟩) tl tc) hs rfl rfl (by kernel_rfl) (by kernel_rfl) (by kernel_rfl) (fun u hu => .inl ⟨rfl, fun d => ⟨by simp [go_sem, execOp, Act.eval], fun e he => by have hm := mem_listed he; simp [go_sem, execOp, Act.eval] at hm⟩⟩) ?_
 walk_nrm
 refine anyM_take hS hZ (i := 5) (v := .int .i64 k) hs rfl rfl (by kernel_rfl) (by kernel_rfl) (by kernel_rfl) (fun u hu => .inl ⟨rfl, fun d => ⟨by simp [go_sem, execOp, Act.eval, hu.ci, hu.zi], fun e he => by have hm := mem_listed he; simp [go_sem, execOp, Act.eval, hu.ci, hu.zi] at hm; subst hm; exact evT_read _ _⟩⟩) ?_
 walk_nrm
 refine anyM_take hS hZ (i := 6) (v := .pointer (some ⟨tb, o + k, none⟩)) hs rfl rfl (by kernel_rfl) (by kernel_rfl) (by kernel_rfl) (fun u hu => .inl ⟨rfl, fun d => ⟨by simp [go_sem, execOp, Act.eval, hkt], fun e he => by have hm := mem_listed he; simp [go_sem, execOp, Act.eval, hkt] at hm⟩⟩) ?_
 walk_nrm
 refine anyM_take hS hZ (i := 7) (v := .slice oa ol oc) hs rfl rfl (by kernel_rfl) (by kernel_rfl) (by kernel_rfl) (fun u hu => .inl ⟨rfl, fun d => ⟨by simp [go_sem, execOp, Act.eval, hu.ct, hu.zt], fun e he => by have hm := mem_listed he; simp [go_sem, execOp, Act.eval, hu.ct, hu.zt] at hm; subst hm; exact evT_read _ _⟩⟩) ?_
 walk_nrm
 refine anyM_take hS hZ (i := 8) (v := .int .i64 ol) hs rfl rfl (by kernel_rfl) (by kernel_rfl) (by kernel_rfl) (fun u hu => .inl ⟨rfl, fun d => ⟨by simp [go_sem, execOp, Act.eval], fun e he => by have hm := mem_listed he; simp [go_sem, execOp, Act.eval] at hm⟩⟩) ?_
 walk_nrm
 refine anyM_take hS hZ (i := 9) (v := .int .i64 m) hs rfl rfl (by kernel_rfl) (by kernel_rfl) (by kernel_rfl) (fun u hu => .inl ⟨rfl, fun d => ⟨by simp [go_sem, execOp, Act.eval, hm2], fun e he => by have hm := mem_listed he; simp [go_sem, execOp, Act.eval, hm2] at hm⟩⟩) ?_
 walk_nrm
 refine anyM_take hS hZ (i := 10) (v := .slice oa m oc) hs rfl rfl (by kernel_rfl) (by kernel_rfl) (by kernel_rfl) (fun u hu => .inl ⟨rfl, fun d => ⟨by simp [go_sem, execOp, Act.eval, slice_h hmc, slice_he hmc], fun e he => by have hm := mem_listed he; simp [go_sem, execOp, Act.eval, slice_h hmc, slice_he hmc] at hm⟩⟩) ?_
 walk_nrm
 refine anyM_all (r := [11]) (by kernel_rfl) (by kernel_rfl) (fun i hi hil => ?_)
 simp only [List.mem_cons, List.not_mem_nil, or_false] at hi
 subst hi
 refine opm_k rfl rfl (fun d K' hK' => ?_)
 go_simp
 refine hK' _ _ ⟨⟨⟨0, grew_alloc hU (show nn ≤ (w.at d).heap.size from hs.top) _⟩, fun e he => by (have hm := mem_listed he; simp [go_sem] at hm)⟩, (hs.at d).alloc _, ?_⟩
 clear hK' K'
 rw [alloc_at']
 refine anyM_at hS hZ _ _ _ _ ?_ d
 refine anyM_end (by kernel_rfl) ?_ _
 have hn := hs.top
 (refine oW fun dd K hK => ?_; go_simp; refine qS hK hU ?_; clear hK K)
 rw [set_new32]
 refine ogE ?_
 refine h _ ?_
 exact ⟨rfl, rfl, rfl, rfl, rfl, rfl, rfl, rfl, rfl, rfl, trivial⟩
end
noncomputable section
variable {w : World}
theorem mask_F0 (w : World) : mask F0 w = w := by
 have e : (mask F0 w).heap = w.heap := by
  apply Array.ext_getElem?
  intro r
  rw [mask_get]
  cases h : w.heap[r]? with
  | none => rfl
  | some o => cases o <;> rfl
 calc mask F0 w = { w with heap := (mask F0 w).heap } := rfl
  _ = w := by rw [e]
theorem under_F0 : Under F0 0 := fun r z h => by cases h
theorem wf_F0 (w : World) : Wf F0 w := ⟨fun r z h => by cases h⟩
theorem info117 : ∃ i, Try.prog.info? 117 = some i ∧ i.zero = some .nilFunc ∧ i.size = 1 ∧ i.bytes = 8 := by
 have h : (Try.prog.info? 117).map (fun i => (i.size, i.bytes)) = some (1, 8) := by kernel_rfl
 have h0 : (Try.prog.info? 117).bind (·.zero) = some .nilFunc := by kernel_rfl
 obtain ⟨i, hi, h1⟩ := Option.map_eq_some_iff.1 h
 rw [hi] at h0
 simp only [Prod.mk.injEq] at h1
 exact ⟨i, hi, h0, h1.1, h1.2⟩
def cl68 (ob db ib av : Nat) : Value := .func (.func 68) #[] #[.pointer (some ⟨ob, 0, none⟩), .pointer (some ⟨db, 0, none⟩), .pointer (some ⟨ib, 0, none⟩), .pointer (some ⟨av, 0, none⟩)]
set_option maxHeartbeats 8000000 in
theorem di_4 {ta : Option Addr} {tl tc n db av ib ob k base : Nat} {l : Value} {xs : List Value} (hk : k < 64) (hb : base ≤ w.heap.size) (hrow : w.ownsRow base 117 1 l k xs) {A : Array Value} (hA : Slots 38 A ((9, .pointer (some ⟨ib, 0, none⟩)) :: (10, .pointer (some ⟨ob, 0, none⟩)) :: [(0, .slice ta tl tc), (3, .pointer (some ⟨db, 0, none⟩)), (6, .int .i64 n), (7, .pointer (some ⟨av, 0, none⟩)), (8, l), (16, .int .i64 n), (17, .int .i64 k)])) {cs : List Frame} {main : Bool} {Stop : Goroutine → World → Prop}
  (h : ∀ (w' : World) (l' : Value) (A : Array Value), w'.ownsRow base 117 1 l' (k + 1) (xs ++ [cl68 ob db ib av]) → w.heap.size ≤ w'.heap.size → (∀ r, r < w.heap.size → some r ≠ Value.ownBlock l → w'.heap[r]? = w.heap[r]?) → Slots 38 A [(0, .slice ta tl tc), (3, .pointer (some ⟨db, 0, none⟩)), (6, .int .i64 n), (7, .pointer (some ⟨av, 0, none⟩)), (8, l'), (16, .int .i64 n), (17, .int .i64 (k + 1 : Nat))] → Own Try.prog main F0 Stop (G ((Go.Conc.base 61).at ⟨A, []⟩ [.code dis7, .inLoop dis7, .inBlock 0, .code dis12]) cs) w') :
  Own Try.prog main F0 Stop (G ((Go.Conc.base 61).at ⟨A, []⟩ [.code dir8, .inBlock 1, .code dir9, .inLoop dis7, .inBlock 0, .code dis12]) cs) w := by
 have hU := under_F0
 have hn : 0 ≤ w.heap.size := Nat.zero_le _
 have hk64 : IntKind.i64.wrap ((k : Int) + 1) = (k : Int) + 1 := IntWalk.i64_in _ (by omega)
 obtain ⟨hsz, h9, h10, h0, h3, h6, h7, h8, h16, h17, _⟩ := hA
 obtain ⟨s, rfl⟩ := diT_of hsz
 change s 9 = _ at h9
 change s 10 = _ at h10
 change s 0 = _ at h0
 change s 3 = _ at h3
 change s 6 = _ at h6
 change s 7 = _ at h7
 change s 8 = _ at h8
 change s 16 = _ at h16
 change s 17 = _ at h17
 clear hsz
 simp only [diT, h9, h10, h0, h3, h6, h7, h8, h16, h17]
 clear h9 h10 h0 h3 h6 h7 h8 h16 h17
 rw [dir8_eq]
 refine ogR ?_
 simp only [dio8, Code.opsOf, dir8, Code.piece, diBody, Try.f61, Option.getD_some, List.size_toArray, List.length_cons, List.length_nil, Nat.reduceAdd, Nat.zero_add, List.range, List.range.loop]
 iterate 2 (refine oW fun dd K hK => ?_; go_simp; refine qT hK ?_; clear hK K)
 (refine oW fun dd K hK => ?_; go_simp; refine qA hK hU ?_; clear hK K)
 have hrow2 := hrow.alloc (.cells #[cl68 ob db ib av] 117)
 have hcell := cell_one_new w (cl68 ob db ib av) 117
 have hsz : (w.alloc (.cells #[cl68 ob db ib av] 117)).heap.size = w.heap.size + 1 := by simp
 have hold : ∀ r, r < w.heap.size → (w.alloc (.cells #[cl68 ob db ib av] 117)).heap[r]? = w.heap[r]? := fun r hr => heap_alloc_lt _ _ hr
 change Own _ _ _ _ _ (w.alloc (.cells #[cl68 ob db ib av] 117))
 generalize w.alloc (.cells #[cl68 ob db ib av] 117) = W at hrow2 hcell hsz hold ⊢
 obtain ⟨i0, hi0, hz0, hz1, hz2⟩ := info117
 refine own_opm (by decide) ?_
 refine opm_lift (S' := fun _ => false) (px := false) (ready0.shut false) (by simp) rfl rfl rfl (wf_F0 _) (fun d => ?_)
 rw [mask_F0]
 obtain ⟨l', u, hr, hown, hgrow, _⟩ := run_append_own (P := Try.prog) (W.at d) base 127 127 117 i0 _ 1 8 Try.underlying127 hi0 hz0 hz1 hz2 rfl (by decide) l k xs hrow2 ⟨w.heap.size, 0, none⟩ 1 1 [cl68 ob db ib av] rfl
  hcell (fun q hq => by simp at hq; subst hq; rfl) (by unfold maxLen; omega) (by omega) (by show base ≤ W.heap.size; omega)
 refine ⟨l', u, run_append_op (.tmp 31) (.tmp 33) 127 rfl rfl rfl hr, fun w' hu hg hwf' => ?_⟩
 rw [mask_F0] at hu
 subst hu
 have hsz2 : W.heap.size ≤ u.heap.size := hgrow.size
 have hold2 : ∀ r, r < w.heap.size → some r ≠ Value.ownBlock l → u.heap[r]? = w.heap[r]? := fun r h1 h2 => (hgrow.block r (by show r < W.heap.size; omega) h2).trans (hold r h1)
 have hsz3 : w.heap.size ≤ u.heap.size := by omega
 clear hrow2 hcell hsz hold hr hgrow hsz2 hg hwf' hz0 hz1 hz2 hi0
 walk_nrm
 (refine oW fun dd K hK => ?_; go_simp; refine qT hK ?_; clear hK K)
 refine ogE ?_
 refine ogI ?_
 rw [dir9_eq]
 refine ogR ?_
 simp only [dio9, Code.opsOf, dir9, Code.piece, diBody, Try.f61, Option.getD_some, List.size_toArray, List.length_cons, List.length_nil, Nat.reduceAdd, Nat.zero_add, List.range, List.range.loop]
 iterate 2 (refine oW fun dd K hK => ?_; go_simp; refine qT hK ?_; clear hK K)
 refine ogE ?_
 refine ogL ?_
 refine h _ l' _ hown hsz3 hold2 ?_
 exact ⟨rfl, rfl, rfl, rfl, rfl, rfl, rfl, rfl, trivial⟩
end
noncomputable section
variable {w : World}
structure SV (av : Nat) (v : Value) (u : World) : Prop where
 c : u.cell? ⟨av, 0, none⟩ = some v
 z : u.frozen? ⟨av, 0, none⟩ = false
set_option maxHeartbeats 8000000 in
theorem di_6 {ta : Option Addr} {tl tc n db av : Nat} {l x : Value} (hs : SV av x w) {A : Array Value} (hA : Slots 38 A [(0, .slice ta tl tc), (3, .pointer (some ⟨db, 0, none⟩)), (6, .int .i64 n), (7, .pointer (some ⟨av, 0, none⟩)), (8, l), (16, .int .i64 n), (17, .int .i64 n)]) {c : Frame} {cs : List Frame} {Stop : Goroutine → World → Prop}
  (h : Own Try.prog true F0 Stop (G (c.finish (.tuple #[l, x])) cs) w) :
  Own Try.prog true F0 Stop (G ((Go.Conc.base 61).at ⟨A, []⟩ [.code dir10, .code .ret]) (c :: cs)) w := by
 obtain ⟨hsz, h0, h3, h6, h7, h8, h16, h17, _⟩ := hA
 obtain ⟨s, rfl⟩ := diT_of hsz
 change s 0 = _ at h0
 change s 3 = _ at h3
 change s 6 = _ at h6
 change s 7 = _ at h7
 change s 8 = _ at h8
 change s 16 = _ at h16
 change s 17 = _ at h17
 clear hsz
 simp only [diT, h0, h3, h6, h7, h8, h16, h17]
 clear h0 h3 h6 h7 h8 h16 h17
 have hS : ∀ u d, SV av x u → SV av x (World.at u d) := fun u d h => ⟨h.c, h.z⟩
 rw [dir10_eq]
 refine own_drawnM (SV av x) (last := 3) run_mixed (ll_of (by kernel_rfl)) (by decide) ?_
 simp only [dio10, Code.opsOf, dir10, Code.piece, diBody, Try.f61, Option.getD_some, List.size_toArray, List.length_cons, List.length_nil, Nat.reduceAdd, Nat.zero_add, List.range, List.range.loop]
 have hZ : ∀ a u d, Own Try.prog true F0 Stop (G ((Go.Conc.base 61).at a [.inRegion dio10 [3], .code .ret]) (c :: cs)) u → Own Try.prog true F0 Stop (G ((Go.Conc.base 61).at a [.inRegion dio10 [3], .code .ret]) (c :: cs)) (World.at u d) := fun a u d h => h.at d
 simp only [dio10, Code.opsOf, dir10, Code.piece, diBody, Try.f61, Option.getD_some, List.size_toArray, List.length_cons, List.length_nil, Nat.reduceAdd, Nat.zero_add, List.range, List.range.loop] at hZ
 refine anyM_take hS hZ (i := 0) (v := l) hs rfl rfl (by kernel_rfl) (by kernel_rfl) (by kernel_rfl) (fun u hu => .inl ⟨rfl, fun d => ⟨by simp [go_sem, execOp, Act.eval], fun e he => by have hm := mem_listed he; simp [go_sem, execOp, Act.eval] at hm⟩⟩) ?_
 walk_nrm
 refine anyM_take hS hZ (i := 1) (v := x) hs rfl rfl (by kernel_rfl) (by kernel_rfl) (by kernel_rfl) (fun u hu => .inl ⟨rfl, fun d => ⟨by simp [go_sem, execOp, Act.eval, hu.c, hu.z], fun e he => by have hm := mem_listed he; simp [go_sem, execOp, Act.eval, hu.c, hu.z] at hm; subst hm; exact evT_read _ _⟩⟩) ?_
 walk_nrm
 refine anyM_take hS hZ (i := 2) (v := l) hs rfl rfl (by kernel_rfl) (by kernel_rfl) (by kernel_rfl) (fun u hu => .inl ⟨rfl, fun d => ⟨by simp [go_sem, execOp, Act.eval], fun e he => by have hm := mem_listed he; simp [go_sem, execOp, Act.eval] at hm⟩⟩) ?_
 walk_nrm
 refine anyM_end (by kernel_rfl) ?_ _
 (refine oW fun dd K hK => ?_; go_simp; refine qT hK ?_; clear hK K)
 refine ogE ?_
 refine ogX ?_
 refine own_go rfl (fun d => stepG_leave (fn := Try.f61) (v := .tuple #[l, x]) rfl rfl Try.func61 (by simp [results, Try.f61, go_sem]) (by simp [results, Try.f61, go_sem])) ?_
 exact h
structure DI (w0 : World) (n k db aa av : Nat) (dv : Value) (oa : Nat → Option Addr) (m oc ib ob : Nat → Nat) (l : Value) (w : World) : Prop where
 size : w0.heap.size ≤ w.heap.size
 old : ∀ r, r < w0.heap.size → w.heap[r]? = w0.heap[r]?
 hdb : w.heap[db]? = some (.cells #[dv] 88 (0, 0))
 haa : w.heap[aa]? = some (.cells (madeCells #[.slice none 0 0] n) 84 (0, 0))
 hav : w.heap[av]? = some (.cells #[.slice (some ⟨aa, 0, none⟩) n n] 27 (0, 0))
 hib : ∀ j, j < k → w.heap[ib j]? = some (.cells #[.int .i64 j] 3 (0, 0))
 hob : ∀ j, j < k → w.heap[ob j]? = some (.cells #[.slice (oa j) (m j) (oc j)] 32 (0, 0))
 lo : ∀ j, j < k → w0.heap.size ≤ ib j ∧ w0.heap.size ≤ ob j
 new : w0.heap.size ≤ db ∧ w0.heap.size ≤ aa ∧ w0.heap.size ≤ av
 row : w.ownsRow w0.heap.size 117 1 l k ((List.range k).map fun j => cl68 (ob j) db (ib j) av)
theorem DI.same {w0 w w' : World} {n k db aa av : Nat} {dv : Value} {oa : Nat → Option Addr} {m oc ib ob : Nat → Nat} {l : Value} (h : DI w0 n k db aa av dv oa m oc ib ob l w) (hsz : w.heap.size ≤ w'.heap.size) (hs : ∀ r, r < w.heap.size → w'.heap[r]? = w.heap[r]?) : DI w0 n k db aa av dv oa m oc ib ob l w' := by
 have lt : ∀ {r : Nat} {o : Obj}, w.heap[r]? = some o → w'.heap[r]? = some o := fun hr => (hs _ (Array.getElem?_eq_some_iff.1 hr).1).trans hr
 exact ⟨Nat.le_trans h.size hsz, fun r hr => (hs r (Nat.lt_of_lt_of_le hr h.size)).trans (h.old r hr), lt h.hdb, lt h.haa, lt h.hav, fun j hj => lt (h.hib j hj), fun j hj => lt (h.hob j hj), h.lo, h.new, ownsRow_same2 h.row fun b hb _ => hs b (h.row.lt b hb).2⟩
theorem own_doing_loop {w0 : World} {tb o tl tc n db aa av : Nat} {dv : Value} (hntl : n ≤ tl) (hn64 : n ≤ 64) {oa : Nat → Option Addr} {ol m oc : Nat → Nat} (htb : 0 < n → tb < w0.heap.size) (hth : ∀ j, j < n → w0.cell? ⟨tb, o + j, none⟩ = some (.slice (oa j) (ol j) (oc j)) ∧ w0.frozen? ⟨tb, o + j, none⟩ = false ∧ ol j ≤ oc j ∧ min (ol j) 65536 = m j) {ta : Option Addr} (hta : 0 < n → ta = some ⟨tb, o, none⟩) {c : Frame} {cs : List Frame} {Stop : Goroutine → World → Prop}
  (K : ∀ w' l ib ob, DI w0 n n db aa av dv oa m oc ib ob l w' → Own Try.prog true F0 Stop (G (c.finish (.tuple #[l, .slice (some ⟨aa, 0, none⟩) n n])) cs) w') :
  ∀ (q k : Nat), k + q = n → ∀ (w : World) (l : Value) (ib ob : Nat → Nat) (A : Array Value), DI w0 n k db aa av dv oa m oc ib ob l w → Slots 38 A [(0, .slice ta tl tc), (3, .pointer (some ⟨db, 0, none⟩)), (6, .int .i64 n), (7, .pointer (some ⟨av, 0, none⟩)), (8, l), (16, .int .i64 n), (17, .int .i64 k)] →
   Own Try.prog true F0 Stop (G ((Go.Conc.base 61).at ⟨A, []⟩ [.code dis7, .inLoop dis7, .inBlock 0, .code dis12]) (c :: cs)) w := by
 intro q
 induction q with
 | zero =>
  intro k hk w l ib ob A hD hA
  obtain rfl : k = n := by omega
  refine di_5 hA fun A2 hA2 => ?_
  refine di_6 (x := .slice (some ⟨aa, 0, none⟩) k k) ⟨by simp [World.cell?, hD.hav], by simp [World.frozen?, hD.hav]⟩ hA2 ?_
  exact K w l ib ob hD
 | succ q ih =>
  intro k hk w l ib ob A hD hA
  have hkn : k < n := by omega
  obtain rfl := hta (by omega)
  obtain ⟨t1, t2, t3, t4⟩ := hth k hkn
  have htl := htb (by omega)
  have htb2 := hD.old tb htl
  have hsz0 := hD.size
  refine di_2 under_F0 (Nat.zero_le _) hkn hA fun A2 hA2 => ?_
  have e1 : ∀ r, r < w.heap.size → (w.alloc (.cells #[.int .i64 k] 3)).heap[r]? = w.heap[r]? := fun r hr => heap_alloc_lt _ _ hr
  have e2 := heap_alloc_new w (.cells #[.int .i64 k] 3)
  have e3 : (w.alloc (.cells #[.int .i64 k] 3)).heap.size = w.heap.size + 1 := by simp
  generalize w.alloc (.cells #[.int .i64 k] 3) = W1 at e1 e2 e3 ⊢
  rw [dis11_eq]
  refine ogS ?_
  have htb3 : W1.heap[tb]? = w0.heap[tb]? := (e1 tb (by omega)).trans htb2
  refine di_3 (nn := 0) (m := m k) under_F0 (by omega) t4 t3 ⟨Nat.zero_le _, by omega, by omega, by simp [World.cell?, e2], by simp [World.frozen?, e2], by rw [← t1]; unfold World.cell?; simp only [htb3], by rw [← t2]; unfold World.frozen?; simp only [htb3]⟩ hA2 fun A3 hA3 => ?_
  have f1 : ∀ r, r < W1.heap.size → (W1.alloc (.cells #[.slice (oa k) (m k) (oc k)] 32)).heap[r]? = W1.heap[r]? := fun r hr => heap_alloc_lt _ _ hr
  have f2 := heap_alloc_new W1 (.cells #[.slice (oa k) (m k) (oc k)] 32)
  have f3 : (W1.alloc (.cells #[.slice (oa k) (m k) (oc k)] 32)).heap.size = W1.heap.size + 1 := by simp
  generalize W1.alloc (.cells #[.slice (oa k) (m k) (oc k)] 32) = W2 at f1 f2 f3 ⊢
  have hD2 : DI w0 n k db aa av dv oa m oc ib ob l W2 := hD.same (by omega) fun r hr => (f1 r (by omega)).trans (e1 r hr)
  refine di_4 (base := w0.heap.size) (by omega) (by omega) hD2.row hA3 fun w' l' A4 g1 g2 g3 hA4 => ?_
  have hne : ∀ {r : Nat} {cc : Array Value} {t : TypeId}, W2.heap[r]? = some (.cells cc t (0, 0)) → t ≠ 117 → w'.heap[r]? = some (.cells cc t (0, 0)) := fun hr ht => (g3 _ (Array.getElem?_eq_some_iff.1 hr).1 (own_type hD2.row hr (fun e => ht e.symm))).trans hr
  have hold : ∀ r, r < w0.heap.size → w'.heap[r]? = w0.heap[r]? := fun r hr => (g3 r (by omega) (fun e => by
   have := (hD2.row.lt r e.symm).1; omega)).trans (hD2.old r hr)
  refine ih (k + 1) (by omega) w' l' (fun j => if j = k then w.heap.size else ib j) (fun j => if j = k then W1.heap.size else ob j) A4 ⟨by omega, hold, hne hD2.hdb (by decide), hne hD2.haa (by decide), hne hD2.hav (by decide), fun j hj => ?_, fun j hj => ?_, fun j hj => ?_, hD.new, ?_⟩ hA4
  ·by_cases e : j = k
   ·subst e
    simp only [if_true]
    exact hne ((f1 _ (by omega)).trans e2) (by decide)
   ·simp only [if_neg e]
    exact hne (hD2.hib j (by omega)) (by decide)
  ·by_cases e : j = k
   ·subst e
    simp only [if_true]
    exact hne f2 (by decide)
   ·simp only [if_neg e]
    exact hne (hD2.hob j (by omega)) (by decide)
  ·by_cases e : j = k
   ·subst e
    simp only [if_true]
    omega
   ·simp only [if_neg e]
    exact hD.lo j (by omega)
  ·have e5 : ((List.range (k + 1)).map fun j => cl68 (if j = k then W1.heap.size else ob j) db (if j = k then w.heap.size else ib j) av) = ((List.range k).map fun j => cl68 (ob j) db (ib j) av) ++ [cl68 W1.heap.size db w.heap.size av] := by
    rw [List.range_succ, List.map_append]
    congr 1
    ·apply List.map_congr_left
     intro j hj
     have : j < k := List.mem_range.1 hj
     simp only [if_neg (show ¬ j = k by omega)]
    ·simp
   rw [e5]
   exact g1
theorem own_doing {tb o tl tc n df : Nat} {first capt : Array Value} (hn1 : min tl 64 = n) {oa : Nat → Option Addr} {ol m oc : Nat → Nat} (htb : 0 < n → tb < w.heap.size) (hth : ∀ j, j < n → w.cell? ⟨tb, o + j, none⟩ = some (.slice (oa j) (ol j) (oc j)) ∧ w.frozen? ⟨tb, o + j, none⟩ = false ∧ ol j ≤ oc j ∧ min (ol j) 65536 = m j) {ta : Option Addr} (hta : 0 < n → ta = some ⟨tb, o, none⟩) {c : Frame} {cs : List Frame} {Stop : Goroutine → World → Prop}
  (K : ∀ w' l ib ob db aa av, DI w n n db aa av (.func (.func df) first capt) oa m oc ib ob l w' → Own Try.prog true F0 Stop (G (c.finish (.tuple #[l, .slice (some ⟨aa, 0, none⟩) n n])) cs) w') :
  Own Try.prog true F0 Stop (G (Frame.enter Try.prog 61 #[.slice ta tl tc, .func (.func df) first capt] .normal) (c :: cs)) w := by
 refine di_0 under_F0 (Nat.zero_le _) hn1 fun A hA => ?_
 refine di_1 under_F0 (Nat.zero_le _) (by omega) hA fun A2 hA2 => ?_
 have e1 : ∀ r, r < w.heap.size → (((w.alloc (.cells #[.func (.func df) first capt] 88)).alloc (.cells (madeCells #[.slice none 0 0] n) 84)).alloc (.cells #[.slice (some ⟨(w.alloc (.cells #[.func (.func df) first capt] 88)).heap.size, 0, none⟩) n n] 27)).heap[r]? = w.heap[r]? := fun r hr => by
  rw [heap_alloc_lt _ _ (by simp; omega), heap_alloc_lt _ _ (by simp; omega), heap_alloc_lt _ _ hr]
 refine own_doing_loop (w0 := w) (n := n) (tl := tl) (dv := .func (.func df) first capt) (oa := oa) (ol := ol) (m := m) (oc := oc) (tb := tb) (o := o) (db := w.heap.size) (aa := w.heap.size + 1) (av := w.heap.size + 2) (by omega) (by omega) htb hth hta (fun w' l ib ob hD => K w' l ib ob _ _ _ hD) n 0 (by omega) _ (.slice none 0 0) (fun _ => 0) (fun _ => 0) A2 ⟨by simp; omega, e1, ?_, ?_, ?_, fun j hj => by omega, fun j hj => by omega, fun j hj => by omega, ⟨by omega, by omega, by omega⟩, World.ownsRow_nil _ _ _ _⟩ (by simpa using hA2)
 ·rw [heap_alloc_lt _ _ (by simp; omega), heap_alloc_lt _ _ (by simp)]
  exact heap_alloc_new _ _
 ·have := heap_alloc_new (w.alloc (.cells #[.func (.func df) first capt] 88)) (.cells (madeCells #[.slice none 0 0] n) 84)
  rw [heap_alloc_lt _ _ (by simp)]
  simpa using this
 ·have := heap_alloc_new ((w.alloc (.cells #[.func (.func df) first capt] 88)).alloc (.cells (madeCells #[.slice none 0 0] n) 84)) (.cells #[.slice (some ⟨(w.alloc (.cells #[.func (.func df) first capt] 88)).heap.size, 0, none⟩) n n] 27)
  simpa using this
end
noncomputable section
variable {F : Fz} {w : World}
theorem built29 (a b c : Option Addr) (n m k l : Nat) (s : Bool) : Try.prog.built 29 [(0, .slice a n m), (1, .slice b k l), (3, .bool s)] = some #[.slice a n m, .slice b k l, .slice none 0 0, .bool s] := by kernel_rfl
@[go_sem] theorem run_build29 (a b : Option Addr) (n m k l : Nat) (s : Bool) (w : World) : (Instr.build 29 #[(0, .slice a n m), (1, .slice b k l), (3, .bool s)]).run Try.prog w = .ok (.agg #[.slice a n m, .slice b k l, .slice none 0 0, .bool s]) w := run_build w _ _ _ (built29 a b a n m k l s)
@[go_sem] theorem ev_build29 (a b : Option Addr) (n m k l : Nat) (s : Bool) (w : World) (es : Array Event) : (Instr.build 29 #[(0, .slice a n m), (1, .slice b k l), (3, .bool s)]).events Try.prog w es = es := ev_build w es _ _ _ _ Try.underlying29 (built29 a b a n m k l s)
def trW (w : World) (tb : Nat) (a b c d : Value) : World := (((w.setCell ⟨tb, 0, none⟩ a).setCell ⟨tb, 1, none⟩ b).setCell ⟨tb, 2, none⟩ c).setCell ⟨tb, 3, none⟩ d
structure TrAt (w : World) (tb : Nat) (a b c d : Value) : Prop where
 o : w.heap[tb]? = some (.cells #[a, b, c, d] 29 (0, 0))
section
variable {tb : Nat} {a b c d : Value}
theorem TrAt.at (h : TrAt w tb a b c d) (e : Nat) : TrAt (w.at e) tb a b c d := ⟨h.o⟩
theorem TrAt.c0 (h : TrAt w tb a b c d) : w.cell? ⟨tb, 0, none⟩ = some a := by simp [World.cell?, h.o]
theorem TrAt.c1 (h : TrAt w tb a b c d) : w.cell? ⟨tb, 1, none⟩ = some b := by simp [World.cell?, h.o]
theorem TrAt.c2 (h : TrAt w tb a b c d) : w.cell? ⟨tb, 2, none⟩ = some c := by simp [World.cell?, h.o]
theorem TrAt.c3 (h : TrAt w tb a b c d) : w.cell? ⟨tb, 3, none⟩ = some d := by simp [World.cell?, h.o]
theorem TrAt.z (h : TrAt w tb a b c d) (k : Nat) : w.frozen? ⟨tb, k, none⟩ = false := by simp [World.frozen?, h.o]
theorem TrAt.put (h : TrAt w tb a b c d) (a' b' c' d' : Value) : TrAt (trW w tb a' b' c' d') tb a' b' c' d' := by
 constructor
 unfold trW
 rw [heap_setCell_eq (heap_setCell_eq (heap_setCell_eq (heap_setCell_eq h.o _) _) _) _]
 rfl
end
def opBody : Code := Try.f37.body.getD .skip
def ops0 : Code := Code.piece [] opBody
def opr0 : Code := Code.piece [true] opBody
def opo0 : Array Oper := Code.opsOf opr0
def ops1 : Code := Code.piece [false] opBody
def opr1 : Code := Code.piece [false, true] opBody
def opo1 : Array Oper := Code.opsOf opr1
def ops2 : Code := Code.piece [false, false] opBody
def opr2 : Code := Code.piece [false, false, true] opBody
def opo2 : Array Oper := Code.opsOf opr2
def ops3 : Code := Code.piece [false, false, false] opBody
def opr3 : Code := Code.piece [false, false, false, true] opBody
def opo3 : Array Oper := Code.opsOf opr3
theorem ops0_eq : ops0 = .seq opr0 ops1 := by kernel_rfl
theorem opr0_eq : opr0 = .region 0 opo0 false := by kernel_rfl
theorem ops1_eq : ops1 = .seq opr1 ops2 := by kernel_rfl
theorem opr1_eq : opr1 = .region 1 opo1 false := by kernel_rfl
theorem ops2_eq : ops2 = .seq opr2 ops3 := by kernel_rfl
theorem opr2_eq : opr2 = .region 2 opo2 false := by kernel_rfl
theorem ops3_eq : ops3 = .seq opr3 .ret := by kernel_rfl
theorem opr3_eq : opr3 = .region 3 opo3 false := by kernel_rfl
theorem enter_op (args : Array Value) : Frame.enter Try.prog 37 args .normal = (Go.Conc.base 37).at { tmps := args ++ Array.replicate (32 - args.size) undef, defers := [] } [.code ops0] := enter_at args Try.func37 rfl
theorem callable37 : Callable 37 := callable Try.func37 rfl rfl
def opT (s : Nat → Value) : Array Value := #[s 0, s 1, s 2, s 3, s 4, s 5, s 6, s 7, s 8, s 9, s 10, s 11, s 12, s 13, s 14, s 15, s 16, s 17, s 18, s 19, s 20, s 21, s 22, s 23, s 24, s 25, s 26, s 27, s 28, s 29, s 30, s 31]
theorem opT_of {A : Array Value} (h : A.size = 32) : ∃ s, A = opT s := by
 obtain ⟨s, hs, _⟩ := arr_lit A h
 exact ⟨s, hs⟩
theorem op_0 {n : Nat} (hU : Under F n) (hn : n ≤ w.heap.size) {ta sa : Option Addr} {tl tc sl sc : Nat} {dv : Value} {mo : Int} {cs : List Frame} {main : Bool} {Stop : Goroutine → World → Prop}
  (h : ∀ A, Slots 32 A [(0, .slice ta tl tc), (1, dv), (2, .slice sa sl sc), (3, .int .i64 mo), (8, .pointer (some ⟨w.heap.size, 0, none⟩))] → Own Try.prog main F Stop (G (Frame.enter Try.prog 61 #[.slice ta tl tc, dv] .normal) (((Go.Conc.base 37).at ⟨A, []⟩ [.inRegion opo1 [2, 3, 4, 5, 6, 7], .code ops2]) :: cs)) (w.alloc (.cells #[.slice none 0 0, .slice none 0 0, .slice none 0 0, .bool false] 29))) :
  Own Try.prog main F Stop (G (Frame.enter Try.prog 37 #[.slice ta tl tc, dv, .slice sa sl sc, .int .i64 mo] .normal) cs) w := by
 rw [enter_op]
 walk_nrm
 rw [ops0_eq]
 refine ogS ?_
 rw [opr0_eq]
 refine ogR ?_
 simp only [opo0, Code.opsOf, opr0, Code.piece, opBody, Try.f37, Option.getD_some, List.size_toArray, List.length_cons, List.length_nil, Nat.reduceAdd, Nat.zero_add, List.range, List.range.loop]
 (refine oW fun dd K hK => ?_; go_simp; refine qA hK hU ?_; clear hK K)
 refine ogE ?_
 rw [ops1_eq]
 refine ogS ?_
 rw [opr1_eq]
 refine ogR ?_
 simp only [opo1, Code.opsOf, opr1, Code.piece, opBody, Try.f37, Option.getD_some, List.size_toArray, List.length_cons, List.length_nil, Nat.reduceAdd, Nat.zero_add, List.range, List.range.loop]
 iterate 2 (refine oW fun dd K hK => ?_; go_simp; refine qT hK ?_; clear hK K)
 refine oc callable61 #[.slice ta tl tc, dv] ?_
 refine h _ ?_
 exact ⟨rfl, rfl, rfl, rfl, rfl, rfl, trivial⟩
theorem op_1 {ta sa : Option Addr} {tl tc sl sc tb : Nat} {dv l an : Value} {mo : Int} {A : Array Value} (hA : Slots 32 A [(0, .slice ta tl tc), (1, dv), (2, .slice sa sl sc), (3, .int .i64 mo), (8, .pointer (some ⟨tb, 0, none⟩))]) {cs : List Frame} {main : Bool} {Stop : Goroutine → World → Prop}
  (h : ∀ A, Slots 32 A [(8, .pointer (some ⟨tb, 0, none⟩)), (10, an)] → Own Try.prog main F Stop (G (Frame.enter Try.prog 62 #[l, .slice sa sl sc, .int .i64 mo] .normal) (((Go.Conc.base 37).at ⟨A, []⟩ [.inRegion opo2 [3, 4, 5, 6, 7, 8, 9, 10], .code ops3]) :: cs)) w) :
  Own Try.prog main F Stop (G (((Go.Conc.base 37).at ⟨A, []⟩ [.inRegion opo1 [2, 3, 4, 5, 6, 7], .code ops2]).finish (.tuple #[l, an])) cs) w := by
 obtain ⟨hsz, h0, h1, h2, h3, h8, _⟩ := hA
 obtain ⟨s, rfl⟩ := opT_of hsz
 change s 0 = _ at h0
 change s 1 = _ at h1
 change s 2 = _ at h2
 change s 3 = _ at h3
 change s 8 = _ at h8
 clear hsz
 simp only [opT, h0, h1, h2, h3, h8]
 clear h0 h1 h2 h3 h8
 rw [Frame.finish_at]
 simp only [opo1, Code.opsOf, opr1, Code.piece, opBody, Try.f37, Option.getD_some, List.size_toArray, List.length_cons, List.length_nil, Nat.reduceAdd, Nat.zero_add, List.range, List.range.loop]
 walk_nrm
 iterate 5 (refine oW fun dd K hK => ?_; go_simp; refine qT hK ?_; clear hK K)
 refine ogE ?_
 rw [ops2_eq]
 refine ogS ?_
 rw [opr2_eq]
 refine ogR ?_
 simp only [opo2, Code.opsOf, opr2, Code.piece, opBody, Try.f37, Option.getD_some, List.size_toArray, List.length_cons, List.length_nil, Nat.reduceAdd, Nat.zero_add, List.range, List.range.loop]
 iterate 3 (refine oW fun dd K hK => ?_; go_simp; refine qT hK ?_; clear hK K)
 refine oc callable62 #[l, .slice sa sl sc, .int .i64 mo] ?_
 refine h _ ?_
 exact ⟨rfl, rfl, rfl, trivial⟩
theorem op_2 {tb : Nat} {x0 x1 x2 x3 : Value} (hT : TrAt w tb x0 x1 x2 x3) (hnh : ∀ k, ¬ held F ⟨tb, k, none⟩) {aa oa : Option Addr} {al ac ol oc : Nat} {st : Bool} {bv : Value} {A : Array Value} (hA : Slots 32 A [(8, .pointer (some ⟨tb, 0, none⟩)), (10, .slice aa al ac)]) {c : Frame} {cs : List Frame} {main : Bool} {Stop : Goroutine → World → Prop}
  (h : Own Try.prog main F Stop (G (c.finish (.agg #[.slice aa al ac, .slice oa ol oc, .slice none 0 0, .bool st])) cs) (trW w tb (.slice aa al ac) (.slice oa ol oc) (.slice none 0 0) (.bool st))) :
  Own Try.prog main F Stop (G (((Go.Conc.base 37).at ⟨A, []⟩ [.inRegion opo2 [3, 4, 5, 6, 7, 8, 9, 10], .code ops3]).finish (.tuple #[.slice oa ol oc, .bool st, bv])) (c :: cs)) w := by
 obtain ⟨hsz, h8, h10, _⟩ := hA
 obtain ⟨s, rfl⟩ := opT_of hsz
 change s 8 = _ at h8
 change s 10 = _ at h10
 clear hsz
 simp only [opT, h8, h10]
 clear h8 h10
 rw [Frame.finish_at]
 simp only [opo2, Code.opsOf, opr2, Code.piece, opBody, Try.f37, Option.getD_some, List.size_toArray, List.length_cons, List.length_nil, Nat.reduceAdd, Nat.zero_add, List.range, List.range.loop]
 walk_nrm
 iterate 7 (refine oW fun dd K hK => ?_; go_simp; refine qT hK ?_; clear hK K)
 refine ogE ?_
 rw [ops3_eq]
 refine ogS ?_
 rw [opr3_eq]
 refine ogR ?_
 simp only [opo3, Code.opsOf, opr3, Code.piece, opBody, Try.f37, Option.getD_some, List.size_toArray, List.length_cons, List.length_nil, Nat.reduceAdd, Nat.zero_add, List.range, List.range.loop]
 iterate 4 (refine oW fun dd K hK => ?_; go_simp; refine qT hK ?_; clear hK K)
 (refine oW fun dd K hK => ?_; have hc0 := (hT.at dd).c0; have hc1 := (hT.at dd).c1; have hc2 := (hT.at dd).c2; have hc3 := (hT.at dd).c3; have hz0 := (hT.at dd).z; go_simp; refine hK _ _ ⟨⟨⟨0, grew4 (fun k => hnh k) _ _ _ _⟩, fun e he => by (have hm := mem_listed he; clear he hK; simp [go_sem, storedEv, hc0, hc1, hc2, hc3, hz0] at hm; rcases hm with rfl | rfl | rfl | rfl <;> exact evT_write _ _ ((fun k => hnh k) _))⟩, ?_⟩; clear hK K hc0 hc1 hc2 hc3 hz0; simp only [setCell_at']; refine Own.at ?_ dd)
 refine ogE ?_
 refine ogX ?_
 have hT2 := hT.put (.slice aa al ac) (.slice oa ol oc) (.slice none 0 0) (.bool st)
 change Own _ _ _ _ _ (trW w tb (.slice aa al ac) (.slice oa ol oc) (.slice none 0 0) (.bool st))
 generalize trW w tb (.slice aa al ac) (.slice oa ol oc) (.slice none 0 0) (.bool st) = W at hT2 h ⊢
 have hc0 := hT2.c0
 have hc1 := hT2.c1
 have hc2 := hT2.c2
 have hc3 := hT2.c3
 have hz0 := hT2.z
 refine own_leave (fn := Try.f37) (v := .agg #[.slice aa al ac, .slice oa ol oc, .slice none 0 0, .bool st]) rfl rfl Try.func37 (fun d => by simp [results, Try.f37, go_sem, hc0, hc1, hc2, hc3, hz0]) (fun d e he => by simp [results, Try.f37, go_sem, hc0, hc1, hc2, hc3, hz0] at he; rcases he with rfl | rfl | rfl | rfl <;> exact evT_read _ _) ?_
 exact h
end
noncomputable section
variable {w w' : World} {L : Lay}
open Classical in
def IW (w : World) (N : Nat → Prop) : Nat → Option Obj := fun r => if N r then none else match w.heap[r]? with
 | some (.cells c e z) => some (.cells c e z)
 | _ => none
theorem iw_mem {N : Nat → Prop} {r : Nat} (h : N r) : IW w N r = none := if_pos h
theorem iw_cells {N : Nat → Prop} {r : Nat} {c : Array Value} {e : TypeId} {z : Nat × Nat} (h : ¬ N r) (ho : w.heap[r]? = some (.cells c e z)) : IW w N r = some (.cells c e z) := by
 unfold IW
 rw [if_neg h, ho]
theorem iw_some {N : Nat → Prop} {r : Nat} {o : Obj} (h : IW w N r = some o) : ¬ N r ∧ w.heap[r]? = some o ∧ ∃ c e z, o = .cells c e z := by
 unfold IW at h
 split at h
 ·cases h
 ·rename_i hm
  split at h
  ·rename_i c e z ho
   cases h
   exact ⟨hm, ho, c, e, z, rfl⟩
  ·cases h
theorem madeCells_nil (n j : Nat) (h : j < n) : (madeCells #[Value.slice none 0 0] n)[j]? = some (.slice none 0 0) := by
 simp [madeCells, h, Nat.mod_one]
theorem madeCells_size (n : Nat) (v : Value) : (madeCells #[v] n).size = n := by
 simp [madeCells]
def x00 (s0 : L.S) : OX L := ⟨s0, fun _ => ⟨0, none, [], .slice none 0 0⟩⟩
theorem tr00 {r : Nat} : ¬ TR (⟨0, none, [], .slice none 0 0⟩ : Thr L) r := by
 rintro (h | ⟨a, ha, _⟩ | ⟨c, A, ab, h, _⟩)
 ·cases h
 ·cases ha
 ·cases h
def pOf (L : Lay) (s0 : L.S) (W : World) (n db aa av : Nat) (ib ob : Nat → Nat) (oa : Nat → Option Addr) (oc : Nat → Nat) (ops : Nat → List Op4) : Par :=
 ⟨n, aa, av, db, ib, ob, ops, oa, oc, IW W (fun r => r = aa ∨ L.SR s0 r)⟩
theorem pof_cells {s0 : L.S} {W : World} {n db aa av : Nat} {ib ob : Nat → Nat} {oa : Nat → Option Addr} {oc : Nat → Nat} {ops : Nat → List Op4} {r : Nat} {c : Array Value} {e : TypeId} {z : Nat × Nat} (h : ¬ (r = aa ∨ L.SR s0 r)) (ho : W.heap[r]? = some (.cells c e z)) : (pOf L s0 W n db aa av ib ob oa oc ops).I r = some (.cells c e z) := by
 exact iw_cells (w := W) (N := fun r => r = aa ∨ L.SR s0 r) h ho
theorem pof_some {s0 : L.S} {W : World} {n db aa av : Nat} {ib ob : Nat → Nat} {oa : Nat → Option Addr} {oc : Nat → Nat} {ops : Nat → List Op4} {r : Nat} {o : Obj} (h : (pOf L s0 W n db aa av ib ob oa oc ops).I r = some o) : ¬ (r = aa ∨ L.SR s0 r) ∧ W.heap[r]? = some o ∧ ∃ c e z, o = .cells c e z := by
 exact iw_some (w := W) (N := fun r => r = aa ∨ L.SR s0 r) h
theorem pof_mem {s0 : L.S} {W : World} {n db aa av : Nat} {ib ob : Nat → Nat} {oa : Nat → Option Addr} {oc : Nat → Nat} {ops : Nat → List Op4} {r : Nat} (h : r = aa ∨ L.SR s0 r) : (pOf L s0 W n db aa av ib ob oa oc ops).I r = none := by
 exact iw_mem (w := W) (N := fun r => r = aa ∨ L.SR s0 r) h
section
variable {s0 : L.S} {W w0 : World} {n db aa av tb o tl : Nat} {ib ob : Nat → Nat} {oa : Nat → Option Addr} {ol oc m : Nat → Nat} {ops : Nat → List Op4} {ta sa : Option Addr} {S : List Int} {l : Value}
theorem di_type {dv : Value} (hL : L.Ok) (hsu : L.SU s0 w0) (hD : DI w0 n n db aa av dv oa m oc ib ob l W) {r : Nat} {c : Array Value} {e : TypeId} {z : Nat × Nat} (ho : W.heap[r]? = some (.cells c e z)) (h84 : e ≠ 84) (hr : w0.heap.size ≤ r) : ¬ (r = aa ∨ L.SR s0 r) := by
 rintro (rfl | h)
 ·rw [hD.haa] at ho
  cases ho
  exact h84 rfl
 ·have := hL.lS _ _ _ hsu h
  omega
theorem pof_ok (hL : L.Ok) (hsu : L.SU s0 w0) (hI : OpsIn w0 (L.SR s0) n tb o tl ta oa ol oc ops S sa) (hD : DI w0 n n db aa av (.func (.func L.df) L.first L.capt) oa (fun j => (ops j).length) oc ib ob l W) : (pOf L s0 W n db aa av ib ob oa oc ops).Ok L where
 cells := fun r o h => (pof_some h).2.2
 len := fun i hi => by
  have : (ops i).length = min (ol i) 65536 := hI.hlen i hi
  show (ops i).length ≤ 65536
  omega
 inI := ⟨by
  show (pOf L s0 W n db aa av ib ob oa oc ops).I av ≠ none
  rw [pof_cells (di_type hL hsu hD hD.hav (by decide) hD.new.2.2) hD.hav]; simp, fun i hi => by
  show (pOf L s0 W n db aa av ib ob oa oc ops).I (ib i) ≠ none
  rw [pof_cells (di_type hL hsu hD (hD.hib i hi) (by decide) (hD.lo i hi).1) (hD.hib i hi)]; simp⟩
 av := fun u hu => ⟨⟨_, _, hu _ _ (pof_cells (di_type hL hsu hD hD.hav (by decide) hD.new.2.2) hD.hav), rfl⟩, rfl⟩
 db := fun u hu => ⟨⟨_, _, hu _ _ (pof_cells (di_type hL hsu hD hD.hdb (by decide) hD.new.1) hD.hdb), rfl⟩, rfl⟩
 ib := fun u hu i hi => ⟨⟨_, _, hu _ _ (pof_cells (di_type hL hsu hD (hD.hib i hi) (by decide) (hD.lo i hi).1) (hD.hib i hi)), rfl⟩, rfl⟩
 ob := fun u hu i hi => ⟨⟨_, _, hu _ _ (pof_cells (di_type hL hsu hD (hD.hob i hi) (by decide) (hD.lo i hi).2) (hD.hob i hi)), rfl⟩, rfl⟩
 op := fun u hu i hi k x hx => by
  obtain ⟨opb, oo, h1, h2, f0, f1, f2, f3, g0, g1, g2, g3⟩ := hI.hop i hi k x hx
  obtain ⟨c, e, z, ho⟩ := cell_block f0
  simp only at ho
  have hlt := (Array.getElem?_eq_some_iff.1 ho).1
  have hW := (hD.old opb hlt).trans ho
  have hN : ¬ (opb = aa ∨ L.SR s0 opb) := by
   rintro (h | h)
   ·have := hD.new.2.1; omega
   ·exact h2 h
  have hU := hu _ _ (pof_cells hN hW)
  have e1 : u.heap[opb]? = w0.heap[opb]? := hU.trans ho.symm
  have ec : ∀ k, u.cell? ⟨opb, k, none⟩ = w0.cell? ⟨opb, k, none⟩ := fun k => by unfold World.cell?; simp only [e1]
  have ez : ∀ k, u.frozen? ⟨opb, k, none⟩ = w0.frozen? ⟨opb, k, none⟩ := fun k => by unfold World.frozen?; simp only [e1]
  exact ⟨opb, oo, h1, (ec _).trans f0, (ec _).trans f1, (ec _).trans f2, (ec _).trans f3, (ez _).trans g0, (ez _).trans g1, (ez _).trans g2, (ez _).trans g3⟩
theorem ou_first {g : Gate} (hL : L.Ok) (hsu : L.SU s0 w0) (hD : DI w0 n n db aa av (.func (.func L.df) L.first L.capt) oa (fun j => (ops j).length) oc ib ob l W) : OU L (pOf L s0 W n db aa av ib ob oa oc ops) g (x00 s0) W where
 fix := fun r o h => (pof_some h).2.1
 su := hL.sS _ _ _ hsu hD.size fun r hr => hD.old r (hL.lS _ _ _ hsu hr)
 arr := ⟨_, hD.haa, madeCells_size _ _, fun i hi => madeCells_nil _ _ hi⟩
 thr := fun i hi => ⟨World.ownsRow_nil _ _ _ _, fun a ha => (by cases ha), rfl, Nat.zero_le _, fun a ha => (by cases ha), fun c A ab h => (by cases h)⟩
 ts := fun i hi r hr => absurd hr tr00
 sa := fun h => by
  have := hL.lS _ _ _ hsu h
  have h2 := hD.new.2.1
  show False
  have h3 : (pOf L s0 W n db aa av ib ob oa oc ops).aa = aa := rfl
  omega
 jj := fun i hi c A ab h => (by cases h)
 tt := fun i j hi hj hne r hr => absurd hr tr00
 inone := by
  rintro r (h | h | ⟨i, hi, h⟩)
  ·exact pof_mem (.inr h)
  ·exact pof_mem (.inl h)
  ·exact absurd h tr00
end
end
noncomputable section
variable {An : Anchor} {w w' : World} {L : Lay}
theorem OpsIn.alloc {N : Nat → Prop} {n tb o tl : Nat} {ta : Option Addr} {oa : Nat → Option Addr} {ol oc : Nat → Nat} {ops : Nat → List Op4} {S : List Int} {sa : Option Addr} (h : OpsIn w N n tb o tl ta oa ol oc ops S sa) (ob : Obj) : OpsIn (w.alloc ob) N n tb o tl ta oa ol oc ops S sa := by
 refine ⟨h.hn, h.hta, fun hp => by have := h.htb hp; simp; omega, fun j hj => ?_, h.hlen, fun j hj k x hx => ?_, h.hsl, fun hp => ?_⟩
 ·obtain ⟨h1, h2, h3⟩ := h.hth j hj
  exact ⟨(cellB_alloc h1 ob).1, (cellB_alloc h1 ob).2.trans h2, h3⟩
 ·obtain ⟨opb, oo, h1, h2, f0, f1, f2, f3, g0, g1, g2, g3⟩ := h.hop j hj k x hx
  exact ⟨opb, oo, h1, h2, (cellB_alloc f0 ob).1, (cellB_alloc f1 ob).1, (cellB_alloc f2 ob).1, (cellB_alloc f3 ob).1, (cellB_alloc f0 ob).2.trans g0, (cellB_alloc f1 ob).2.trans g1, (cellB_alloc f2 ob).2.trans g2, (cellB_alloc f3 ob).2.trans g3⟩
 ·obtain ⟨sb, so, c, e, z, h1, h2, h3, h4⟩ := h.hS hp
  exact ⟨sb, so, c, e, z, h1, h2, (heap_alloc_lt _ _ (Array.getElem?_eq_some_iff.1 h3).1).trans h3, h4⟩
def Par.re (p : Par) (I : Nat → Option Obj) : Par := ⟨p.n, p.aa, p.av, p.db, p.ib, p.ob, p.ops, p.oa, p.oc, I⟩
theorem ThrU.re {p : Par} {I : Nat → Option Obj} {st i : Nat} {t : Thr L} (h : ThrU L p st i t w) : ThrU L (p.re I) st i t w := ⟨h.row, h.au, h.al, h.kl, h.ar, h.call⟩
theorem OU.re {p : Par} {g : Gate} {x : OX L} (h : OU L p g x w) {I : Nat → Option Obj} (hI : ∀ r o, I r = some o → p.I r = some o) : OU L (p.re I) g x w :=
 ⟨fun r o e => h.fix r o (hI r o e), h.su, h.arr, fun i hi => (h.thr i hi).re, h.ts, h.sa, h.jj, h.tt, fun r hr => by
  cases e : I r with
  | none => exact e
  | some o =>
   have := h.inone r hr
   rw [hI r o e] at this
   cases this⟩
theorem bes_ops (hL : L.Ok) {s0 : L.S} (hsu : L.SU s0 w) {n tb o tl tc sc M : Nat} {mo : Int} {ta sa : Option Addr} {oa : Nat → Option Addr} {ol oc : Nat → Nat} {ops : Nat → List Op4} {S : List Int} (hI : OpsIn w (L.SR s0) n tb o tl ta oa ol oc ops S sa) (hM : min (max mo 0) 1048576 = (M : Int)) {c : Frame} {cs : List Frame} {Stop : Goroutine → World → Prop}
  (hk : ∀ (g : Gate) (p p' : Par) (t : OX L × List Nat) (w' : World) (oa' : Option Addr) (oc' : Nat), g.n = n → p.n = n → p.ops = ops → (opsUsers L p g).Ok g → OverRel (opsUsers L p g) n M S (x00 s0) t → p'.n = n → p'.ops = ops → p'.aa = p.aa → OU L p' g t.1 w' →
   w'.ownsRow w.heap.size 3 1 (.slice oa' t.2.length oc') t.2.length (t.2.map fun i : Nat => Value.int .i64 i) → (∀ y, oa' = some y → ¬ OR L p' t.1 y.block) → w.heap.size ≤ w'.heap.size → (∀ r c e z, w.heap[r]? = some (.cells c e z) → ¬ L.SR s0 r → w'.heap[r]? = some (.cells c e z)) →
   Bes An Try.prog Stop (G (c.finish (.agg #[.slice (some ⟨p.aa, 0, none⟩) n n, .slice oa' t.2.length oc', .slice none 0 0, .bool (decide (0 < cnt ((opsUsers L p g).liv t.1) n))])) cs) w') :
  Bes An Try.prog Stop (G (Frame.enter Try.prog 37 #[.slice ta tl tc, .func (.func L.df) L.first L.capt, .slice sa S.length sc, .int .i64 mo] .normal) (c :: cs)) w := by
 have hw0 : ∀ r, r < w.heap.size → (w.alloc (.cells #[.slice none 0 0, .slice none 0 0, .slice none 0 0, .bool false] 29)).heap[r]? = w.heap[r]? := fun r hr => heap_alloc_lt _ _ hr
 have hs0 : (w.alloc (.cells #[.slice none 0 0, .slice none 0 0, .slice none 0 0, .bool false] 29)).heap.size = w.heap.size + 1 := by simp
 have htr : TrAt (w.alloc (.cells #[.slice none 0 0, .slice none 0 0, .slice none 0 0, .bool false] 29)) w.heap.size (.slice none 0 0) (.slice none 0 0) (.slice none 0 0) (.bool false) := ⟨heap_alloc_new _ _⟩
 have hI0 := hI.alloc (.cells #[.slice none 0 0, .slice none 0 0, .slice none 0 0, .bool false] 29)
 refine bes_own (F := F0) (Stop := fun a u => ∃ A l ib ob db aa av, a = G (Frame.enter Try.prog 62 #[l, .slice sa S.length sc, .int .i64 mo] .normal) (((Go.Conc.base 37).at ⟨A, []⟩ [.inRegion opo2 [3, 4, 5, 6, 7, 8, 9, 10], .code ops3]) :: c :: cs) ∧
   DI (w.alloc (.cells #[.slice none 0 0, .slice none 0 0, .slice none 0 0, .bool false] 29)) n n db aa av (.func (.func L.df) L.first L.capt) oa (fun j => (ops j).length) oc ib ob l u ∧ Slots 32 A [(8, .pointer (some ⟨w.heap.size, 0, none⟩)), (10, .slice (some ⟨aa, 0, none⟩) n n)])
  (op_0 under_F0 (Nat.zero_le _) fun A hA => own_doing hI0.hn hI0.htb (fun j hj => ⟨(hI0.hth j hj).1, (hI0.hth j hj).2.1, (hI0.hth j hj).2.2, (hI0.hlen j hj).symm⟩) hI0.hta fun w1 l ib ob db aa av hD => op_1 hA fun A2 hA2 => .stop fun d => ⟨A2, l, ib, ob, db, aa, av, rfl, hD.same (Nat.le_refl _) fun _ _ => rfl, hA2⟩) fun a W hS => ?_
 obtain ⟨A, l, ib, ob, db, aa, av, rfl, hD, hA⟩ := hS
 generalize w.alloc (.cells #[.slice none 0 0, .slice none 0 0, .slice none 0 0, .bool false] 29) = w0 at hw0 hs0 htr hI0 hD
 have hsu0 : L.SU s0 w0 := hL.sS _ _ _ hsu (by omega) fun r hr => hw0 r (hL.lS _ _ _ hsu hr)
 have hpok := pof_ok hL hsu0 hI0 hD
 have hn64 : n ≤ 64 := by have := hI.hn; omega
 have hU1 : ∀ g, OU L (pOf L s0 W n db aa av ib ob oa oc ops) g (x00 s0) W := fun g => ou_first hL hsu0 hD
 have hsrlt : ∀ r, L.SR s0 r → r < w.heap.size := fun r hr => hL.lS _ _ _ hsu hr
 have hDs := hD.size
 have hDn := hD.new
 obtain ⟨la, lc, rfl, hla⟩ : ∃ la lc, l = .slice la n lc ∧ (0 < n → ∃ lb cur, la = some ⟨lb, 0, none⟩ ∧ w0.heap.size ≤ lb ∧ W.heap[lb]? = some (.cells cur 117 (0, 0)) ∧ cur.toList.take n = (List.range n).map fun j => cl68 (ob j) db (ib j) av) := by
  rcases hD.row.2 with ⟨h1, h2⟩ | ⟨b, cap, cur, h1, h2, h3, h4, h5, h6, h7⟩
  ·exact ⟨none, 0, by rw [h1, h2], fun h => by omega⟩
  ·exact ⟨_, cap, h1, fun _ => ⟨b, cur, rfl, h2, h3, by simpa using h7⟩⟩
 have hnm : ∀ r c e z, W.heap[r]? = some (.cells c e z) → e ≠ 84 → ¬ L.SR s0 r → (pOf L s0 W n db aa av ib ob oa oc ops).I r = some (.cells c e z) := fun r c e z h1 h2 h3 => pof_cells (by
  rintro (rfl | h)
  ·rw [hD.haa] at h1
   cases h1
   exact h2 rfl
  ·exact h3 h) h1
 have hnA : ∀ r c e z, W.heap[r]? = some (.cells c e z) → r ≠ aa → ¬ L.SR s0 r → (pOf L s0 W n db aa av ib ob oa oc ops).I r = some (.cells c e z) := fun r c e z h1 h2 h3 => pof_cells (fun h => h.elim h2 h3) h1
 have hnewS : ∀ r, w0.heap.size ≤ r → ¬ L.SR s0 r := fun r hr h => by have := hsrlt r h; omega
 have hthr : ∃ lb, (0 < n → la = some ⟨lb, 0, none⟩) ∧ ∀ g : Gate, RowIs (opsUsers L (pOf L s0 W n db aa av ib ob oa oc ops) g) lb 0 ((List.range n).map fun j => .func (.func 68) #[] ((opsUsers L (pOf L s0 W n db aa av ib ob oa oc ops) g).cap j)) := by
  by_cases h0 : 0 < n
  ·obtain ⟨lb, cur, h1, h2, h3, h4⟩ := hla h0
   refine ⟨lb, fun _ => h1, fun g => ⟨cur, 117, (0, 0), hnm lb _ _ _ h3 (by decide) (hnewS lb h2), fun k u hku => ⟨?_, by simp⟩⟩⟩
   have hku : ((List.range n).map fun j => cl68 (ob j) db (ib j) av)[k]? = some u := hku
   rw [← h4] at hku
   have hkn : k < n := by
    have := (List.getElem?_eq_some_iff.1 hku).1
    rw [List.length_take] at this
    omega
   rw [List.getElem?_take_of_lt hkn] at hku
   simpa using hku
  ·refine ⟨av, fun h => absurd h h0, fun g => ⟨_, _, _, hnm av _ _ _ hD.hav (by decide) (hnewS av hDn.2.2), fun k u hku => ?_⟩⟩
   have : n = 0 := by omega
   rw [this] at hku
   simp at hku
 obtain ⟨lb, hlb, hrow⟩ := hthr
 have hsch : ∃ sb so, (0 < S.length → sa = some ⟨sb, so, none⟩) ∧ ∀ g : Gate, RowIs (opsUsers L (pOf L s0 W n db aa av ib ob oa oc ops) g) sb so (S.map fun i : Int => Value.int .i64 i) := by
  by_cases h0 : 0 < S.length
  ·obtain ⟨sb, so, cc, e, z, h1, h2, h3, h4⟩ := hI0.hS h0
   have hlt := (Array.getElem?_eq_some_iff.1 h3).1
   refine ⟨sb, so, fun _ => h1, fun g => ⟨cc, e, z, hnA sb _ _ _ ((hD.old sb hlt).trans h3) (by omega) h2, h4⟩⟩
  ·refine ⟨av, 0, fun h => absurd h h0, fun g => ⟨_, _, _, hnm av _ _ _ hD.hav (by decide) (hnewS av hDn.2.2), fun k u hku => ?_⟩⟩
   have : S = [] := List.length_eq_zero_iff.1 (by omega)
   rw [this] at hku
   simp at hku
 obtain ⟨sb, so, hsb, hsrow⟩ := hsch
 have htrI : (pOf L s0 W n db aa av ib ob oa oc ops).I w.heap.size = some (.cells #[.slice none 0 0, .slice none 0 0, .slice none 0 0, .bool false] 29 (0, 0)) :=
  hnm _ _ _ _ ((hD.old _ (by omega)).trans htr.o) (by decide) fun h => by have := hsrlt _ h; omega
 refine bes_over (Z := fun g => opsUsers L (pOf L s0 W n db aa av ib ob oa oc ops) g) (x0 := fun g => x00 s0) (tb := lb) (so := so) (sb := sb) hn64 hM hI.hsl (fun g hg _ => ops_ok hL hpok hg) (fun g w2 _ h1 h2 => OU.stable hL (hU1 g) h1 fun r hr => ?_) (fun g hg j hj => ⟨rfl, rfl⟩) (fun g r hr => OU.low (g := g) hL (hU1 g) hr) (fun g r hr => ⟨fixed_lt (p := pOf L s0 W n db aa av ib ob oa oc ops) (hU1 g).fix hr, fun h => hr ((hU1 g).inone r h)⟩) hlb (fun g _ => hrow g) hsb (fun g _ => hsrow g) ?_
 ·have hlt : r < W.heap.size := hr.elim (OU.low hL (hU1 g)) (fixed_lt (hU1 g).fix)
  rw [h2 r _ (Array.getElem?_eq_getElem hlt), Array.getElem?_eq_getElem hlt]
 ·intro g t u oa' oc' bv hg hrel hU hord hnR hsz
  have hU : OU L (pOf L s0 W n db aa av ib ob oa oc ops) g t.1 u := hU
  have hT : TrAt u w.heap.size (.slice none 0 0) (.slice none 0 0) (.slice none 0 0) (.bool false) := ⟨hU.fix _ _ htrI⟩
  refine bes_own (F := F0) (Stop := fun a u2 => a = G (c.finish (.agg #[.slice (some ⟨aa, 0, none⟩) n n, .slice oa' t.2.length oc', .slice none 0 0, .bool (decide (0 < cnt ((opsUsers L (pOf L s0 W n db aa av ib ob oa oc ops) g).liv t.1) n))])) cs ∧ ∃ d, u2 = (trW u w.heap.size (.slice (some ⟨aa, 0, none⟩) n n) (.slice oa' t.2.length oc') (.slice none 0 0) (.bool (decide (0 < cnt ((opsUsers L (pOf L s0 W n db aa av ib ob oa oc ops) g).liv t.1) n)))).at d)
   (op_2 hT (fun k h => by obtain ⟨z, hz, _⟩ := h; cases hz) hA (.stop fun d => ⟨rfl, d, rfl⟩)) fun a u2 ⟨ha, d, hu2⟩ => ?_
  subst ha
  subst hu2
  have hne : ∀ r, r ≠ w.heap.size → ((trW u w.heap.size (.slice (some ⟨aa, 0, none⟩) n n) (.slice oa' t.2.length oc') (.slice none 0 0) (.bool (decide (0 < cnt ((opsUsers L (pOf L s0 W n db aa av ib ob oa oc ops) g).liv t.1) n)))).at d).heap[r]? = u.heap[r]? := fun r hr => by
   show (trW _ _ _ _ _ _).heap[r]? = _
   unfold trW
   rw [heap_setCell_ne _ _ _ hr, heap_setCell_ne _ _ _ hr, heap_setCell_ne _ _ _ hr, heap_setCell_ne _ _ _ hr]
  have hsz2 : ((trW u w.heap.size (.slice (some ⟨aa, 0, none⟩) n n) (.slice oa' t.2.length oc') (.slice none 0 0) (.bool (decide (0 < cnt ((opsUsers L (pOf L s0 W n db aa av ib ob oa oc ops) g).liv t.1) n)))).at d).heap.size = u.heap.size := by
   show (trW _ _ _ _ _ _).heap.size = _
   unfold trW
   simp
  generalize (trW u w.heap.size (.slice (some ⟨aa, 0, none⟩) n n) (.slice oa' t.2.length oc') (.slice none 0 0) (.bool (decide (0 < cnt ((opsUsers L (pOf L s0 W n db aa av ib ob oa oc ops) g).liv t.1) n)))).at d = V at hne hsz2 ⊢
  let I' : Nat → Option Obj := fun r => if r = w.heap.size then none else (pOf L s0 W n db aa av ib ob oa oc ops).I r
  have hI' : ∀ r o, I' r = some o → r ≠ w.heap.size ∧ (pOf L s0 W n db aa av ib ob oa oc ops).I r = some o := fun r o h => by
   by_cases e : r = w.heap.size
   ·simp [I', e] at h
   ·exact ⟨e, by simpa [I', e] using h⟩
  have htrR : ¬ OR L (pOf L s0 W n db aa av ib ob oa oc ops) t.1 w.heap.size := fun h => by
   have := hU.inone _ h
   rw [htrI] at this
   cases this
  have hU2 : OU L ((pOf L s0 W n db aa av ib ob oa oc ops).re I') g t.1 u := hU.re fun r o h => (hI' r o h).2
  refine hk g (pOf L s0 W n db aa av ib ob oa oc ops) ((pOf L s0 W n db aa av ib ob oa oc ops).re I') t V oa' oc' hg rfl rfl (ops_ok hL hpok hg) hrel rfl rfl rfl (hU2.stable hL (by omega) fun r hr => hne r ?_) ?_ hnR (by omega) fun r cc e z hr hnS => ?_
  ·rintro rfl
   rcases hr with hr | hr
   ·exact htrR hr
   ·cases e : I' w.heap.size with
    | none => exact hr e
    | some o => exact (hI' _ _ e).1 rfl
  ·refine ownsRow_mono_base (by omega) (ownsRow_same2 hord fun b hb hbn => hne b (by omega))
  ·have hlt := (Array.getElem?_eq_some_iff.1 hr).1
   rw [hne r (by omega)]
   exact hU.fix _ _ (hnA r _ _ _ ((hD.old r (by omega)).trans ((hw0 r hlt).trans hr)) (by omega) hnS)
end
noncomputable section
variable {F : Fz} {w : World}
def bhBody : Code := Try.f22.body.getD .skip
def bhs0 : Code := Code.piece [] bhBody
def bhr0 : Code := Code.piece [true] bhBody
def bho0 : Array Oper := Code.opsOf bhr0
def bhs1 : Code := Code.piece [false] bhBody
def bhs2 : Code := Code.piece [false, true] bhBody
def bhr1 : Code := Code.piece [false, true, true] bhBody
def bho1 : Array Oper := Code.opsOf bhr1
def bhc6 : Code := Code.piece [false, true, false] bhBody
def bhs3 : Code := Code.piece [false, true, false, true] bhBody
def bhr2 : Code := Code.piece [false, true, false, true, true] bhBody
def bho2 : Array Oper := Code.opsOf bhr2
def bhs4 : Code := Code.piece [false, false] bhBody
def bhr3 : Code := Code.piece [false, false, true] bhBody
def bho3 : Array Oper := Code.opsOf bhr3
def bhs5 : Code := Code.piece [false, false, false] bhBody
def bhs6 : Code := Code.piece [false, false, false, true] bhBody
def bhr4 : Code := Code.piece [false, false, false, true, true] bhBody
def bho4 : Array Oper := Code.opsOf bhr4
def bhb0 : Code := Code.piece [false, false, false, true, false] bhBody
def bhl7 : Code := Code.piece [false, false, false, true, false, true] bhBody
def bhs8 : Code := Code.piece [false, false, false, true, false, true, true] bhBody
def bhs9 : Code := Code.piece [false, false, false, true, false, true, true, true] bhBody
def bhr5 : Code := Code.piece [false, false, false, true, false, true, true, true, true] bhBody
def bho5 : Array Oper := Code.opsOf bhr5
def bhc15 : Code := Code.piece [false, false, false, true, false, true, true, true, false] bhBody
def bhs10 : Code := Code.piece [false, false, false, true, false, true, true, false] bhBody
def bhb1 : Code := Code.piece [false, false, false, true, false, true, true, false, true] bhBody
def bhr7 : Code := Code.piece [false, false, false, true, false, true, true, false, true, true] bhBody
def bho7 : Array Oper := Code.opsOf bhr7
def bhr6 : Code := Code.piece [false, false, false, true, false, true, true, false, false] bhBody
def bho6 : Array Oper := Code.opsOf bhr6
def bhs11 : Code := Code.piece [false, false, false, false] bhBody
def bhr8 : Code := Code.piece [false, false, false, false, true] bhBody
def bho8 : Array Oper := Code.opsOf bhr8
theorem bhs0_eq : bhs0 = .seq bhr0 bhs1 := by kernel_rfl
theorem bhr0_eq : bhr0 = .region 0 bho0 false := by kernel_rfl
theorem bhs1_eq : bhs1 = .seq bhs2 bhs4 := by kernel_rfl
theorem bhs2_eq : bhs2 = .seq bhr1 bhc6 := by kernel_rfl
theorem bhr1_eq : bhr1 = .region 1 bho1 false := by kernel_rfl
theorem bhc6_eq : bhc6 = .cond (.tmp 6) bhs3 .skip := by kernel_rfl
theorem bhs3_eq : bhs3 = .seq bhr2 .ret := by kernel_rfl
theorem bhr2_eq : bhr2 = .region 2 bho2 false := by kernel_rfl
theorem bhs4_eq : bhs4 = .seq bhr3 bhs5 := by kernel_rfl
theorem bhr3_eq : bhr3 = .region 3 bho3 false := by kernel_rfl
theorem bhs5_eq : bhs5 = .seq bhs6 bhs11 := by kernel_rfl
theorem bhs6_eq : bhs6 = .seq bhr4 bhb0 := by kernel_rfl
theorem bhr4_eq : bhr4 = .region 4 bho4 false := by kernel_rfl
theorem bhb0_eq : bhb0 = .block 0 bhl7 := by kernel_rfl
theorem bhl7_eq : bhl7 = .loop bhs8 := by kernel_rfl
theorem bhs8_eq : bhs8 = .seq bhs9 bhs10 := by kernel_rfl
theorem bhs9_eq : bhs9 = .seq bhr5 bhc15 := by kernel_rfl
theorem bhr5_eq : bhr5 = .region 5 bho5 false := by kernel_rfl
theorem bhc15_eq : bhc15 = .cond (.tmp 15) .skip (.exit 0) := by kernel_rfl
theorem bhs10_eq : bhs10 = .seq bhb1 bhr6 := by kernel_rfl
theorem bhb1_eq : bhb1 = .block 1 bhr7 := by kernel_rfl
theorem bhr7_eq : bhr7 = .region 7 bho7 false := by kernel_rfl
theorem bhr6_eq : bhr6 = .region 6 bho6 false := by kernel_rfl
theorem bhs11_eq : bhs11 = .seq bhr8 .ret := by kernel_rfl
theorem bhr8_eq : bhr8 = .region 8 bho8 false := by kernel_rfl
theorem enter_bh (args : Array Value) : Frame.enter Try.prog 22 args .normal = (Go.Conc.base 22).at { tmps := args ++ Array.replicate (23 - args.size) undef, defers := [] } [.code bhs0] := enter_at args Try.func22 rfl
theorem callable22 : Callable 22 := callable Try.func22 rfl rfl
def bhT (s : Nat → Value) : Array Value := #[s 0, s 1, s 2, s 3, s 4, s 5, s 6, s 7, s 8, s 9, s 10, s 11, s 12, s 13, s 14, s 15, s 16, s 17, s 18, s 19, s 20, s 21, s 22]
theorem bhT_of {A : Array Value} (h : A.size = 23) : ∃ s, A = bhT s := by
 obtain ⟨s, hs, _⟩ := arr_lit A h
 exact ⟨s, hs⟩
theorem bh_0 {qb t : Nat} {hd : Addr} {nx : Option Addr} (hbh : BoxP w (some hd)) (hch : w.cell? ⟨qb, 0, none⟩ = some (.pointer (some hd))) (hbt : BoxP w (some ⟨t, 0, none⟩)) (hct : w.cell? ⟨qb, 1, none⟩ = some (.pointer (some ⟨t, 0, none⟩))) (hbn : BoxP w nx) (hcn : w.cell? ⟨t, 1, none⟩ = some (.pointer nx)) {cs : List Frame} {main : Bool} {Stop : Goroutine → World → Prop}
  (h : ∀ A, Slots 23 A [(3, .int .i64 (0 : Nat)), (4, .pointer nx)] → Own Try.prog main F Stop (G ((Go.Conc.base 22).at ⟨A, []⟩ [.code bhs8, .inLoop bhs8, .inBlock 0, .code bhs11]) cs) w) :
  Own Try.prog main F Stop (G (Frame.enter Try.prog 22 #[.pointer (some ⟨qb, 0, none⟩)] .normal) cs) w := by
 rw [enter_bh]
 walk_nrm
 rw [bhs0_eq]
 refine ogS ?_
 rw [bhr0_eq]
 refine ogR ?_
 simp only [bho0, Code.opsOf, bhr0, Code.piece, bhBody, Try.f22, Option.getD_some, List.size_toArray, List.length_cons, List.length_nil, Nat.reduceAdd, Nat.zero_add, List.range, List.range.loop]
 (refine oW fun dd K hK => ?_; go_simp; refine qT hK ?_; clear hK K)
 refine ogE ?_
 rw [bhs1_eq]
 refine ogS ?_
 rw [bhs2_eq]
 refine ogS ?_
 rw [bhr1_eq]
 refine ogR ?_
 simp only [bho1, Code.opsOf, bhr1, Code.piece, bhBody, Try.f22, Option.getD_some, List.size_toArray, List.length_cons, List.length_nil, Nat.reduceAdd, Nat.zero_add, List.range, List.range.loop]
 (refine oW fun dd K hK => ?_; go_simp; refine qT hK ?_; clear hK K)
 refine oc callable51 #[.pointer (some ⟨qb, 0, none⟩)] ?_
 refine own_no hbh hch ?_
 rw [Frame.finish_at]
 walk_nrm
 refine ogE ?_
 rw [bhc6_eq]
 refine ogF ?_
 simp only [Bool.false_eq_true, if_false]
 refine ogK ?_
 rw [bhs4_eq]
 refine ogS ?_
 rw [bhr3_eq]
 refine ogR ?_
 simp only [bho3, Code.opsOf, bhr3, Code.piece, bhBody, Try.f22, Option.getD_some, List.size_toArray, List.length_cons, List.length_nil, Nat.reduceAdd, Nat.zero_add, List.range, List.range.loop]
 (refine oW fun dd K hK => ?_; go_simp; refine qT hK ?_; clear hK K)
 refine ogE ?_
 rw [bhs5_eq]
 refine ogS ?_
 rw [bhs6_eq]
 refine ogS ?_
 rw [bhr4_eq]
 refine ogR ?_
 simp only [bho4, Code.opsOf, bhr4, Code.piece, bhBody, Try.f22, Option.getD_some, List.size_toArray, List.length_cons, List.length_nil, Nat.reduceAdd, Nat.zero_add, List.range, List.range.loop]
 iterate 3 (refine oW fun dd K hK => ?_; go_simp; refine qT hK ?_; clear hK K)
 refine oc callable52 #[.pointer (some ⟨qb, 1, none⟩)] ?_
 refine own_load hbt hct rfl ?_
 rw [Frame.finish_at]
 walk_nrm
 iterate 2 (refine oW fun dd K hK => ?_; go_simp; refine qT hK ?_; clear hK K)
 refine oc callable52 #[.pointer (some ⟨t, 1, none⟩)] ?_
 refine own_load hbn hcn rfl ?_
 rw [Frame.finish_at]
 walk_nrm
 (refine oW fun dd K hK => ?_; go_simp; refine qT hK ?_; clear hK K)
 refine ogE ?_
 rw [bhb0_eq]
 refine ogB ?_
 rw [bhl7_eq]
 refine ogP ?_
 refine h _ ?_
 exact ⟨rfl, rfl, rfl, trivial⟩
theorem bh_1 {b k : Nat} (hk : k < 10000000) {nx : Option Addr} (hbn : BoxP w nx) (hcn : w.cell? ⟨b, 1, none⟩ = some (.pointer nx)) {A : Array Value} (hA : Slots 23 A [(3, .int .i64 k), (4, .pointer (some ⟨b, 0, none⟩))]) {cs : List Frame} {main : Bool} {Stop : Goroutine → World → Prop}
  (h : ∀ A, Slots 23 A [(3, .int .i64 (k + 1 : Nat)), (4, .pointer nx)] → Own Try.prog main F Stop (G ((Go.Conc.base 22).at ⟨A, []⟩ [.code bhs8, .inLoop bhs8, .inBlock 0, .code bhs11]) cs) w) :
  Own Try.prog main F Stop (G ((Go.Conc.base 22).at ⟨A, []⟩ [.code bhs8, .inLoop bhs8, .inBlock 0, .code bhs11]) cs) w := by
 obtain ⟨hsz, h3, h4, _⟩ := hA
 obtain ⟨s, rfl⟩ := bhT_of hsz
 change s 3 = _ at h3
 change s 4 = _ at h4
 clear hsz
 simp only [bhT, h3, h4]
 clear h3 h4
 have hk64 : IntKind.i64.wrap ((k : Int) + 1) = (k : Int) + 1 := IntWalk.i64_in _ (by omega)
 rw [bhs8_eq]
 refine ogS ?_
 rw [bhs9_eq]
 refine ogS ?_
 rw [bhr5_eq]
 refine ogR ?_
 simp only [bho5, Code.opsOf, bhr5, Code.piece, bhBody, Try.f22, Option.getD_some, List.size_toArray, List.length_cons, List.length_nil, Nat.reduceAdd, Nat.zero_add, List.range, List.range.loop]
 iterate 2 (refine oW fun dd K hK => ?_; go_simp; refine qT hK ?_; clear hK K)
 refine ogE ?_
 rw [bhc15_eq]
 refine ogT ?_
 simp only [if_true]
 refine ogK ?_
 rw [bhs10_eq]
 refine ogS ?_
 rw [bhb1_eq]
 refine ogB ?_
 rw [bhr7_eq]
 refine ogR ?_
 simp only [bho7, Code.opsOf, bhr7, Code.piece, bhBody, Try.f22, Option.getD_some, List.size_toArray, List.length_cons, List.length_nil, Nat.reduceAdd, Nat.zero_add, List.range, List.range.loop]
 iterate 3 (refine oW fun dd K hK => ?_; go_simp; refine qT hK ?_; clear hK K)
 refine ogE ?_
 refine ogI ?_
 rw [bhr6_eq]
 refine ogR ?_
 simp only [bho6, Code.opsOf, bhr6, Code.piece, bhBody, Try.f22, Option.getD_some, List.size_toArray, List.length_cons, List.length_nil, Nat.reduceAdd, Nat.zero_add, List.range, List.range.loop]
 iterate 3 (refine oW fun dd K hK => ?_; go_simp; refine qT hK ?_; clear hK K)
 refine oc callable52 #[.pointer (some ⟨b, 1, none⟩)] ?_
 refine own_load hbn hcn rfl ?_
 rw [Frame.finish_at]
 walk_nrm
 (refine oW fun dd K hK => ?_; go_simp; refine qT hK ?_; clear hK K)
 refine ogE ?_
 refine ogL ?_
 refine h _ ?_
 exact ⟨rfl, rfl, rfl, trivial⟩
theorem bh_2 {k : Nat} {A : Array Value} (hA : Slots 23 A [(3, .int .i64 k), (4, .pointer none)]) {c : Frame} {cs : List Frame} {main : Bool} {Stop : Goroutine → World → Prop}
  (h : Own Try.prog main F Stop (G (c.finish (.int .i64 k)) cs) w) :
  Own Try.prog main F Stop (G ((Go.Conc.base 22).at ⟨A, []⟩ [.code bhs8, .inLoop bhs8, .inBlock 0, .code bhs11]) (c :: cs)) w := by
 obtain ⟨hsz, h3, h4, _⟩ := hA
 obtain ⟨s, rfl⟩ := bhT_of hsz
 change s 3 = _ at h3
 change s 4 = _ at h4
 clear hsz
 simp only [bhT, h3, h4]
 clear h3 h4
 rw [bhs8_eq]
 refine ogS ?_
 rw [bhs9_eq]
 refine ogS ?_
 rw [bhr5_eq]
 refine ogR ?_
 simp only [bho5, Code.opsOf, bhr5, Code.piece, bhBody, Try.f22, Option.getD_some, List.size_toArray, List.length_cons, List.length_nil, Nat.reduceAdd, Nat.zero_add, List.range, List.range.loop]
 iterate 2 (refine oW fun dd K hK => ?_; go_simp; refine qT hK ?_; clear hK K)
 refine ogE ?_
 rw [bhc15_eq]
 refine ogF ?_
 simp only [Bool.false_eq_true, if_false]
 refine own_go rfl (fun d => stepG_exit rfl) ?_
 rw [bhs11_eq]
 refine ogS ?_
 rw [bhr8_eq]
 refine ogR ?_
 simp only [bho8, Code.opsOf, bhr8, Code.piece, bhBody, Try.f22, Option.getD_some, List.size_toArray, List.length_cons, List.length_nil, Nat.reduceAdd, Nat.zero_add, List.range, List.range.loop]
 iterate 2 (refine oW fun dd K hK => ?_; go_simp; refine qT hK ?_; clear hK K)
 refine ogE ?_
 refine ogX ?_
 refine own_go rfl (fun d => stepG_leave (fn := Try.f22) (v := .int .i64 k) rfl rfl Try.func22 (by simp [results, Try.f22]) (by simp [results, Try.f22, go_sem])) ?_
 exact h
end
noncomputable section
section
variable {P : Program} {F : Fz} {w : World} {main : Bool} {Stop : Goroutine → World → Prop} {b : Frame} {a : Act} {cs : List Frame} {ops : Array Oper} {i : Nat} {rest : List Nat} {kk : List Item} {o : Oper} {f : FuncId} {fn : Func} {ats : Array TypeId}
theorem own_store_ptr {x y : Operand} (ho : ops[i]? = some o) (hw : Region.wanted o (yielded ops a.tmps) = true) (hk : b.kind ≠ .early) (hop : o.op = .call { callee := .value (.func f), args := #[x, y], argTypes := ats })
  (hf : P.funcs[f]? = some fn) (hname : (fn.name == "runtime.NumGoroutine") = false) (hb : fn.body.isNone = true) (hn : Extern.findNext fn = none)
  (he : Extern.find fn = some Extern.Atomic.storeT) {ad : Addr} {v n : Option Addr} (hs : ad.spot = none) (hx : a.eval x = .pointer (some ad)) (hy : a.eval y = .pointer n) (hc : w.cell? ad = some (.pointer v)) (hfz : w.frozen? ad = false) (hnh : ¬ held F ad)
  (h : Own P main F Stop (G (b.at (a.put o.dst (.tuple #[])) (.inRegion ops rest :: kk)) cs) (w.setCell ad (.pointer n))) : Own P main F Stop (G (b.at a (.inRegion ops (i :: rest) :: kk)) cs) w := by
 have e1 : execOp a.eval o = callFunc f #[.pointer (some ad), .pointer n] := exec_extern hop (by simp [hx, hy])
 refine own_val (w' := w.setCell ad (.pointer n)) ho hw hk (fun d => ?_) (fun d => ⟨0, by simpa [setCell_at'] using grew_setCell (w := w.at d) hs hnh (.pointer n)⟩) (fun d e hm => ?_) h
 ·have hc' : (w.at d).cell? ad = some (.pointer v) := hc
  have hz' : (w.at d).frozen? ad = false := hfz
  rw [e1, run_callFunc_extern hf hname hb hn he]
  change (Sem.run P (do
   store (← asAddr (.pointer (some ad))) (.pointer n) .atomic
   pure (Value.tuple #[])) (w.at d)).andThen _ = _
  simp [asAddr, hc', hz', run_store P (w.at d) ad (.pointer n) .atomic rfl, Result.andThen, setCell_at']
 ·have hc' : (w.at d).cell? ad = some (.pointer v) := hc
  have hz' : (w.at d).frozen? ad = false := hfz
  rw [e1, events_callFunc_extern hf hname hb hn he] at hm
  change e ∈ Sem.events P (do
   store (← asAddr (.pointer (some ad))) (.pointer n) .atomic
   pure (Value.tuple #[])) (w.at d) _ at hm
  simp [asAddr, hc', hz', run_store P (w.at d) ad (.pointer n) .atomic rfl, events_store P (w.at d) _ ad (.pointer n) .atomic rfl] at hm
  rcases hm with rfl | rfl
  ·exact evT_ext f
  ·exact evT_write _ _ hnh
end
variable {F : Fz} {w : World}
def qpsBody : Code := Try.f47.body.getD .skip
def qpsr0 : Code := Code.piece [] qpsBody
def qpso0 : Array Oper := Code.opsOf qpsr0
theorem qpsr0_eq : qpsr0 = .region 0 qpso0 false := by kernel_rfl
theorem enter_qps (args : Array Value) : Frame.enter Try.prog 47 args .normal = (Go.Conc.base 47).at { tmps := args ++ Array.replicate (10 - args.size) undef, defers := [] } [.code qpsr0] := enter_at args Try.func47 rfl
theorem callable47 : Callable 47 := callable Try.func47 rfl rfl
def qpsT (s : Nat → Value) : Array Value := #[s 0, s 1, s 2, s 3, s 4, s 5, s 6, s 7, s 8, s 9]
theorem qpsT_of {A : Array Value} (h : A.size = 10) : ∃ s, A = qpsT s := by
 obtain ⟨s, hs, _⟩ := arr_lit A h
 exact ⟨s, hs⟩
theorem own_store {ad : Addr} {v n : Option Addr} (hc : w.cell? ad = some (.pointer v)) (hs : ad.spot = none) (hz : w.frozen? ad = false) (hnh : ¬ held F ad) (hbn : BoxP w n) {c : Frame} {cs : List Frame} {main : Bool} {Stop : Goroutine → World → Prop} (h : Own Try.prog main F Stop (G (c.finish (.tuple #[])) cs) (w.setCell ad (.pointer n))) :
  Own Try.prog main F Stop (G (Frame.enter Try.prog 47 #[.pointer (some ad), .pointer n] .normal) (c :: cs)) w := by
 obtain ⟨ab, ao, asp⟩ := ad
 simp only at hs
 subst hs
 have cv := fun d => (conv54 (hbn.at d)).1
 have cvE := fun d => (conv54 (hbn.at d)).2
 rw [enter_qps]
 walk_nrm
 rw [qpsr0_eq]
 refine ogR ?_
 simp only [qpso0, Code.opsOf, qpsr0, Code.piece, qpsBody, Try.f47, Option.getD_some, List.size_toArray, List.length_cons, List.length_nil, Nat.reduceAdd, Nat.zero_add, List.range, List.range.loop]
 iterate 4 (refine oW fun dd K hK => ?_; go_simp; refine qT hK ?_; clear hK K)
 (refine own_val (v := _) (w' := w) rfl rfl (by decide) (fun d => by simp [execOp, Act.eval, cv d]; rfl) (fun d => ⟨0, Grew.refl _ _⟩) (fun d e hm => by simp [execOp, Act.eval, cvE d] at hm) ?_; walk_nrm)
 refine own_store_ptr (f := 63) (fn := Try.f63) rfl rfl (by decide) rfl Try.func63 rfl rfl rfl rfl rfl rfl rfl hc hz hnh ?_
 walk_nrm
 refine ogE ?_
 refine own_go rfl (fun d => stepG_end) ?_
 refine own_go rfl (fun d => stepG_leave (fn := Try.f47) (v := .tuple #[]) rfl rfl Try.func47 (by simp [results, Try.f47]) (by simp [results, Try.f47, go_sem])) ?_
 exact h
end
noncomputable section
variable {F : Fz} {w : World}
theorem built62 : Try.prog.built 62 [] = some #[.pointer none, .pointer none] := by kernel_rfl
@[go_sem] theorem run_build62 (w : World) : (Instr.build 62 #[]).run Try.prog w = .ok (.agg #[.pointer none, .pointer none]) w := run_build w _ _ _ built62
@[go_sem] theorem ev_build62 (w : World) (es : Array Event) : (Instr.build 62 #[]).events Try.prog w es = es := ev_build w es _ _ _ _ Try.underlying62 built62
theorem built106z : Try.prog.built 106 [] = some #[.int .i64 0, .pointer none] := by kernel_rfl
@[go_sem] theorem run_build106z (w : World) : (Instr.build 106 #[]).run Try.prog w = .ok (.agg #[.int .i64 0, .pointer none]) w := run_build w _ _ _ built106z
@[go_sem] theorem ev_build106z (w : World) (es : Array Event) : (Instr.build 106 #[]).events Try.prog w es = es := ev_build w es _ _ _ _ Try.underlying106 built106z
def nwBody : Code := Try.f16.body.getD .skip
def nws0 : Code := Code.piece [] nwBody
def nwr0 : Code := Code.piece [true] nwBody
def nwo0 : Array Oper := Code.opsOf nwr0
def nws1 : Code := Code.piece [false] nwBody
def nwr1 : Code := Code.piece [false, true] nwBody
def nwo1 : Array Oper := Code.opsOf nwr1
def nws2 : Code := Code.piece [false, false] nwBody
def nwr2 : Code := Code.piece [false, false, true] nwBody
def nwo2 : Array Oper := Code.opsOf nwr2
def nws3 : Code := Code.piece [false, false, false] nwBody
def nws4 : Code := Code.piece [false, false, false, true] nwBody
def nwr3 : Code := Code.piece [false, false, false, true, true] nwBody
def nwo3 : Array Oper := Code.opsOf nwr3
def nwb0 : Code := Code.piece [false, false, false, true, false] nwBody
def nwl5 : Code := Code.piece [false, false, false, true, false, true] nwBody
def nws6 : Code := Code.piece [false, false, false, true, false, true, true] nwBody
def nwr4 : Code := Code.piece [false, false, false, true, false, true, true, true] nwBody
def nwo4 : Array Oper := Code.opsOf nwr4
def nws7 : Code := Code.piece [false, false, false, true, false, true, true, false] nwBody
def nwc20 : Code := Code.piece [false, false, false, true, false, true, true, false, true] nwBody
def nws8 : Code := Code.piece [false, false, false, true, false, true, true, false, false] nwBody
def nwb1 : Code := Code.piece [false, false, false, true, false, true, true, false, false, true] nwBody
def nws9 : Code := Code.piece [false, false, false, true, false, true, true, false, false, true, true] nwBody
def nwr5 : Code := Code.piece [false, false, false, true, false, true, true, false, false, true, true, true] nwBody
def nwo5 : Array Oper := Code.opsOf nwr5
def nws10 : Code := Code.piece [false, false, false, true, false, true, true, false, false, true, true, false] nwBody
def nwr6 : Code := Code.piece [false, false, false, true, false, true, true, false, false, true, true, false, true] nwBody
def nwo6 : Array Oper := Code.opsOf nwr6
def nws11 : Code := Code.piece [false, false, false, true, false, true, true, false, false, true, true, false, false] nwBody
def nwr7 : Code := Code.piece [false, false, false, true, false, true, true, false, false, true, true, false, false, true] nwBody
def nwo7 : Array Oper := Code.opsOf nwr7
def nwr8 : Code := Code.piece [false, false, false, true, false, true, true, false, false, true, true, false, false, false] nwBody
def nwo8 : Array Oper := Code.opsOf nwr8
def nwr9 : Code := Code.piece [false, false, false, true, false, true, true, false, false, false] nwBody
def nwo9 : Array Oper := Code.opsOf nwr9
def nws12 : Code := Code.piece [false, false, false, false] nwBody
def nwr10 : Code := Code.piece [false, false, false, false, true] nwBody
def nwo10 : Array Oper := Code.opsOf nwr10
def nws13 : Code := Code.piece [false, false, false, false, false] nwBody
def nwr11 : Code := Code.piece [false, false, false, false, false, true] nwBody
def nwo11 : Array Oper := Code.opsOf nwr11
theorem nws0_eq : nws0 = .seq nwr0 nws1 := by kernel_rfl
theorem nwr0_eq : nwr0 = .region 0 nwo0 false := by kernel_rfl
theorem nws1_eq : nws1 = .seq nwr1 nws2 := by kernel_rfl
theorem nwr1_eq : nwr1 = .region 1 nwo1 false := by kernel_rfl
theorem nws2_eq : nws2 = .seq nwr2 nws3 := by kernel_rfl
theorem nwr2_eq : nwr2 = .region 2 nwo2 false := by kernel_rfl
theorem nws3_eq : nws3 = .seq nws4 nws12 := by kernel_rfl
theorem nws4_eq : nws4 = .seq nwr3 nwb0 := by kernel_rfl
theorem nwr3_eq : nwr3 = .region 3 nwo3 false := by kernel_rfl
theorem nwb0_eq : nwb0 = .block 0 nwl5 := by kernel_rfl
theorem nwl5_eq : nwl5 = .loop nws6 := by kernel_rfl
theorem nws6_eq : nws6 = .seq nwr4 nws7 := by kernel_rfl
theorem nwr4_eq : nwr4 = .region 4 nwo4 false := by kernel_rfl
theorem nws7_eq : nws7 = .seq nwc20 nws8 := by kernel_rfl
theorem nwc20_eq : nwc20 = .cond (.tmp 20) .skip (.exit 0) := by kernel_rfl
theorem nws8_eq : nws8 = .seq nwb1 nwr9 := by kernel_rfl
theorem nwb1_eq : nwb1 = .block 1 nws9 := by kernel_rfl
theorem nws9_eq : nws9 = .seq nwr5 nws10 := by kernel_rfl
theorem nwr5_eq : nwr5 = .region 5 nwo5 false := by kernel_rfl
theorem nws10_eq : nws10 = .seq nwr6 nws11 := by kernel_rfl
theorem nwr6_eq : nwr6 = .region 6 nwo6 false := by kernel_rfl
theorem nws11_eq : nws11 = .seq nwr7 nwr8 := by kernel_rfl
theorem nwr7_eq : nwr7 = .region 7 nwo7 false := by kernel_rfl
theorem nwr8_eq : nwr8 = .region 8 nwo8 false := by kernel_rfl
theorem nwr9_eq : nwr9 = .region 9 nwo9 false := by kernel_rfl
theorem nws12_eq : nws12 = .seq nwr10 nws13 := by kernel_rfl
theorem nwr10_eq : nwr10 = .region 10 nwo10 false := by kernel_rfl
theorem nws13_eq : nws13 = .seq nwr11 .ret := by kernel_rfl
theorem nwr11_eq : nwr11 = .region 11 nwo11 false := by kernel_rfl
theorem enter_nw (args : Array Value) : Frame.enter Try.prog 16 args .normal = (Go.Conc.base 16).at { tmps := args ++ Array.replicate (39 - args.size) undef, defers := [] } [.code nws0] := enter_at args Try.func16 rfl
theorem callable16 : Callable 16 := callable Try.func16 rfl rfl
def nwT (s : Nat → Value) : Array Value := #[s 0, s 1, s 2, s 3, s 4, s 5, s 6, s 7, s 8, s 9, s 10, s 11, s 12, s 13, s 14, s 15, s 16, s 17, s 18, s 19, s 20, s 21, s 22, s 23, s 24, s 25, s 26, s 27, s 28, s 29, s 30, s 31, s 32, s 33, s 34, s 35, s 36, s 37, s 38]
theorem nwT_of {A : Array Value} (h : A.size = 39) : ∃ s, A = nwT s := by
 obtain ⟨s, hs, _⟩ := arr_lit A h
 exact ⟨s, hs⟩
theorem nw_0 {n : Nat} (hU : Under F n) (hn : n ≤ w.heap.size) {va : Option Addr} {vl vc : Nat} {cs : List Frame} {main : Bool} {Stop : Goroutine → World → Prop}
  (h : ∀ A, Slots 39 A [(0, .slice va vl vc), (3, .pointer (some ⟨w.heap.size, 0, none⟩)), (4, .pointer (some ⟨w.heap.size + 1, 0, none⟩)), (17, .slice va vl vc), (18, .int .i64 vl), (19, .int .i64 (0 : Nat))] → Own Try.prog main F Stop (G ((Go.Conc.base 16).at ⟨A, []⟩ [.code nws6, .inLoop nws6, .inBlock 0, .code nws12]) cs) (((w.alloc (.cells #[.pointer none, .pointer none] 62)).alloc (.cells #[.int .i64 0, .pointer none] 106)).setCell ⟨w.heap.size, 0, none⟩ (.pointer (some ⟨w.heap.size + 1, 0, none⟩)))) :
  Own Try.prog main F Stop (G (Frame.enter Try.prog 16 #[.slice va vl vc] .normal) cs) w := by
 rw [enter_nw]
 walk_nrm
 rw [nws0_eq]
 refine ogS ?_
 rw [nwr0_eq]
 refine ogR ?_
 simp only [nwo0, Code.opsOf, nwr0, Code.piece, nwBody, Try.f16, Option.getD_some, List.size_toArray, List.length_cons, List.length_nil, Nat.reduceAdd, Nat.zero_add, List.range, List.range.loop]
 (refine oW fun dd K hK => ?_; go_simp; refine qT hK ?_; clear hK K)
 refine ogE ?_
 rw [nws1_eq]
 refine ogS ?_
 rw [nwr1_eq]
 refine ogR ?_
 simp only [nwo1, Code.opsOf, nwr1, Code.piece, nwBody, Try.f16, Option.getD_some, List.size_toArray, List.length_cons, List.length_nil, Nat.reduceAdd, Nat.zero_add, List.range, List.range.loop]
 (refine oW fun dd K hK => ?_; go_simp; refine qT hK ?_; clear hK K)
 (refine oW fun dd K hK => ?_; go_simp; refine qA hK hU ?_; clear hK K)
 (refine oW fun dd K hK => ?_; go_simp; refine qT hK ?_; clear hK K)
 (refine oW fun dd K hK => ?_; go_simp; refine qA hK hU ?_; clear hK K)
 iterate 2 (refine oW fun dd K hK => ?_; go_simp; refine qT hK ?_; clear hK K)
 refine ogE ?_
 rw [nws2_eq]
 refine ogS ?_
 rw [nwr2_eq]
 refine ogR ?_
 simp only [nwo2, Code.opsOf, nwr2, Code.piece, nwBody, Try.f16, Option.getD_some, List.size_toArray, List.length_cons, List.length_nil, Nat.reduceAdd, Nat.zero_add, List.range, List.range.loop]
 iterate 4 (refine oW fun dd K hK => ?_; go_simp; refine qT hK ?_; clear hK K)
 have hb0 : BoxP ((w.alloc (.cells #[.pointer none, .pointer none] 62)).alloc (.cells #[.int .i64 0, .pointer none] 106)) (some ⟨w.heap.size + 1, 0, none⟩) := .inr ⟨w.heap.size + 1, #[.int .i64 0, .pointer none], (0, 0), rfl, by have := heap_alloc_new (w.alloc (.cells #[.pointer none, .pointer none] 62)) (.cells #[.int .i64 0, .pointer none] 106); simpa using this, rfl⟩
 have hc0 : ((w.alloc (.cells #[.pointer none, .pointer none] 62)).alloc (.cells #[.int .i64 0, .pointer none] 106)).heap[w.heap.size]? = some (.cells #[.pointer none, .pointer none] 62 (0, 0)) := (heap_alloc_lt _ _ (by simp)).trans (heap_alloc_new _ _)
 refine oc callable47 #[.pointer (some ⟨w.heap.size, 0, none⟩), .pointer (some ⟨w.heap.size + 1, 0, none⟩)] ?_
 refine own_store (v := none) (by simp [World.cell?, hc0]) rfl (by simp [World.frozen?, hc0]) (not_held hU (by simp; omega)) hb0 ?_
 rw [Frame.finish_at]
 walk_nrm
 generalize (((w.alloc (.cells #[.pointer none, .pointer none] 62)).alloc (.cells #[.int .i64 0, .pointer none] 106)).setCell ⟨w.heap.size, 0, none⟩ (.pointer (some ⟨w.heap.size + 1, 0, none⟩))) = W at h ⊢
 refine ogE ?_
 rw [nws3_eq]
 refine ogS ?_
 rw [nws4_eq]
 refine ogS ?_
 rw [nwr3_eq]
 refine ogR ?_
 simp only [nwo3, Code.opsOf, nwr3, Code.piece, nwBody, Try.f16, Option.getD_some, List.size_toArray, List.length_cons, List.length_nil, Nat.reduceAdd, Nat.zero_add, List.range, List.range.loop]
 iterate 3 (refine oW fun dd K hK => ?_; go_simp; refine qT hK ?_; clear hK K)
 refine ogE ?_
 rw [nwb0_eq]
 refine ogB ?_
 rw [nwl5_eq]
 refine ogP ?_
 refine h _ ?_
 exact ⟨rfl, rfl, rfl, rfl, rfl, rfl, rfl, trivial⟩
theorem nw_1 {n : Nat} (hU : Under F n) (hn : n ≤ w.heap.size) {vb vo vl vc qb lb k : Nat} {x v : Int} (hk : k < vl) (hk2 : k < 10000000) (hl : w.heap[lb]? = some (.cells #[.int .i64 x, .pointer none] 106 (0, 0))) (hnl : ¬ held F ⟨lb, 1, none⟩) (cv : w.cell? ⟨vb, vo + k, none⟩ = some (.int .i64 v)) (zv : w.frozen? ⟨vb, vo + k, none⟩ = false) {A : Array Value} (hA : Slots 39 A [(0, .slice (some ⟨vb, vo, none⟩) vl vc), (3, .pointer (some ⟨qb, 0, none⟩)), (4, .pointer (some ⟨lb, 0, none⟩)), (17, .slice (some ⟨vb, vo, none⟩) vl vc), (18, .int .i64 vl), (19, .int .i64 k)]) {cs : List Frame} {main : Bool} {Stop : Goroutine → World → Prop}
  (h : ∀ A, Slots 39 A [(0, .slice (some ⟨vb, vo, none⟩) vl vc), (3, .pointer (some ⟨qb, 0, none⟩)), (4, .pointer (some ⟨w.heap.size, 0, none⟩)), (17, .slice (some ⟨vb, vo, none⟩) vl vc), (18, .int .i64 vl), (19, .int .i64 (k + 1 : Nat))] → Own Try.prog main F Stop (G ((Go.Conc.base 16).at ⟨A, []⟩ [.code nws6, .inLoop nws6, .inBlock 0, .code nws12]) cs) ((w.alloc (.cells #[.int .i64 v, .pointer none] 106)).setCell ⟨lb, 1, none⟩ (.pointer (some ⟨w.heap.size, 0, none⟩)))) :
  Own Try.prog main F Stop (G ((Go.Conc.base 16).at ⟨A, []⟩ [.code nws6, .inLoop nws6, .inBlock 0, .code nws12]) cs) w := by
 obtain ⟨hsz, h0, h3, h4, h17, h18, h19, _⟩ := hA
 obtain ⟨s, rfl⟩ := nwT_of hsz
 change s 0 = _ at h0
 change s 3 = _ at h3
 change s 4 = _ at h4
 change s 17 = _ at h17
 change s 18 = _ at h18
 change s 19 = _ at h19
 clear hsz
 simp only [nwT, h0, h3, h4, h17, h18, h19]
 clear h0 h3 h4 h17 h18 h19
 have hk64 : IntKind.i64.wrap ((k : Int) + 1) = (k : Int) + 1 := IntWalk.i64_in _ (by omega)
 have hlt : decide ((k : Int) < (vl : Int)) = true := by simp; omega
 have hlt2 : decide (k < vl) = true := by simp; omega
 rw [nws6_eq]
 refine ogS ?_
 rw [nwr4_eq]
 refine ogR ?_
 simp only [nwo4, Code.opsOf, nwr4, Code.piece, nwBody, Try.f16, Option.getD_some, List.size_toArray, List.length_cons, List.length_nil, Nat.reduceAdd, Nat.zero_add, List.range, List.range.loop]
 (refine oW fun dd K hK => ?_; go_simp; refine qT hK ?_; clear hK K)
 refine ogE ?_
 rw [nws7_eq]
 refine ogS ?_
 rw [nwc20_eq]
 refine ogT ?_
 simp only [if_true]
 refine ogK ?_
 rw [nws8_eq]
 refine ogS ?_
 rw [nwb1_eq]
 refine ogB ?_
 rw [nws9_eq]
 refine ogS ?_
 rw [nwr5_eq]
 refine ogR ?_
 simp only [nwo5, Code.opsOf, nwr5, Code.piece, nwBody, Try.f16, Option.getD_some, List.size_toArray, List.length_cons, List.length_nil, Nat.reduceAdd, Nat.zero_add, List.range, List.range.loop]
 (refine oW fun dd K hK => ?_; go_simp; refine qX hK ?_; clear hK K)
 (refine oW fun dd K hK => ?_; go_simp; refine qL hK ?_; clear hK K)
 (refine oW fun dd K hK => ?_; go_simp; refine qT hK ?_; clear hK K)
 refine ogE ?_
 rw [nws10_eq]
 refine ogS ?_
 rw [nwr6_eq]
 refine ogR ?_
 simp only [nwo6, Code.opsOf, nwr6, Code.piece, nwBody, Try.f16, Option.getD_some, List.size_toArray, List.length_cons, List.length_nil, Nat.reduceAdd, Nat.zero_add, List.range, List.range.loop]
 iterate 2 (refine oW fun dd K hK => ?_; go_simp; refine qT hK ?_; clear hK K)
 (refine oW fun dd K hK => ?_; go_simp; refine qA hK hU ?_; clear hK K)
 (refine oW fun dd K hK => ?_; go_simp; refine qT hK ?_; clear hK K)
 refine ogE ?_
 rw [nws11_eq]
 refine ogS ?_
 rw [nwr7_eq]
 refine ogR ?_
 simp only [nwo7, Code.opsOf, nwr7, Code.piece, nwBody, Try.f16, Option.getD_some, List.size_toArray, List.length_cons, List.length_nil, Nat.reduceAdd, Nat.zero_add, List.range, List.range.loop]
 iterate 4 (refine oW fun dd K hK => ?_; go_simp; refine qT hK ?_; clear hK K)
 have hb0 : BoxP (w.alloc (.cells #[.int .i64 v, .pointer none] 106)) (some ⟨w.heap.size, 0, none⟩) := .inr ⟨w.heap.size, #[.int .i64 v, .pointer none], (0, 0), rfl, heap_alloc_new _ _, rfl⟩
 have hc0 : (w.alloc (.cells #[.int .i64 v, .pointer none] 106)).heap[lb]? = w.heap[lb]? := heap_alloc_lt _ _ (Array.getElem?_eq_some_iff.1 hl).1
 refine oc callable47 #[.pointer (some ⟨lb, 1, none⟩), .pointer (some ⟨w.heap.size, 0, none⟩)] ?_
 refine own_store (v := none) (by simp [World.cell?, hc0, hl]) rfl (by simp [World.frozen?, hc0, hl]) hnl hb0 ?_
 rw [Frame.finish_at]
 walk_nrm
 refine ogE ?_
 rw [nwr8_eq]
 refine ogR ?_
 simp only [nwo8, Code.opsOf, nwr8, Code.piece, nwBody, Try.f16, Option.getD_some, List.size_toArray, List.length_cons, List.length_nil, Nat.reduceAdd, Nat.zero_add, List.range, List.range.loop]
 iterate 2 (refine oW fun dd K hK => ?_; go_simp; refine qT hK ?_; clear hK K)
 refine ogE ?_
 refine ogI ?_
 rw [nwr9_eq]
 refine ogR ?_
 simp only [nwo9, Code.opsOf, nwr9, Code.piece, nwBody, Try.f16, Option.getD_some, List.size_toArray, List.length_cons, List.length_nil, Nat.reduceAdd, Nat.zero_add, List.range, List.range.loop]
 iterate 2 (refine oW fun dd K hK => ?_; go_simp; refine qT hK ?_; clear hK K)
 refine ogE ?_
 refine ogL ?_
 refine h _ ?_
 exact ⟨rfl, rfl, rfl, rfl, rfl, rfl, rfl, trivial⟩
theorem nw_2 {va : Option Addr} {vl vc qb lb : Nat} {x : Option Addr} (hc : w.cell? ⟨qb, 1, none⟩ = some (.pointer x)) (hz : w.frozen? ⟨qb, 1, none⟩ = false) (hnq : ¬ held F ⟨qb, 1, none⟩) (hb : BoxP w (some ⟨lb, 0, none⟩)) {A : Array Value} (hA : Slots 39 A [(0, .slice va vl vc), (3, .pointer (some ⟨qb, 0, none⟩)), (4, .pointer (some ⟨lb, 0, none⟩)), (17, .slice va vl vc), (18, .int .i64 vl), (19, .int .i64 vl)]) {c : Frame} {cs : List Frame} {main : Bool} {Stop : Goroutine → World → Prop}
  (h : Own Try.prog main F Stop (G (c.finish (.pointer (some ⟨qb, 0, none⟩))) cs) (w.setCell ⟨qb, 1, none⟩ (.pointer (some ⟨lb, 0, none⟩)))) :
  Own Try.prog main F Stop (G ((Go.Conc.base 16).at ⟨A, []⟩ [.code nws6, .inLoop nws6, .inBlock 0, .code nws12]) (c :: cs)) w := by
 obtain ⟨hsz, h0, h3, h4, h17, h18, h19, _⟩ := hA
 obtain ⟨s, rfl⟩ := nwT_of hsz
 change s 0 = _ at h0
 change s 3 = _ at h3
 change s 4 = _ at h4
 change s 17 = _ at h17
 change s 18 = _ at h18
 change s 19 = _ at h19
 clear hsz
 simp only [nwT, h0, h3, h4, h17, h18, h19]
 clear h0 h3 h4 h17 h18 h19
 have hlt : decide ((vl : Int) < (vl : Int)) = false := by simp
 rw [nws6_eq]
 refine ogS ?_
 rw [nwr4_eq]
 refine ogR ?_
 simp only [nwo4, Code.opsOf, nwr4, Code.piece, nwBody, Try.f16, Option.getD_some, List.size_toArray, List.length_cons, List.length_nil, Nat.reduceAdd, Nat.zero_add, List.range, List.range.loop]
 (refine oW fun dd K hK => ?_; go_simp; refine qT hK ?_; clear hK K)
 refine ogE ?_
 rw [nws7_eq]
 refine ogS ?_
 rw [nwc20_eq]
 refine ogF ?_
 simp only [Bool.false_eq_true, if_false]
 refine own_go rfl (fun d => stepG_exit rfl) ?_
 rw [nws12_eq]
 refine ogS ?_
 rw [nwr10_eq]
 refine ogR ?_
 simp only [nwo10, Code.opsOf, nwr10, Code.piece, nwBody, Try.f16, Option.getD_some, List.size_toArray, List.length_cons, List.length_nil, Nat.reduceAdd, Nat.zero_add, List.range, List.range.loop]
 iterate 4 (refine oW fun dd K hK => ?_; go_simp; refine qT hK ?_; clear hK K)
 refine oc callable47 #[.pointer (some ⟨qb, 1, none⟩), .pointer (some ⟨lb, 0, none⟩)] ?_
 refine own_store hc rfl hz hnq hb ?_
 rw [Frame.finish_at]
 walk_nrm
 refine ogE ?_
 rw [nws13_eq]
 refine ogS ?_
 rw [nwr11_eq]
 refine ogR ?_
 simp only [nwo11, Code.opsOf, nwr11, Code.piece, nwBody, Try.f16, Option.getD_some, List.size_toArray, List.length_cons, List.length_nil, Nat.reduceAdd, Nat.zero_add, List.range, List.range.loop]
 iterate 2 (refine oW fun dd K hK => ?_; go_simp; refine qT hK ?_; clear hK K)
 refine ogE ?_
 refine ogX ?_
 refine own_go rfl (fun d => stepG_leave (fn := Try.f16) (v := .pointer (some ⟨qb, 0, none⟩)) rfl rfl Try.func16 (by simp [results, Try.f16]) (by simp [results, Try.f16, go_sem])) ?_
 exact h
end
noncomputable section
variable {w : World}
structure NI (w0 : World) (vs : List Int) (qb k : Nat) (bl : Nat → Nat) (w : World) : Prop where
 size : w0.heap.size ≤ w.heap.size
 old : ∀ r, r < w0.heap.size → w.heap[r]? = w0.heap[r]?
 hq : w.heap[qb]? = some (.cells #[.pointer (some ⟨bl 0, 0, none⟩), .pointer none] 62 (0, 0))
 hb : ∀ j, j ≤ k → w.heap[bl j]? = some (.cells #[.int .i64 (newV vs j), .pointer (if j < k then some ⟨bl (j + 1), 0, none⟩ else none)] 106 (0, 0))
 inj : ∀ i j, i ≤ k → j ≤ k → bl i = bl j → i = j
 lo : w0.heap.size ≤ qb ∧ ∀ j, j ≤ k → w0.heap.size ≤ bl j
theorem NI.ne {w0 : World} {vs : List Int} {qb k : Nat} {bl : Nat → Nat} (h : NI w0 vs qb k bl w) {j : Nat} (hj : j ≤ k) : bl j ≠ qb := by
 intro e
 have h1 := h.hb j hj
 rw [e, h.hq] at h1
 simp only [Option.some.injEq, Obj.cells.injEq] at h1
 exact absurd h1.2.1 (by decide)
theorem NI.done {w0 : World} {vs : List Int} {qb : Nat} {bl : Nat → Nat} (h : NI w0 vs qb vs.length bl w) : QU qb ⟨newRQ vs, (List.range (vs.length + 1)).map bl⟩ (w.setCell ⟨qb, 1, none⟩ (.pointer (some ⟨bl vs.length, 0, none⟩))) := by
 have hbk : ∀ j, j ≤ vs.length → QS.bk ⟨newRQ vs, (List.range (vs.length + 1)).map bl⟩ j = bl j := fun j hj => by
  simp [QS.bk, List.getD_eq_getElem?_getD, List.getElem?_map, List.getElem?_range (show j < vs.length + 1 by omega)]
 have hlen : (newRQ vs).B.length = vs.length + 1 := by simp [newRQ]
 refine ⟨by simp [newRQ], by rw [hlen]; simp [newRQ], by rw [hlen]; simp [newRQ], ?_, ?_, ?_, ?_⟩
 ·intro k v n hk
  simp only at hk ⊢
  rw [hlen]
  simp only [newRQ, List.getElem?_map, Option.map_eq_some_iff, Prod.mk.injEq] at hk
  obtain ⟨a, h1, h2, h3⟩ := hk
  split at h3
  ·simp only [Option.some.injEq] at h3; omega
  ·cases h3
 ·intro k v n hk
  simp only [newRQ, List.getElem?_map, Option.map_eq_some_iff, Prod.mk.injEq] at hk
  obtain ⟨a, h1, rfl, rfl⟩ := hk
  have h4 := List.getElem?_eq_some_iff.1 h1
  obtain ⟨h5, h6⟩ := h4
  simp only [List.length_range, List.getElem_range] at h5 h6
  subst h6
  rw [hbk k (by omega), heap_setCell_ne _ _ _ (h.ne (by omega)), h.hb k (by omega)]
  unfold QS.nv
  split
  ·rename_i h7
   simp only [Option.map_some]
   rw [hbk (k + 1) (by omega)]
  ·rfl
 ·rw [heap_setCell_eq h.hq]
  unfold QS.pt
  show _ = some (Obj.cells #[.pointer (some ⟨QS.bk _ 0, 0, none⟩), .pointer (some ⟨QS.bk _ vs.length, 0, none⟩)] 62 (0, 0))
  rw [hbk 0 (by omega), hbk _ (Nat.le_refl _)]
  rfl
 ·intro j k hj hk e
  simp only at hj hk
  rw [hlen] at hj hk
  rw [hbk j (by omega), hbk k (by omega)] at e
  exact h.inj j k (by omega) (by omega) e
theorem own_new_loop {w0 : World} {vs : List Int} {va : Option Addr} {vb vo vc qb : Nat} (hlen : vs.length < 10000000) (hva : 0 < vs.length → va = some ⟨vb, vo, none⟩) (hvb : 0 < vs.length → vb < w0.heap.size) (hv : ∀ k v, vs[k]? = some v → w0.cell? ⟨vb, vo + k, none⟩ = some (.int .i64 v) ∧ w0.frozen? ⟨vb, vo + k, none⟩ = false) {c : Frame} {cs : List Frame} {main : Bool} {Stop : Goroutine → World → Prop}
  (K : ∀ w' bl, NI w0 vs qb vs.length bl w' → Own Try.prog main F0 Stop (G (c.finish (.pointer (some ⟨qb, 0, none⟩))) cs) (w'.setCell ⟨qb, 1, none⟩ (.pointer (some ⟨bl vs.length, 0, none⟩)))) :
  ∀ (q k : Nat), k + q = vs.length → ∀ (w : World) (bl : Nat → Nat) (A : Array Value), NI w0 vs qb k bl w → Slots 39 A [(0, .slice va vs.length vc), (3, .pointer (some ⟨qb, 0, none⟩)), (4, .pointer (some ⟨bl k, 0, none⟩)), (17, .slice va vs.length vc), (18, .int .i64 vs.length), (19, .int .i64 k)] →
   Own Try.prog main F0 Stop (G ((Go.Conc.base 16).at ⟨A, []⟩ [.code nws6, .inLoop nws6, .inBlock 0, .code nws12]) (c :: cs)) w := by
 have hF : ∀ a : Addr, ¬ held F0 a := fun a h => by obtain ⟨z, hz, _⟩ := h; cases hz
 intro q
 induction q with
 | zero =>
  intro k hk w bl A hN hA
  obtain rfl : k = vs.length := by omega
  have hbx : BoxP w (some ⟨bl vs.length, 0, none⟩) := .inr ⟨_, _, _, rfl, hN.hb _ (Nat.le_refl _), rfl⟩
  exact nw_2 (x := none) (by simp [World.cell?, hN.hq]) (by simp [World.frozen?, hN.hq]) (hF _) hbx hA (K w bl hN)
 | succ q ih =>
  intro k hk w bl A hN hA
  have hkn : k < vs.length := by omega
  obtain rfl := hva (by omega)
  have hvb := hvb (by omega)
  obtain ⟨v, hv1⟩ : ∃ v, vs[k]? = some v := ⟨_, List.getElem?_eq_getElem hkn⟩
  obtain ⟨t1, t2⟩ := hv k v hv1
  have hsz := hN.size
  have hob := hN.old vb hvb
  have hlast := hN.hb k (Nat.le_refl _)
  rw [if_neg (Nat.lt_irrefl k)] at hlast
  refine nw_1 under_F0 (Nat.zero_le _) hkn (by omega) hlast (hF _) (by rw [← t1]; unfold World.cell?; simp only [hob]) (by rw [← t2]; unfold World.frozen?; simp only [hob]) hA fun A2 hA2 => ?_
  have hll := (Array.getElem?_eq_some_iff.1 hlast).1
  have e1 : ∀ r, r < w.heap.size → r ≠ bl k → ((w.alloc (.cells #[.int .i64 v, .pointer none] 106)).setCell ⟨bl k, 1, none⟩ (.pointer (some ⟨w.heap.size, 0, none⟩))).heap[r]? = w.heap[r]? := fun r h1 h2 => (heap_setCell_ne _ _ _ h2).trans (heap_alloc_lt _ _ h1)
  have e2 : ((w.alloc (.cells #[.int .i64 v, .pointer none] 106)).setCell ⟨bl k, 1, none⟩ (.pointer (some ⟨w.heap.size, 0, none⟩))).heap[w.heap.size]? = some (.cells #[.int .i64 v, .pointer none] 106 (0, 0)) := (heap_setCell_ne _ _ _ (show w.heap.size ≠ bl k by omega)).trans (heap_alloc_new _ _)
  have e3 : ((w.alloc (.cells #[.int .i64 v, .pointer none] 106)).setCell ⟨bl k, 1, none⟩ (.pointer (some ⟨w.heap.size, 0, none⟩))).heap[bl k]? = some (.cells #[.int .i64 (newV vs k), .pointer (some ⟨w.heap.size, 0, none⟩)] 106 (0, 0)) := by
   rw [heap_setCell_eq ((heap_alloc_lt _ _ hll).trans hlast)]
   rfl
  have e4 : ((w.alloc (.cells #[.int .i64 v, .pointer none] 106)).setCell ⟨bl k, 1, none⟩ (.pointer (some ⟨w.heap.size, 0, none⟩))).heap.size = w.heap.size + 1 := by simp
  generalize (w.alloc (.cells #[.int .i64 v, .pointer none] 106)).setCell ⟨bl k, 1, none⟩ (.pointer (some ⟨w.heap.size, 0, none⟩)) = W at e1 e2 e3 e4 ⊢
  have hlo := hN.lo
  have hblt : ∀ j, j ≤ k → bl j < w.heap.size := fun j hj => (Array.getElem?_eq_some_iff.1 (hN.hb j hj)).1
  have hqlt := (Array.getElem?_eq_some_iff.1 hN.hq).1
  let bl' : Nat → Nat := fun j => if j = k + 1 then w.heap.size else bl j
  have b1 : bl' (k + 1) = w.heap.size := if_pos rfl
  have b2 : ∀ j, j ≤ k → bl' j = bl j := fun j hj => if_neg (by omega)
  refine ih (k + 1) (by omega) W bl' A2 ⟨by omega, fun r hr => (e1 r (by omega) (by have := hlo.2 k (Nat.le_refl _); omega)).trans (hN.old r hr), ?_, ?_, ?_, hlo.1, ?_⟩ (by rw [b1]; exact hA2)
  ·rw [b2 0 (Nat.zero_le _), e1 qb hqlt (fun e => hN.ne (Nat.le_refl k) e.symm)]
   exact hN.hq
  ·intro j hj
   by_cases h1 : j = k + 1
   ·subst h1
    rw [b1, e2, if_neg (Nat.lt_irrefl _)]
    have : newV vs (k + 1) = v := by simp [newV, List.getD_eq_getElem?_getD, hv1]
    rw [this]
   ·by_cases h2 : j = k
    ·subst h2
     rw [b2 j (Nat.le_refl _), e3, if_pos (by omega), b1]
    ·rw [b2 j (by omega), e1 _ (hblt j (by omega)) (fun e => h2 (hN.inj j k (by omega) (Nat.le_refl _) e)), hN.hb j (by omega), if_pos (by omega), if_pos (by omega), b2 (j + 1) (by omega)]
  ·intro i j hi hj e
   by_cases h1 : i = k + 1
   ·by_cases h2 : j = k + 1
    ·omega
    ·rw [h1, b1, b2 j (by omega)] at e
     have := hblt j (by omega); omega
   ·by_cases h2 : j = k + 1
    ·rw [h2, b1, b2 i (by omega)] at e
     have := hblt i (by omega); omega
    ·rw [b2 i (by omega), b2 j (by omega)] at e
     exact hN.inj i j (by omega) (by omega) e
  ·intro j hj
   by_cases h1 : j = k + 1
   ·rw [h1, b1]; omega
   ·rw [b2 j (by omega)]
    exact hlo.2 j (by omega)
theorem own_new {vs : List Int} {va : Option Addr} {vb vo vc : Nat} (hlen : vs.length < 10000000) (hva : 0 < vs.length → va = some ⟨vb, vo, none⟩) (hvb : 0 < vs.length → vb < w.heap.size) (hv : ∀ k v, vs[k]? = some v → w.cell? ⟨vb, vo + k, none⟩ = some (.int .i64 v) ∧ w.frozen? ⟨vb, vo + k, none⟩ = false) {c : Frame} {cs : List Frame} {main : Bool} {Stop : Goroutine → World → Prop}
  (K : ∀ w' qb bl, QU qb ⟨newRQ vs, bl⟩ w' → w.heap.size ≤ w'.heap.size → (∀ r, r < w.heap.size → w'.heap[r]? = w.heap[r]?) → (∀ r, QR qb ⟨newRQ vs, bl⟩ r → w.heap.size ≤ r) → Own Try.prog main F0 Stop (G (c.finish (.pointer (some ⟨qb, 0, none⟩))) cs) w') :
  Own Try.prog main F0 Stop (G (Frame.enter Try.prog 16 #[.slice va vs.length vc] .normal) (c :: cs)) w := by
 refine nw_0 under_F0 (Nat.zero_le _) fun A hA => ?_
 have h1 : ((w.alloc (.cells #[.pointer none, .pointer none] 62)).alloc (.cells #[.int .i64 0, .pointer none] 106)).heap[w.heap.size]? = some (.cells #[.pointer none, .pointer none] 62 (0, 0)) := (heap_alloc_lt _ _ (by simp)).trans (heap_alloc_new _ _)
 have h2 := new2 w (.cells #[.pointer none, .pointer none] 62) #[.int .i64 0, .pointer none] 106
 refine own_new_loop (w0 := w) (qb := w.heap.size) hlen hva hvb hv (fun w' bl hN => ?_) vs.length 0 (by omega) _ (fun _ => w.heap.size + 1) A ⟨by simp; omega, fun r hr => (heap_setCell_ne _ _ _ (show r ≠ w.heap.size by omega)).trans (old2 _ _ _ hr), ?_, ?_, ?_, Nat.le_refl _, fun j _ => by omega⟩ hA
 ·have hQ := hN.done
  refine K _ _ _ hQ (by simp; exact hN.size) (fun r hr => (heap_setCell_ne _ _ _ (show r ≠ w.heap.size by omega)).trans (hN.old r hr)) ?_
  rintro r (rfl | ⟨k, hk, rfl⟩)
  ·exact Nat.le_refl _
  ·have hk2 : k < vs.length + 1 := by simpa [newRQ] using hk
   have : QS.bk ⟨newRQ vs, (List.range (vs.length + 1)).map bl⟩ k = bl k := by
    simp [QS.bk, List.getD_eq_getElem?_getD, List.getElem?_map, List.getElem?_range hk2]
   rw [this]
   exact hN.lo.2 k (by omega)
 ·rw [heap_setCell_eq h1]
  rfl
 ·intro j hj
  obtain rfl : j = 0 := by omega
  rw [if_neg (Nat.lt_irrefl _)]
  refine (heap_setCell_ne _ _ _ (show w.heap.size + 1 ≠ w.heap.size by omega)).trans (h2.trans ?_)
  simp [newV]
 ·intro i j hi hj _
  omega
end
noncomputable section
variable {F : Fz} {w : World}
def vaBody : Code := Try.f23.body.getD .skip
def vas0 : Code := Code.piece [] vaBody
def var0 : Code := Code.piece [true] vaBody
def vao0 : Array Oper := Code.opsOf var0
def vas1 : Code := Code.piece [false] vaBody
def vas2 : Code := Code.piece [false, true] vaBody
def var1 : Code := Code.piece [false, true, true] vaBody
def vao1 : Array Oper := Code.opsOf var1
def vac6 : Code := Code.piece [false, true, false] vaBody
def vas3 : Code := Code.piece [false, true, false, true] vaBody
def var2 : Code := Code.piece [false, true, false, true, true] vaBody
def vao2 : Array Oper := Code.opsOf var2
def vas4 : Code := Code.piece [false, false] vaBody
def var3 : Code := Code.piece [false, false, true] vaBody
def vao3 : Array Oper := Code.opsOf var3
def vas5 : Code := Code.piece [false, false, false] vaBody
def vas6 : Code := Code.piece [false, false, false, true] vaBody
def var4 : Code := Code.piece [false, false, false, true, true] vaBody
def vao4 : Array Oper := Code.opsOf var4
def vab0 : Code := Code.piece [false, false, false, true, false] vaBody
def val7 : Code := Code.piece [false, false, false, true, false, true] vaBody
def vas8 : Code := Code.piece [false, false, false, true, false, true, true] vaBody
def vas9 : Code := Code.piece [false, false, false, true, false, true, true, true] vaBody
def var5 : Code := Code.piece [false, false, false, true, false, true, true, true, true] vaBody
def vao5 : Array Oper := Code.opsOf var5
def vac15 : Code := Code.piece [false, false, false, true, false, true, true, true, false] vaBody
def vas10 : Code := Code.piece [false, false, false, true, false, true, true, false] vaBody
def vab1 : Code := Code.piece [false, false, false, true, false, true, true, false, true] vaBody
def var7 : Code := Code.piece [false, false, false, true, false, true, true, false, true, true] vaBody
def vao7 : Array Oper := Code.opsOf var7
def var6 : Code := Code.piece [false, false, false, true, false, true, true, false, false] vaBody
def vao6 : Array Oper := Code.opsOf var6
def vas11 : Code := Code.piece [false, false, false, false] vaBody
def var8 : Code := Code.piece [false, false, false, false, true] vaBody
def vao8 : Array Oper := Code.opsOf var8
theorem vas0_eq : vas0 = .seq var0 vas1 := by kernel_rfl
theorem var0_eq : var0 = .region 0 vao0 false := by kernel_rfl
theorem vas1_eq : vas1 = .seq vas2 vas4 := by kernel_rfl
theorem vas2_eq : vas2 = .seq var1 vac6 := by kernel_rfl
theorem var1_eq : var1 = .region 1 vao1 false := by kernel_rfl
theorem vac6_eq : vac6 = .cond (.tmp 6) vas3 .skip := by kernel_rfl
theorem vas3_eq : vas3 = .seq var2 .ret := by kernel_rfl
theorem var2_eq : var2 = .region 2 vao2 false := by kernel_rfl
theorem vas4_eq : vas4 = .seq var3 vas5 := by kernel_rfl
theorem var3_eq : var3 = .region 3 vao3 false := by kernel_rfl
theorem vas5_eq : vas5 = .seq vas6 vas11 := by kernel_rfl
theorem vas6_eq : vas6 = .seq var4 vab0 := by kernel_rfl
theorem var4_eq : var4 = .region 4 vao4 false := by kernel_rfl
theorem vab0_eq : vab0 = .block 0 val7 := by kernel_rfl
theorem val7_eq : val7 = .loop vas8 := by kernel_rfl
theorem vas8_eq : vas8 = .seq vas9 vas10 := by kernel_rfl
theorem vas9_eq : vas9 = .seq var5 vac15 := by kernel_rfl
theorem var5_eq : var5 = .region 5 vao5 false := by kernel_rfl
theorem vac15_eq : vac15 = .cond (.tmp 15) .skip (.exit 0) := by kernel_rfl
theorem vas10_eq : vas10 = .seq vab1 var6 := by kernel_rfl
theorem vab1_eq : vab1 = .block 1 var7 := by kernel_rfl
theorem var7_eq : var7 = .region 7 vao7 false := by kernel_rfl
theorem var6_eq : var6 = .region 6 vao6 false := by kernel_rfl
theorem vas11_eq : vas11 = .seq var8 .ret := by kernel_rfl
theorem var8_eq : var8 = .region 8 vao8 false := by kernel_rfl
theorem enter_va (args : Array Value) : Frame.enter Try.prog 23 args .normal = (Go.Conc.base 23).at { tmps := args ++ Array.replicate (28 - args.size) undef, defers := [] } [.code vas0] := enter_at args Try.func23 rfl
theorem callable23 : Callable 23 := callable Try.func23 rfl rfl
def vaT (s : Nat → Value) : Array Value := #[s 0, s 1, s 2, s 3, s 4, s 5, s 6, s 7, s 8, s 9, s 10, s 11, s 12, s 13, s 14, s 15, s 16, s 17, s 18, s 19, s 20, s 21, s 22, s 23, s 24, s 25, s 26, s 27]
theorem vaT_of {A : Array Value} (h : A.size = 28) : ∃ s, A = vaT s := by
 obtain ⟨s, hs, _⟩ := arr_lit A h
 exact ⟨s, hs⟩
theorem va_0 {qb t : Nat} {hd : Addr} {nx : Option Addr} (hbh : BoxP w (some hd)) (hch : w.cell? ⟨qb, 0, none⟩ = some (.pointer (some hd))) (hbt : BoxP w (some ⟨t, 0, none⟩)) (hct : w.cell? ⟨qb, 0, none⟩ = some (.pointer (some ⟨t, 0, none⟩))) (hbn : BoxP w nx) (hcn : w.cell? ⟨t, 1, none⟩ = some (.pointer nx)) {cs : List Frame} {main : Bool} {Stop : Goroutine → World → Prop}
  (h : ∀ A, Slots 28 A [(3, .slice none 0 0), (4, .pointer nx)] → Own Try.prog main F Stop (G ((Go.Conc.base 23).at ⟨A, []⟩ [.code vas8, .inLoop vas8, .inBlock 0, .code vas11]) cs) w) :
  Own Try.prog main F Stop (G (Frame.enter Try.prog 23 #[.pointer (some ⟨qb, 0, none⟩)] .normal) cs) w := by
 rw [enter_va]
 walk_nrm
 rw [vas0_eq]
 refine ogS ?_
 rw [var0_eq]
 refine ogR ?_
 simp only [vao0, Code.opsOf, var0, Code.piece, vaBody, Try.f23, Option.getD_some, List.size_toArray, List.length_cons, List.length_nil, Nat.reduceAdd, Nat.zero_add, List.range, List.range.loop]
 (refine oW fun dd K hK => ?_; go_simp; refine qT hK ?_; clear hK K)
 refine ogE ?_
 rw [vas1_eq]
 refine ogS ?_
 rw [vas2_eq]
 refine ogS ?_
 rw [var1_eq]
 refine ogR ?_
 simp only [vao1, Code.opsOf, var1, Code.piece, vaBody, Try.f23, Option.getD_some, List.size_toArray, List.length_cons, List.length_nil, Nat.reduceAdd, Nat.zero_add, List.range, List.range.loop]
 (refine oW fun dd K hK => ?_; go_simp; refine qT hK ?_; clear hK K)
 refine oc callable51 #[.pointer (some ⟨qb, 0, none⟩)] ?_
 refine own_no hbh hch ?_
 rw [Frame.finish_at]
 walk_nrm
 refine ogE ?_
 rw [vac6_eq]
 refine ogF ?_
 simp only [Bool.false_eq_true, if_false]
 refine ogK ?_
 rw [vas4_eq]
 refine ogS ?_
 rw [var3_eq]
 refine ogR ?_
 simp only [vao3, Code.opsOf, var3, Code.piece, vaBody, Try.f23, Option.getD_some, List.size_toArray, List.length_cons, List.length_nil, Nat.reduceAdd, Nat.zero_add, List.range, List.range.loop]
 (refine oW fun dd K hK => ?_; go_simp; refine qT hK ?_; clear hK K)
 refine ogE ?_
 rw [vas5_eq]
 refine ogS ?_
 rw [vas6_eq]
 refine ogS ?_
 rw [var4_eq]
 refine ogR ?_
 simp only [vao4, Code.opsOf, var4, Code.piece, vaBody, Try.f23, Option.getD_some, List.size_toArray, List.length_cons, List.length_nil, Nat.reduceAdd, Nat.zero_add, List.range, List.range.loop]
 iterate 3 (refine oW fun dd K hK => ?_; go_simp; refine qT hK ?_; clear hK K)
 refine oc callable52 #[.pointer (some ⟨qb, 0, none⟩)] ?_
 refine own_load hbt hct rfl ?_
 rw [Frame.finish_at]
 walk_nrm
 iterate 2 (refine oW fun dd K hK => ?_; go_simp; refine qT hK ?_; clear hK K)
 refine oc callable52 #[.pointer (some ⟨t, 1, none⟩)] ?_
 refine own_load hbn hcn rfl ?_
 rw [Frame.finish_at]
 walk_nrm
 (refine oW fun dd K hK => ?_; go_simp; refine qT hK ?_; clear hK K)
 refine ogE ?_
 rw [vab0_eq]
 refine ogB ?_
 rw [val7_eq]
 refine ogP ?_
 refine h _ ?_
 exact ⟨rfl, rfl, rfl, trivial⟩
theorem info2 : ∃ i, Try.prog.info? 2 = some i ∧ i.zero = some (.int .i64 0) ∧ i.size = 1 ∧ i.bytes = 8 := by
 have h : (Try.prog.info? 2).map (fun i => (i.size, i.bytes)) = some (1, 8) := by kernel_rfl
 have h0 : (Try.prog.info? 2).bind (·.zero) = some (.int .i64 0) := by kernel_rfl
 obtain ⟨i, hi, h1⟩ := Option.map_eq_some_iff.1 h
 rw [hi] at h0
 simp only [Prod.mk.injEq] at h1
 exact ⟨i, hi, h0, h1.1, h1.2⟩
theorem va_1 {b k base : Nat} {v : Int} {l : Value} {xs : List Value} (hk : k < 10000000) (hbase : base ≤ w.heap.size) (hrow : w.ownsRow base 2 1 l k xs) {nx : Option Addr} (hbn : BoxP w nx) (hbq : w.heap[b]? = some (.cells #[.int .i64 v, .pointer nx] 106 (0, 0))) {A : Array Value} (hA : Slots 28 A [(3, l), (4, .pointer (some ⟨b, 0, none⟩))]) {cs : List Frame} {main : Bool} {Stop : Goroutine → World → Prop}
  (h : ∀ (w' : World) (l' : Value) (A : Array Value), w'.ownsRow base 2 1 l' (k + 1) (xs ++ [.int .i64 v]) → w.heap.size ≤ w'.heap.size → (∀ r, r < w.heap.size → some r ≠ Value.ownBlock l → w'.heap[r]? = w.heap[r]?) → Slots 28 A [(3, l'), (4, .pointer nx)] → Own Try.prog main F0 Stop (G ((Go.Conc.base 23).at ⟨A, []⟩ [.code vas8, .inLoop vas8, .inBlock 0, .code vas11]) cs) w') :
  Own Try.prog main F0 Stop (G ((Go.Conc.base 23).at ⟨A, []⟩ [.code vas8, .inLoop vas8, .inBlock 0, .code vas11]) cs) w := by
 have hU := under_F0
 have hn : 0 ≤ w.heap.size := Nat.zero_le _
 have cb0 : w.cell? ⟨b, 0, none⟩ = some (.int .i64 v) := by simp [World.cell?, hbq]
 have zb0 : w.frozen? ⟨b, 0, none⟩ = false := by simp [World.frozen?, hbq]
 obtain ⟨hsz, h3, h4, _⟩ := hA
 obtain ⟨s, rfl⟩ := vaT_of hsz
 change s 3 = _ at h3
 change s 4 = _ at h4
 clear hsz
 simp only [vaT, h3, h4]
 clear h3 h4
 rw [vas8_eq]
 refine ogS ?_
 rw [vas9_eq]
 refine ogS ?_
 rw [var5_eq]
 refine ogR ?_
 simp only [vao5, Code.opsOf, var5, Code.piece, vaBody, Try.f23, Option.getD_some, List.size_toArray, List.length_cons, List.length_nil, Nat.reduceAdd, Nat.zero_add, List.range, List.range.loop]
 iterate 2 (refine oW fun dd K hK => ?_; go_simp; refine qT hK ?_; clear hK K)
 refine ogE ?_
 rw [vac15_eq]
 refine ogT ?_
 simp only [if_true]
 refine ogK ?_
 rw [vas10_eq]
 refine ogS ?_
 rw [vab1_eq]
 refine ogB ?_
 rw [var7_eq]
 refine ogR ?_
 simp only [vao7, Code.opsOf, var7, Code.piece, vaBody, Try.f23, Option.getD_some, List.size_toArray, List.length_cons, List.length_nil, Nat.reduceAdd, Nat.zero_add, List.range, List.range.loop]
 iterate 4 (refine oW fun dd K hK => ?_; go_simp; refine qT hK ?_; clear hK K)
 (refine oW fun dd K hK => ?_; go_simp; refine qL hK ?_; clear hK K)
 (refine oW fun dd K hK => ?_; go_simp; refine qA hK hU ?_; clear hK K)
 have hrow2 := hrow.alloc (.cells #[.int .i64 v] 2)
 have hcell := cell_one_new w (.int .i64 v) 2
 have hsz : (w.alloc (.cells #[.int .i64 v] 2)).heap.size = w.heap.size + 1 := by simp
 have hold : ∀ r, r < w.heap.size → (w.alloc (.cells #[.int .i64 v] 2)).heap[r]? = w.heap[r]? := fun r hr => heap_alloc_lt _ _ hr
 change Own _ _ _ _ _ (w.alloc (.cells #[.int .i64 v] 2))
 generalize w.alloc (.cells #[.int .i64 v] 2) = W at hrow2 hcell hsz hold ⊢
 obtain ⟨i0, hi0, hz0, hz1, hz2⟩ := info2
 refine own_opm (by decide) ?_
 refine opm_lift (S' := fun _ => false) (px := false) (ready0.shut false) (by simp) rfl rfl rfl (wf_F0 _) (fun d => ?_)
 rw [mask_F0]
 obtain ⟨l', u, hr, hown, hgrow, _⟩ := run_append_own (P := Try.prog) (W.at d) base 22 22 2 i0 _ 1 8 Try.underlying22 hi0 hz0 hz1 hz2 rfl (by decide) l k xs hrow2 ⟨w.heap.size, 0, none⟩ 1 1 [.int .i64 v] rfl hcell (fun q hq => by simp at hq; subst hq; rfl) (by unfold maxLen; omega) (by omega) (by show base ≤ W.heap.size; omega)
 refine ⟨l', u, run_append_op (.tmp 20) (.tmp 25) 22 rfl rfl rfl hr, fun w' hu hg hwf' => ?_⟩
 rw [mask_F0] at hu
 subst hu
 have hsz2 : W.heap.size ≤ u.heap.size := hgrow.size
 have hold2 : ∀ r, r < w.heap.size → some r ≠ Value.ownBlock l → u.heap[r]? = w.heap[r]? := fun r h1 h2 => (hgrow.block r (by show r < W.heap.size; omega) h2).trans (hold r h1)
 have hsz3 : w.heap.size ≤ u.heap.size := by omega
 have hty : ∀ {r : Nat} {cc : Array Value} {z : Nat × Nat}, w.heap[r]? = some (.cells cc 106 z) → u.heap[r]? = some (.cells cc 106 z) := fun hr => (hold2 _ (Array.getElem?_eq_some_iff.1 hr).1 (own_type hrow hr (by decide))).trans hr
 have hbn2 : BoxP u nx := by (rcases hbn with h1 | ⟨b1, c1, z1, h1, h2, h3⟩; exact .inl h1; exact .inr ⟨b1, c1, z1, h1, hty h2, h3⟩)
 have hcn2 : u.cell? ⟨b, 1, none⟩ = some (.pointer nx) := by simp [World.cell?, hty hbq]
 clear hrow2 hcell hsz hold hr hgrow hsz2 hg hwf' hz0 hz1 hz2 hi0
 walk_nrm
 (refine oW fun dd K hK => ?_; go_simp; refine qT hK ?_; clear hK K)
 refine ogE ?_
 refine ogI ?_
 rw [var6_eq]
 refine ogR ?_
 simp only [vao6, Code.opsOf, var6, Code.piece, vaBody, Try.f23, Option.getD_some, List.size_toArray, List.length_cons, List.length_nil, Nat.reduceAdd, Nat.zero_add, List.range, List.range.loop]
 iterate 3 (refine oW fun dd K hK => ?_; go_simp; refine qT hK ?_; clear hK K)
 refine oc callable52 #[.pointer (some ⟨b, 1, none⟩)] ?_
 refine own_load hbn2 hcn2 rfl ?_
 rw [Frame.finish_at]
 walk_nrm
 (refine oW fun dd K hK => ?_; go_simp; refine qT hK ?_; clear hK K)
 refine ogE ?_
 refine ogL ?_
 refine h _ l' _ hown hsz3 hold2 ?_
 exact ⟨rfl, rfl, rfl, trivial⟩
theorem va_2 {l : Value} {A : Array Value} (hA : Slots 28 A [(3, l), (4, .pointer none)]) {c : Frame} {cs : List Frame} {main : Bool} {Stop : Goroutine → World → Prop}
  (h : Own Try.prog main F Stop (G (c.finish l) cs) w) :
  Own Try.prog main F Stop (G ((Go.Conc.base 23).at ⟨A, []⟩ [.code vas8, .inLoop vas8, .inBlock 0, .code vas11]) (c :: cs)) w := by
 obtain ⟨hsz, h3, h4, _⟩ := hA
 obtain ⟨s, rfl⟩ := vaT_of hsz
 change s 3 = _ at h3
 change s 4 = _ at h4
 clear hsz
 simp only [vaT, h3, h4]
 clear h3 h4
 rw [vas8_eq]
 refine ogS ?_
 rw [vas9_eq]
 refine ogS ?_
 rw [var5_eq]
 refine ogR ?_
 simp only [vao5, Code.opsOf, var5, Code.piece, vaBody, Try.f23, Option.getD_some, List.size_toArray, List.length_cons, List.length_nil, Nat.reduceAdd, Nat.zero_add, List.range, List.range.loop]
 iterate 2 (refine oW fun dd K hK => ?_; go_simp; refine qT hK ?_; clear hK K)
 refine ogE ?_
 rw [vac15_eq]
 refine ogF ?_
 simp only [Bool.false_eq_true, if_false]
 refine own_go rfl (fun d => stepG_exit rfl) ?_
 rw [vas11_eq]
 refine ogS ?_
 rw [var8_eq]
 refine ogR ?_
 simp only [vao8, Code.opsOf, var8, Code.piece, vaBody, Try.f23, Option.getD_some, List.size_toArray, List.length_cons, List.length_nil, Nat.reduceAdd, Nat.zero_add, List.range, List.range.loop]
 iterate 2 (refine oW fun dd K hK => ?_; go_simp; refine qT hK ?_; clear hK K)
 refine ogE ?_
 refine ogX ?_
 refine own_go rfl (fun d => stepG_leave (fn := Try.f23) (v := l) rfl rfl Try.func23 (by simp [results, Try.f23]) (by simp [results, Try.f23, go_sem])) ?_
 exact h
end
noncomputable section
variable {F : Fz} {w : World} {qb : Nat} {s : QS}
theorem QU.boxPn (h : QU qb s w) {k : Nat} (hk : k < s.q.B.length) : BoxP w ((s.q.nx k).map fun n => ⟨s.bk n, 0, none⟩) := by
 cases e : s.q.nx k with
 | none => exact .inl rfl
 | some n => exact h.boxP (h.nxlt e)
theorem own_behind_loop (h : QU qb s w) {c : Frame} {cs : List Frame} {main : Bool} {Stop : Goroutine → World → Prop} {n : Nat} (hn : n < 10000000) (K : Own Try.prog main F Stop (G (c.finish (.int .i64 n)) cs) w) :
  ∀ (l : List Nat) (x : Option Nat) (k : Nat) (A : Array Value), Path s.q x l → k + l.length = n → Slots 23 A [(3, .int .i64 k), (4, s.nv x)] → Own Try.prog main F Stop (G ((Go.Conc.base 22).at ⟨A, []⟩ [.code bhs8, .inLoop bhs8, .inBlock 0, .code bhs11]) (c :: cs)) w := by
 intro l
 induction l with
 | nil =>
  intro x k A hP hk hA
  cases hP
  obtain rfl : k = n := by simpa using hk
  exact bh_2 hA K
 | cons j l ih =>
  intro x k A hP hk hA
  cases hP with
  | cons hj hP =>
   simp only [List.length_cons] at hk
   exact bh_1 (by omega) (h.boxPn hj) (h.nc hj) hA fun A2 hA2 => ih _ (k + 1) A2 hP (by omega) hA2
theorem own_behind (h : QU qb s w) {l : List Nat} (hP : Path s.q (s.q.nx s.q.tl) l) (hl : l.length < 10000000) {c : Frame} {cs : List Frame} {main : Bool} {Stop : Goroutine → World → Prop} (K : Own Try.prog main F Stop (G (c.finish (.int .i64 l.length)) cs) w) :
  Own Try.prog main F Stop (G (Frame.enter Try.prog 22 #[.pointer (some ⟨qb, 0, none⟩)] .normal) (c :: cs)) w :=
 bh_0 (h.boxP h.hd) h.hc (h.boxP h.tl) h.tc (h.boxPn h.tl) (h.nc h.tl) fun A hA => own_behind_loop h hl K l _ 0 A hP (by omega) hA
theorem own_values_loop {w0 : World} (h0 : QU qb s w0) {c : Frame} {cs : List Frame} {main : Bool} {Stop : Goroutine → World → Prop} {ls : List Nat} (hn : ls.length < 10000000)
  (K : ∀ w' lv, w0.heap.size ≤ w'.heap.size → (∀ r, r < w0.heap.size → w'.heap[r]? = w0.heap[r]?) → w'.ownsRow w0.heap.size 2 1 lv ls.length (ls.map fun k => .int .i64 (s.q.vl k)) → Own Try.prog main F0 Stop (G (c.finish lv) cs) w') :
  ∀ (l : List Nat) (x : Option Nat) (p : List Nat) (w : World) (lv : Value) (A : Array Value), Path s.q x l → p ++ l = ls → w0.heap.size ≤ w.heap.size → (∀ r, r < w0.heap.size → w.heap[r]? = w0.heap[r]?) → w.ownsRow w0.heap.size 2 1 lv p.length (p.map fun k => .int .i64 (s.q.vl k)) → Slots 28 A [(3, lv), (4, s.nv x)] →
   Own Try.prog main F0 Stop (G ((Go.Conc.base 23).at ⟨A, []⟩ [.code vas8, .inLoop vas8, .inBlock 0, .code vas11]) (c :: cs)) w := by
 intro l
 induction l with
 | nil =>
  intro x p w lv A hP hp hsz hold hrow hA
  cases hP
  obtain rfl : p = ls := by simpa using hp
  exact va_2 hA (K w lv hsz hold hrow)
 | cons j l ih =>
  intro x p w lv A hP hp hsz hold hrow hA
  cases hP with
  | cons hj hP =>
   have h : QU qb s w := h0.same fun r hr => hold r (h0.low hr)
   have hlen : p.length < 10000000 := by rw [← hp] at hn; simp at hn; omega
   refine va_1 hlen hsz hrow (h.boxPn hj) (h.box hj) hA fun w' l' A2 g1 g2 g3 hA2 => ih _ (p ++ [j]) w' l' A2 hP (by simp [hp]) (by omega) (fun r hr => (g3 r (by omega) fun e => by have := (hrow.lt r e.symm).1; omega).trans (hold r hr)) ?_ hA2
   simpa using g1
theorem own_values (h : QU qb s w) {l : List Nat} (hP : Path s.q (s.q.nx s.q.hd) l) (hl : l.length < 10000000) {c : Frame} {cs : List Frame} {main : Bool} {Stop : Goroutine → World → Prop}
  (K : ∀ w' lv, w.heap.size ≤ w'.heap.size → (∀ r, r < w.heap.size → w'.heap[r]? = w.heap[r]?) → w'.ownsRow w.heap.size 2 1 lv l.length (l.map fun k => .int .i64 (s.q.vl k)) → Own Try.prog main F0 Stop (G (c.finish lv) cs) w') :
  Own Try.prog main F0 Stop (G (Frame.enter Try.prog 23 #[.pointer (some ⟨qb, 0, none⟩)] .normal) (c :: cs)) w :=
 va_0 (h.boxP h.hd) h.hc (h.boxP h.hd) h.hc (h.boxPn h.hd) (h.nc h.hd) fun A hA => own_values_loop h hl K l _ [] w _ A hP rfl (Nat.le_refl _) (fun _ _ => rfl) (World.ownsRow_nil _ _ _ _) hA
end
noncomputable section
variable {F : Fz} {w : World}
def staBody : Code := Try.f39.body.getD .skip
def stas0 : Code := Code.piece [] staBody
def star0 : Code := Code.piece [true] staBody
def stao0 : Array Oper := Code.opsOf star0
def stas1 : Code := Code.piece [false] staBody
def star1 : Code := Code.piece [false, true] staBody
def stao1 : Array Oper := Code.opsOf star1
theorem stas0_eq : stas0 = .seq star0 stas1 := by kernel_rfl
theorem star0_eq : star0 = .region 0 stao0 false := by kernel_rfl
theorem stas1_eq : stas1 = .seq star1 .ret := by kernel_rfl
theorem star1_eq : star1 = .region 1 stao1 false := by kernel_rfl
theorem enter_sta (args : Array Value) : Frame.enter Try.prog 39 args .normal = (Go.Conc.base 39).at { tmps := args ++ Array.replicate (9 - args.size) undef, defers := [] } [.code stas0] := enter_at args Try.func39 rfl
theorem callable39 : Callable 39 := callable Try.func39 rfl rfl
def staT (s : Nat → Value) : Array Value := #[s 0, s 1, s 2, s 3, s 4, s 5, s 6, s 7, s 8]
theorem staT_of {A : Array Value} (h : A.size = 9) : ∃ s, A = staT s := by
 obtain ⟨s, hs, _⟩ := arr_lit A h
 exact ⟨s, hs⟩
theorem st_0 {qb : Nat} {cs : List Frame} {main : Bool} {Stop : Goroutine → World → Prop}
  (h : ∀ A, Slots 9 A [(0, .pointer (some ⟨qb, 0, none⟩))] → Own Try.prog main F Stop (G (Frame.enter Try.prog 22 #[.pointer (some ⟨qb, 0, none⟩)] .normal) (((Go.Conc.base 39).at ⟨A, []⟩ [.inRegion stao1 [1, 2, 3, 4, 5, 6], .code .ret]) :: cs)) w) :
  Own Try.prog main F Stop (G (Frame.enter Try.prog 39 #[.pointer (some ⟨qb, 0, none⟩)] .normal) cs) w := by
 rw [enter_sta]
 walk_nrm
 rw [stas0_eq]
 refine ogS ?_
 rw [star0_eq]
 refine ogR ?_
 simp only [stao0, Code.opsOf, star0, Code.piece, staBody, Try.f39, Option.getD_some, List.size_toArray, List.length_cons, List.length_nil, Nat.reduceAdd, Nat.zero_add, List.range, List.range.loop]
 (refine oW fun dd K hK => ?_; go_simp; refine qT hK ?_; clear hK K)
 refine ogE ?_
 rw [stas1_eq]
 refine ogS ?_
 rw [star1_eq]
 refine ogR ?_
 simp only [stao1, Code.opsOf, star1, Code.piece, staBody, Try.f39, Option.getD_some, List.size_toArray, List.length_cons, List.length_nil, Nat.reduceAdd, Nat.zero_add, List.range, List.range.loop]
 (refine oW fun dd K hK => ?_; go_simp; refine qT hK ?_; clear hK K)
 refine oc callable22 #[.pointer (some ⟨qb, 0, none⟩)] ?_
 refine h _ ?_
 exact ⟨rfl, rfl, trivial⟩
theorem st_1 {n : Nat} (hU : Under F n) (hn : n ≤ w.heap.size) {qb : Nat} {bn : Nat} {A : Array Value} (hA : Slots 9 A [(0, .pointer (some ⟨qb, 0, none⟩))]) {cs : List Frame} {main : Bool} {Stop : Goroutine → World → Prop}
  (h : ∀ A, Slots 9 A [(5, .slice (some ⟨w.heap.size, 0, none⟩) 1 1)] → Own Try.prog main F Stop (G (Frame.enter Try.prog 23 #[.pointer (some ⟨qb, 0, none⟩)] .normal) (((Go.Conc.base 39).at ⟨A, []⟩ [.inRegion stao1 [4, 5, 6], .code .ret]) :: cs)) (w.alloc (.cells #[.int .i64 bn] 2))) :
  Own Try.prog main F Stop (G (((Go.Conc.base 39).at ⟨A, []⟩ [.inRegion stao1 [1, 2, 3, 4, 5, 6], .code .ret]).finish (.int .i64 bn)) cs) w := by
 obtain ⟨hsz, h0, _⟩ := hA
 obtain ⟨s, rfl⟩ := staT_of hsz
 change s 0 = _ at h0
 clear hsz
 simp only [staT, h0]
 clear h0
 rw [Frame.finish_at]
 simp only [stao1, Code.opsOf, star1, Code.piece, staBody, Try.f39, Option.getD_some, List.size_toArray, List.length_cons, List.length_nil, Nat.reduceAdd, Nat.zero_add, List.range, List.range.loop]
 walk_nrm
 (refine oW fun dd K hK => ?_; go_simp; refine qA hK hU ?_; clear hK K)
 (refine oW fun dd K hK => ?_; go_simp; refine qT hK ?_; clear hK K)
 refine oc callable23 #[.pointer (some ⟨qb, 0, none⟩)] ?_
 refine h _ ?_
 exact ⟨rfl, rfl, trivial⟩
end
noncomputable section
theorem run_append_room_nil {P : Program} {w : World} (t ty e : TypeId) (i : TypeInfo) (ht : P.underlying t = some (.slice e)) (hi : P.info? e = some i)
  (g sLen sCap : Nat) (cur : Array Value) (hg : w.heap[g]? = some (.cells cur e (0, 0))) (hroom : sLen ≤ sCap) (hfit : sLen * i.size ≤ cur.size) :
  ∃ w', (Builtin.append_ #[t, t] ty #[.slice (some ⟨g, 0, none⟩) sLen sCap, .slice none 0 0]).run P w = .ok (.slice (some ⟨g, 0, none⟩) sLen sCap) w' ∧ w' = w.setRow g (cur.toList.take (sLen * i.size) ++ [] ++ cur.toList.drop (sLen * i.size + 0)).toArray := by
 have hf := run_firstCells_none (P := P) w i.size 0 0 0
 have hst := run_storeCells_at P g (sLen * i.size) e [] 0 cur w hg (by simpa using hfit) (fun u hu => by cases hu)
 simp only [Nat.add_zero] at hst
 refine ⟨_, ?_, rfl⟩
 simp [Builtin.append_, run_underlying ht, sizeOf, typeInfo, hi, Builtin.lenOf, hroom, hf, Addr.add_lit, hst]
end
noncomputable section
variable {w : World}
theorem append_one_row {base ab m : Nat} {x : Value} {lv : Value} {xs : List Value} (hb : base ≤ w.heap.size) (h1 : w.ownsRow base 2 1 (.slice (some ⟨ab, 0, none⟩) 1 1) 1 [x]) (h2 : w.ownsRow base 2 1 lv m xs) (hx : ∀ u ∈ xs, u.oneCell' = true) (hm : m < 10000000) :
  ∃ v' w', (Builtin.append_ #[22, 22] 22 #[.slice (some ⟨ab, 0, none⟩) 1 1, lv]).run Try.prog w = .ok v' w' ∧ w'.ownsRow base 2 1 v' (1 + m) ([x] ++ xs) ∧ w.heap.size ≤ w'.heap.size ∧ ∀ r, r < w.heap.size → r ≠ ab → w'.heap[r]? = w.heap[r]? := by
 obtain ⟨i0, hi0, hz0, hz1, hz2⟩ := info2
 rcases h2.2 with ⟨rfl, rfl⟩ | ⟨g, cap, cur, rfl, _, h3, h4, h5, h6, h7⟩
 ·obtain rfl : xs = [] := List.length_eq_zero_iff.1 (by have := h2.1; omega)
  rcases h1.2 with ⟨h, _⟩ | ⟨g, cap, cur, h, h0, h3, h4, h5, h6, h7⟩
  ·cases h
  ·cases h
   obtain ⟨w', hr, rfl⟩ := run_append_room_nil (P := Try.prog) 22 22 2 i0 Try.underlying22 hi0 ab 1 1 cur h3 (Nat.le_refl _) (by rw [hz1]; omega)
   have e : (cur.toList.take (1 * i0.size) ++ [] ++ cur.toList.drop (1 * i0.size + 0)).toArray = cur := by
    rw [List.append_nil, Nat.add_zero, List.take_append_drop]
   rw [e] at hr
   have hh : (w.setRow ab cur).heap = w.heap := by
    apply Array.ext_getElem?
    intro r
    simp only [World.setRow, Array.getElem?_modify]
    by_cases e1 : ab = r
    ·subst e1
     rw [if_pos rfl, h3]
     rfl
    ·rw [if_neg e1]
   refine ⟨_, _, hr, ?_, by rw [hh]; exact Nat.le_refl _, fun r _ _ => by rw [hh]⟩
   have : (w.setRow ab cur).ownsRow base 2 1 (.slice (some ⟨ab, 0, none⟩) 1 1) 1 [x] := ownsRow_same2 h1 fun b _ _ => by rw [hh]
   simpa using this
 ·obtain ⟨v', w', hr, h8, h9, _⟩ := run_append_own (P := Try.prog) w base 22 22 2 i0 _ 1 8 Try.underlying22 hi0 hz0 hz1 hz2 rfl (by decide) _ 1 [x] h1 ⟨g, 0, none⟩ m cap xs (by rw [h2.1]) (h2.cells rfl) hx (by unfold maxLen; omega) (by omega) hb
  exact ⟨v', w', hr, h8, h9.size, fun r hr1 hr2 => h9.block r hr1 (by simpa [Value.ownBlock] using hr2)⟩
theorem st_2 {base ab m : Nat} {x lv : Value} {xs : List Value} (hb : base ≤ w.heap.size) (h1 : w.ownsRow base 2 1 (.slice (some ⟨ab, 0, none⟩) 1 1) 1 [x]) (h2 : w.ownsRow base 2 1 lv m xs) (hx : ∀ u ∈ xs, u.oneCell' = true) (hm : m < 10000000) {A : Array Value} (hA : Slots 9 A [(5, .slice (some ⟨ab, 0, none⟩) 1 1)]) {c : Frame} {cs : List Frame} {main : Bool} {Stop : Goroutine → World → Prop}
  (h : ∀ w' l', w'.ownsRow base 2 1 l' (1 + m) ([x] ++ xs) → w.heap.size ≤ w'.heap.size → (∀ r, r < w.heap.size → r ≠ ab → w'.heap[r]? = w.heap[r]?) → Own Try.prog main F0 Stop (G (c.finish l') cs) w') :
  Own Try.prog main F0 Stop (G (((Go.Conc.base 39).at ⟨A, []⟩ [.inRegion stao1 [4, 5, 6], .code .ret]).finish lv) (c :: cs)) w := by
 obtain ⟨hsz, h5, _⟩ := hA
 obtain ⟨s, rfl⟩ := staT_of hsz
 change s 5 = _ at h5
 clear hsz
 simp only [staT, h5]
 clear h5
 rw [Frame.finish_at]
 simp only [stao1, Code.opsOf, star1, Code.piece, staBody, Try.f39, Option.getD_some, List.size_toArray, List.length_cons, List.length_nil, Nat.reduceAdd, Nat.zero_add, List.range, List.range.loop]
 walk_nrm
 refine own_opm (by decide) ?_
 refine opm_lift (S' := fun _ => false) (px := false) (ready0.shut false) (by simp) rfl rfl rfl (wf_F0 _) (fun d => ?_)
 rw [mask_F0]
 obtain ⟨l', u, hr, hown, hsz2, hold2⟩ := append_one_row (w := w.at d) hb (ownsRow_same2 h1 fun _ _ _ => rfl) (ownsRow_same2 h2 fun _ _ _ => rfl) hx hm
 refine ⟨l', u, run_append_op (.tmp 5) (.tmp 7) 22 rfl rfl rfl hr, fun w' hu hg hwf' => ?_⟩
 rw [mask_F0] at hu
 subst hu
 walk_nrm
 (refine oW fun dd K hK => ?_; go_simp; refine qT hK ?_; clear hK K)
 refine ogE ?_
 refine ogX ?_
 refine own_go rfl (fun d => stepG_leave (fn := Try.f39) (v := l') rfl rfl Try.func39 (by simp [results, Try.f39]) (by simp [results, Try.f39, go_sem])) ?_
 exact h u l' hown hsz2 hold2
end
noncomputable section
variable {w : World} {qb : Nat} {s : QS}
theorem own_state (h : QU qb s w) {lb lv : List Nat} (hPb : Path s.q (s.q.nx s.q.tl) lb) (hPv : Path s.q (s.q.nx s.q.hd) lv) (hlb : lb.length < 10000000) (hlv : lv.length < 10000000) {c : Frame} {cs : List Frame} {main : Bool} {Stop : Goroutine → World → Prop}
  (K : ∀ w' l', w'.ownsRow w.heap.size 2 1 l' (1 + lv.length) (.int .i64 lb.length :: lv.map fun k => .int .i64 (s.q.vl k)) → w.heap.size ≤ w'.heap.size → (∀ r, r < w.heap.size → w'.heap[r]? = w.heap[r]?) → Own Try.prog main F0 Stop (G (c.finish l') cs) w') :
  Own Try.prog main F0 Stop (G (Frame.enter Try.prog 39 #[.pointer (some ⟨qb, 0, none⟩)] .normal) (c :: cs)) w := by
 refine st_0 fun A hA => own_behind h hPb hlb ?_
 refine st_1 under_F0 (Nat.zero_le _) hA fun A2 hA2 => ?_
 have e1 : ∀ r, r < w.heap.size → (w.alloc (.cells #[.int .i64 lb.length] 2)).heap[r]? = w.heap[r]? := fun r hr => heap_alloc_lt _ _ hr
 have e2 := heap_alloc_new w (.cells #[.int .i64 lb.length] 2)
 have e3 : (w.alloc (.cells #[.int .i64 lb.length] 2)).heap.size = w.heap.size + 1 := by simp
 generalize w.alloc (.cells #[.int .i64 lb.length] 2) = W at e1 e2 e3 ⊢
 have hW : QU qb s W := h.same fun r hr => e1 r (h.low hr)
 refine own_values hW hPv hlv fun w' lv' g1 g2 g3 => ?_
 have hr1 : w'.ownsRow w.heap.size 2 1 (.slice (some ⟨w.heap.size, 0, none⟩) 1 1) 1 [.int .i64 lb.length] :=
  ⟨rfl, .inr ⟨w.heap.size, 1, _, rfl, Nat.le_refl _, (g2 _ (by omega)).trans e2, Nat.le_refl _, by decide, rfl, rfl⟩⟩
 exact st_2 (by omega) hr1 (ownsRow_mono_base (by omega) g3) (fun u hu => by
  obtain ⟨k, _, rfl⟩ := List.mem_map.1 hu; rfl) hlv hA2 fun w2 l' k1 k2 k3 => K w2 l' k1 (by omega) fun r hr => ((k3 r (by omega) (by omega)).trans (g2 r (by omega))).trans (e1 r hr)
end
noncomputable section
variable {F : Fz} {w : World}
def plBody : Code := Try.f14.body.getD .skip
def pls0 : Code := Code.piece [] plBody
def plr0 : Code := Code.piece [true] plBody
def plo0 : Array Oper := Code.opsOf plr0
def pls1 : Code := Code.piece [false] plBody
def plr1 : Code := Code.piece [false, true] plBody
def plo1 : Array Oper := Code.opsOf plr1
def pls2 : Code := Code.piece [false, false] plBody
def plr2 : Code := Code.piece [false, false, true] plBody
def plo2 : Array Oper := Code.opsOf plr2
def pls3 : Code := Code.piece [false, false, false] plBody
def plr3 : Code := Code.piece [false, false, false, true] plBody
def plo3 : Array Oper := Code.opsOf plr3
def pls4 : Code := Code.piece [false, false, false, false] plBody
def plr4 : Code := Code.piece [false, false, false, false, true] plBody
def plo4 : Array Oper := Code.opsOf plr4
theorem pls0_eq : pls0 = .seq plr0 pls1 := by kernel_rfl
theorem plr0_eq : plr0 = .region 0 plo0 false := by kernel_rfl
theorem pls1_eq : pls1 = .seq plr1 pls2 := by kernel_rfl
theorem plr1_eq : plr1 = .region 1 plo1 false := by kernel_rfl
theorem pls2_eq : pls2 = .seq plr2 pls3 := by kernel_rfl
theorem plr2_eq : plr2 = .region 2 plo2 false := by kernel_rfl
theorem pls3_eq : pls3 = .seq plr3 pls4 := by kernel_rfl
theorem plr3_eq : plr3 = .region 3 plo3 false := by kernel_rfl
theorem pls4_eq : pls4 = .seq plr4 .ret := by kernel_rfl
theorem plr4_eq : plr4 = .region 4 plo4 false := by kernel_rfl
theorem enter_pl (args : Array Value) : Frame.enter Try.prog 14 args .normal = (Go.Conc.base 14).at { tmps := args ++ Array.replicate (23 - args.size) undef, defers := [] } [.code pls0] := enter_at args Try.func14 rfl
theorem callable14 : Callable 14 := callable Try.func14 rfl rfl
def plT (s : Nat → Value) : Array Value := #[s 0, s 1, s 2, s 3, s 4, s 5, s 6, s 7, s 8, s 9, s 10, s 11, s 12, s 13, s 14, s 15, s 16, s 17, s 18, s 19, s 20, s 21, s 22]
theorem plT_of {A : Array Value} (h : A.size = 23) : ∃ s, A = plT s := by
 obtain ⟨s, hs, _⟩ := arr_lit A h
 exact ⟨s, hs⟩
theorem pl_0 {n : Nat} (hU : Under F n) (hn : n ≤ w.heap.size) {va ta sa : Option Addr} {vl vc tl tc sl sc : Nat} {mo : Int} {cs : List Frame} {main : Bool} {Stop : Goroutine → World → Prop}
  (h : ∀ A, Slots 23 A [(0, .slice va vl vc), (1, .slice ta tl tc), (2, .slice sa sl sc), (3, .int .i64 mo), (8, .pointer (some ⟨w.heap.size, 0, none⟩))] → Own Try.prog main F Stop (G (Frame.enter Try.prog 16 #[.slice va vl vc] .normal) (((Go.Conc.base 14).at ⟨A, []⟩ [.inRegion plo1 [1, 2], .code pls2]) :: cs)) (w.alloc (.cells #[.slice none 0 0, .slice none 0 0, .slice none 0 0, .bool false] 29))) :
  Own Try.prog main F Stop (G (Frame.enter Try.prog 14 #[.slice va vl vc, .slice ta tl tc, .slice sa sl sc, .int .i64 mo] .normal) cs) w := by
 rw [enter_pl]
 walk_nrm
 rw [pls0_eq]
 refine ogS ?_
 rw [plr0_eq]
 refine ogR ?_
 simp only [plo0, Code.opsOf, plr0, Code.piece, plBody, Try.f14, Option.getD_some, List.size_toArray, List.length_cons, List.length_nil, Nat.reduceAdd, Nat.zero_add, List.range, List.range.loop]
 (refine oW fun dd K hK => ?_; go_simp; refine qA hK hU ?_; clear hK K)
 refine ogE ?_
 rw [pls1_eq]
 refine ogS ?_
 rw [plr1_eq]
 refine ogR ?_
 simp only [plo1, Code.opsOf, plr1, Code.piece, plBody, Try.f14, Option.getD_some, List.size_toArray, List.length_cons, List.length_nil, Nat.reduceAdd, Nat.zero_add, List.range, List.range.loop]
 (refine oW fun dd K hK => ?_; go_simp; refine qT hK ?_; clear hK K)
 refine oc callable16 #[.slice va vl vc] ?_
 refine h _ ?_
 exact ⟨rfl, rfl, rfl, rfl, rfl, rfl, trivial⟩
theorem pl_1 {qb rb : Nat} {va ta sa : Option Addr} {vl vc tl tc sl sc : Nat} {mo : Int} {A : Array Value} (hA : Slots 23 A [(0, .slice va vl vc), (1, .slice ta tl tc), (2, .slice sa sl sc), (3, .int .i64 mo), (8, .pointer (some ⟨rb, 0, none⟩))]) {cs : List Frame} {main : Bool} {Stop : Goroutine → World → Prop}
  (h : ∀ A, Slots 23 A [(8, .pointer (some ⟨rb, 0, none⟩)), (9, .pointer (some ⟨qb, 0, none⟩))] → Own Try.prog main F Stop (G (Frame.enter Try.prog 37 #[.slice ta tl tc, .func (.func 38) #[.pointer (some ⟨qb, 0, none⟩)] #[], .slice sa sl sc, .int .i64 mo] .normal) (((Go.Conc.base 14).at ⟨A, []⟩ [.inRegion plo2 [5, 6, 7], .code pls3]) :: cs)) w) :
  Own Try.prog main F Stop (G (((Go.Conc.base 14).at ⟨A, []⟩ [.inRegion plo1 [1, 2], .code pls2]).finish (.pointer (some ⟨qb, 0, none⟩))) cs) w := by
 obtain ⟨hsz, h0, h1, h2, h3, h8, _⟩ := hA
 obtain ⟨s, rfl⟩ := plT_of hsz
 change s 0 = _ at h0
 change s 1 = _ at h1
 change s 2 = _ at h2
 change s 3 = _ at h3
 change s 8 = _ at h8
 clear hsz
 simp only [plT, h0, h1, h2, h3, h8]
 clear h0 h1 h2 h3 h8
 rw [Frame.finish_at]
 simp only [plo1, Code.opsOf, plr1, Code.piece, plBody, Try.f14, Option.getD_some, List.size_toArray, List.length_cons, List.length_nil, Nat.reduceAdd, Nat.zero_add, List.range, List.range.loop]
 walk_nrm
 (refine oW fun dd K hK => ?_; go_simp; refine qT hK ?_; clear hK K)
 refine ogE ?_
 rw [pls2_eq]
 refine ogS ?_
 rw [plr2_eq]
 refine ogR ?_
 simp only [plo2, Code.opsOf, plr2, Code.piece, plBody, Try.f14, Option.getD_some, List.size_toArray, List.length_cons, List.length_nil, Nat.reduceAdd, Nat.zero_add, List.range, List.range.loop]
 iterate 5 (refine oW fun dd K hK => ?_; go_simp; refine qT hK ?_; clear hK K)
 refine oc callable37 #[.slice ta tl tc, .func (.func 38) #[.pointer (some ⟨qb, 0, none⟩)] #[], .slice sa sl sc, .int .i64 mo] ?_
 refine h _ ?_
 exact ⟨rfl, rfl, rfl, trivial⟩
end
noncomputable section
variable {F : Fz} {w : World}
theorem tr_new (X : World) (x y z u x' y' z' u' : Value) : ((((X.alloc (.cells #[x, y, z, u] 29)).setCell ⟨X.heap.size, 0, none⟩ x').setCell ⟨X.heap.size, 1, none⟩ y').setCell ⟨X.heap.size, 2, none⟩ z').setCell ⟨X.heap.size, 3, none⟩ u' = X.alloc (.cells #[x', y', z', u'] 29) := by go_simp
theorem pl_2 {n : Nat} (hU : Under F n) (hn : n ≤ w.heap.size) {qb rb : Nat} {aa oa : Option Addr} {al ac ol oc : Nat} {st : Bool} {A : Array Value} (hA : Slots 23 A [(8, .pointer (some ⟨rb, 0, none⟩)), (9, .pointer (some ⟨qb, 0, none⟩))]) {cs : List Frame} {main : Bool} {Stop : Goroutine → World → Prop}
  (h : ∀ A, Slots 23 A [(8, .pointer (some ⟨rb, 0, none⟩)), (10, .pointer (some ⟨w.heap.size, 0, none⟩))] → Own Try.prog main F Stop (G (Frame.enter Try.prog 39 #[.pointer (some ⟨qb, 0, none⟩)] .normal) (((Go.Conc.base 14).at ⟨A, []⟩ [.inRegion plo3 [1, 2, 3], .code pls4]) :: cs)) (w.alloc (.cells #[.slice aa al ac, .slice oa ol oc, .slice none 0 0, .bool st] 29))) :
  Own Try.prog main F Stop (G (((Go.Conc.base 14).at ⟨A, []⟩ [.inRegion plo2 [5, 6, 7], .code pls3]).finish (.agg #[.slice aa al ac, .slice oa ol oc, .slice none 0 0, .bool st])) cs) w := by
 obtain ⟨hsz, h8, h9, _⟩ := hA
 obtain ⟨s, rfl⟩ := plT_of hsz
 change s 8 = _ at h8
 change s 9 = _ at h9
 clear hsz
 simp only [plT, h8, h9]
 clear h8 h9
 rw [Frame.finish_at]
 simp only [plo2, Code.opsOf, plr2, Code.piece, plBody, Try.f14, Option.getD_some, List.size_toArray, List.length_cons, List.length_nil, Nat.reduceAdd, Nat.zero_add, List.range, List.range.loop]
 walk_nrm
 (refine oW fun dd K hK => ?_; go_simp; refine qA hK hU ?_; clear hK K)
 (refine oW fun dd K hK => ?_; go_simp; refine hK _ _ ⟨⟨⟨0, grew4 (fun k => not_held hU (show n ≤ w.heap.size by omega)) _ _ _ _⟩, fun e he => by (have hm := mem_listed he; clear he hK; simp [go_sem, storedEv] at hm; rcases hm with rfl | rfl | rfl | rfl <;> exact evT_write _ _ ((fun k => not_held hU (show n ≤ w.heap.size by omega)) _))⟩, ?_⟩; clear hK K; simp only [setCell_at']; refine Own.at ?_ dd)
 have e1 := tr_new w (.slice none 0 0) (.slice none 0 0) (.slice none 0 0) (.bool false) (.slice aa al ac) (.slice oa ol oc) (.slice none 0 0) (.bool st)
 rw [e1]
 clear e1
 refine ogE ?_
 rw [pls3_eq]
 refine ogS ?_
 rw [plr3_eq]
 refine ogR ?_
 simp only [plo3, Code.opsOf, plr3, Code.piece, plBody, Try.f14, Option.getD_some, List.size_toArray, List.length_cons, List.length_nil, Nat.reduceAdd, Nat.zero_add, List.range, List.range.loop]
 (refine oW fun dd K hK => ?_; go_simp; refine qT hK ?_; clear hK K)
 refine Go.Proofs.Ytcejbandeikdjaa.oc callable39 #[.pointer (some ⟨qb, 0, none⟩)] ?_
 refine h _ ?_
 exact ⟨rfl, rfl, rfl, trivial⟩
end
noncomputable section
variable {F : Fz} {w : World}
theorem pl_3 {rb tb : Nat} {aa oa : Option Addr} {al ac ol oc xl xc : Nat} {xa : Option Addr} {st : Bool} {y0 y1 y2 y3 : Value} (hne : rb ≠ tb) (hR : TrAt w rb y0 y1 y2 y3) (hT : TrAt w tb (.slice aa al ac) (.slice oa ol oc) (.slice none 0 0) (.bool st)) (hnr : ∀ k, ¬ held F ⟨rb, k, none⟩) (hnt : ∀ k, ¬ held F ⟨tb, k, none⟩) {A : Array Value} (hA : Slots 23 A [(8, .pointer (some ⟨rb, 0, none⟩)), (10, .pointer (some ⟨tb, 0, none⟩))]) {c : Frame} {cs : List Frame} {main : Bool} {Stop : Goroutine → World → Prop}
  (h : Own Try.prog main F Stop (G (c.finish (.agg #[.slice aa al ac, .slice oa ol oc, .slice xa xl xc, .bool st])) cs) (trW (w.setCell ⟨tb, 2, none⟩ (.slice xa xl xc)) rb (.slice aa al ac) (.slice oa ol oc) (.slice xa xl xc) (.bool st))) :
  Own Try.prog main F Stop (G (((Go.Conc.base 14).at ⟨A, []⟩ [.inRegion plo3 [1, 2, 3], .code pls4]).finish (.slice xa xl xc)) (c :: cs)) w := by
 obtain ⟨hsz, h8, h10, _⟩ := hA
 obtain ⟨s, rfl⟩ := plT_of hsz
 change s 8 = _ at h8
 change s 10 = _ at h10
 clear hsz
 simp only [plT, h8, h10]
 clear h8 h10
 rw [Frame.finish_at]
 simp only [plo3, Code.opsOf, plr3, Code.piece, plBody, Try.f14, Option.getD_some, List.size_toArray, List.length_cons, List.length_nil, Nat.reduceAdd, Nat.zero_add, List.range, List.range.loop]
 walk_nrm
 (refine oW fun dd K hK => ?_; go_simp; refine qT hK ?_; clear hK K)
 (refine oW fun dd K hK => ?_; have hc2 := (hT.at dd).c2; have hz0 := (hT.at dd).z; go_simp; refine hK _ _ ⟨⟨⟨0, grew_setCell rfl (hnt 2) _⟩, fun e he => by (have hm := mem_listed he; clear he hK; simp [go_sem, storedEv, hc2, hz0] at hm; subst hm; exact evT_write _ _ (hnt 2))⟩, ?_⟩; clear hK K hc2 hz0; rw [setCell_at']; refine Own.at ?_ dd)
 have hT2 : TrAt (w.setCell ⟨tb, 2, none⟩ (.slice xa xl xc)) tb (.slice aa al ac) (.slice oa ol oc) (.slice xa xl xc) (.bool st) := ⟨by rw [heap_setCell_eq hT.o]; rfl⟩
 have hR2 : TrAt (w.setCell ⟨tb, 2, none⟩ (.slice xa xl xc)) rb y0 y1 y2 y3 := ⟨(heap_setCell_ne _ _ _ hne).trans hR.o⟩
 generalize w.setCell ⟨tb, 2, none⟩ (.slice xa xl xc) = W at hT2 hR2 h ⊢
 refine ogE ?_
 rw [pls4_eq]
 refine ogS ?_
 rw [plr4_eq]
 refine ogR ?_
 simp only [plo4, Code.opsOf, plr4, Code.piece, plBody, Try.f14, Option.getD_some, List.size_toArray, List.length_cons, List.length_nil, Nat.reduceAdd, Nat.zero_add, List.range, List.range.loop]
 (refine oW fun dd K hK => ?_; have hc0 := (hT2.at dd).c0; have hc1 := (hT2.at dd).c1; have hc2 := (hT2.at dd).c2; have hc3 := (hT2.at dd).c3; have hz0 := (hT2.at dd).z; go_simp; refine hK _ _ ⟨⟨⟨0, Grew.refl _ _⟩, fun e he => by (have hm := mem_listed he; clear he hK; simp [go_sem, hc0, hc1, hc2, hc3, hz0] at hm; rcases hm with rfl | rfl | rfl | rfl <;> exact evT_read _ _)⟩, Own.at ?_ dd⟩; clear hK K hc0 hc1 hc2 hc3 hz0)
 (refine oW fun dd K hK => ?_; have hc0 := (hR2.at dd).c0; have hc1 := (hR2.at dd).c1; have hc2 := (hR2.at dd).c2; have hc3 := (hR2.at dd).c3; have hz0 := (hR2.at dd).z; go_simp; refine hK _ _ ⟨⟨⟨0, grew4 hnr _ _ _ _⟩, fun e he => by (have hm := mem_listed he; clear he hK; simp [go_sem, storedEv, hc0, hc1, hc2, hc3, hz0] at hm; rcases hm with rfl | rfl | rfl | rfl <;> exact evT_write _ _ (hnr _))⟩, ?_⟩; clear hK K hc0 hc1 hc2 hc3 hz0; simp only [setCell_at']; refine Own.at ?_ dd)
 refine ogE ?_
 refine ogX ?_
 have hT3 := hR2.put (.slice aa al ac) (.slice oa ol oc) (.slice xa xl xc) (.bool st)
 change Own _ _ _ _ _ (trW W rb (.slice aa al ac) (.slice oa ol oc) (.slice xa xl xc) (.bool st))
 generalize (trW W rb (.slice aa al ac) (.slice oa ol oc) (.slice xa xl xc) (.bool st)) = V at hT3 h ⊢
 have hc0 := hT3.c0
 have hc1 := hT3.c1
 have hc2 := hT3.c2
 have hc3 := hT3.c3
 have hz0 := hT3.z
 refine own_leave (fn := Try.f14) (v := .agg #[.slice aa al ac, .slice oa ol oc, .slice xa xl xc, .bool st]) rfl rfl Try.func14 (fun d => by simp [results, Try.f14, go_sem, hc0, hc1, hc2, hc3, hz0]) (fun d e he => by simp [results, Try.f14, go_sem, hc0, hc1, hc2, hc3, hz0] at he; rcases he with rfl | rfl | rfl | rfl <;> exact evT_read _ _) ?_
 exact h
end
noncomputable section
variable {An : Anchor} {w w' : World}
theorem OpsIn.later {N N' : Nat → Prop} {n tb o tl : Nat} {ta : Option Addr} {oa : Nat → Option Addr} {ol oc : Nat → Nat} {ops : Nat → List Op4} {S : List Int} {sa : Option Addr} (h : OpsIn w N n tb o tl ta oa ol oc ops S sa) (hs : w.heap.size ≤ w'.heap.size) (hold : ∀ r, r < w.heap.size → w'.heap[r]? = w.heap[r]?) (hN : ∀ r, N' r → w.heap.size ≤ r) : OpsIn w' N' n tb o tl ta oa ol oc ops S sa := by
 have hc : ∀ {a : Addr} {v : Value}, w.cell? a = some v → w'.cell? a = some v ∧ w'.frozen? a = w.frozen? a := fun {a v} h => by
  obtain ⟨c, e, z, ho⟩ := cell_block h
  have e1 := hold _ (Array.getElem?_eq_some_iff.1 ho).1
  exact ⟨by rw [← h]; unfold World.cell?; simp only [e1], by unfold World.frozen?; simp only [e1]⟩
 refine ⟨h.hn, h.hta, fun hp => by have := h.htb hp; omega, fun j hj => ?_, h.hlen, fun j hj k x hx => ?_, h.hsl, fun hp => ?_⟩
 ·obtain ⟨h1, h2, h3⟩ := h.hth j hj
  exact ⟨(hc h1).1, (hc h1).2.trans h2, h3⟩
 ·obtain ⟨opb, oo, h1, h2, f0, f1, f2, f3, g0, g1, g2, g3⟩ := h.hop j hj k x hx
  obtain ⟨c, e, z, ho⟩ := cell_block f0
  have hlt := (Array.getElem?_eq_some_iff.1 ho).1
  exact ⟨opb, oo, h1, fun hn => by have := hN _ hn; simp only at hlt; omega, (hc f0).1, (hc f1).1, (hc f2).1, (hc f3).1, (hc f0).2.trans g0, (hc f1).2.trans g1, (hc f2).2.trans g2, (hc f3).2.trans g3⟩
 ·obtain ⟨sb, so, c, e, z, h1, h2, h3, h4⟩ := h.hS hp
  have hlt := (Array.getElem?_eq_some_iff.1 h3).1
  exact ⟨sb, so, c, e, z, h1, fun hn => by have := hN _ hn; omega, (hold _ hlt).trans h3, h4⟩
theorem abs_x00 {qb : Nat} {s0 : QS} : absX (x00 (L := QLay qb) s0) = ⟨s0.q, fun _ => ⟨0, none, []⟩⟩ := rfl
structure PlayU (w : World) (n : Nat) (s : PS) (lb : Nat) (vals : List Int) (order : List Nat) (aa : Nat) (ov sv : Value) (w' : World) : Prop where
 size : w.heap.size ≤ w'.heap.size
 old : ∀ (r : Nat) (c : Array Value) (e : TypeId) (z : Nat × Nat), w.heap[r]? = some (.cells c e z) → w'.heap[r]? = some (.cells c e z)
 arr : ∃ c, w'.heap[aa]? = some (.cells c 84 (0, 0)) ∧ c.size = n ∧ ∀ i, i < n → ∃ v, c[i]? = some v ∧ (s.th i).ans.length ≤ 65536 ∧ w'.ownsRow 0 46 3 v (s.th i).ans.length (ansC (s.th i).ans)
 ord : w'.ownsRow w.heap.size 3 1 ov order.length (order.map fun i : Nat => Value.int .i64 i)
 st : w'.ownsRow w.heap.size 2 1 sv (1 + vals.length) (.int .i64 lb :: vals.map fun v => .int .i64 v)
theorem own_off {base n size : Nat} {e : TypeId} {v : Value} {xs : List Value} (h : w.ownsRow base e size v n xs) (hs : ∀ b c, w.heap[b]? = some (.cells c e (0, 0)) → base ≤ b → w'.heap[b]? = w.heap[b]?) : w'.ownsRow base e size v n xs := by
 refine ⟨h.1, ?_⟩
 rcases h.2 with h2 | ⟨b, cap, cur, rfl, h3, h4, h5⟩
 ·exact .inl h2
 ·exact .inr ⟨b, cap, cur, rfl, h3, (hs b cur h4 h3).trans h4, h5⟩
set_option maxHeartbeats 1000000 in
theorem bes_play {vs : List Int} {va : Option Addr} {vb vo vc : Nat} (hlen : vs.length < 10000000) (hva : 0 < vs.length → va = some ⟨vb, vo, none⟩) (hvb : 0 < vs.length → vb < w.heap.size) (hv : ∀ k v, vs[k]? = some v → w.cell? ⟨vb, vo + k, none⟩ = some (.int .i64 v) ∧ w.frozen? ⟨vb, vo + k, none⟩ = false)
  {n tb o tl tc sc M : Nat} {mo : Int} {ta sa : Option Addr} {oa : Nat → Option Addr} {ol oc : Nat → Nat} {ops : Nat → List Op4} {S : List Int} (hI : OpsIn w (fun _ => False) n tb o tl ta oa ol oc ops S sa) (hM : min (max mo 0) 1048576 = (M : Int)) {c : Frame} {cs : List Frame} {Stop : Goroutine → World → Prop}
  (hP : ∀ s order, pDone n M (s, order) → (∃ k, ∀ f, k ≤ f → pOver ops n M S f (q00 vs) = (s, order)) → ∃ lb lv, Path s.q (s.q.nx s.q.tl) lb ∧ Path s.q (s.q.nx s.q.hd) lv ∧ lb.length < 10000000 ∧ lv.length < 10000000 ∧
   ∀ aa oa' oc' xa xc w', PlayU w n s lb.length (lv.map s.q.vl) order aa (.slice oa' order.length oc') (.slice xa (1 + lv.length) xc) w' →
    Bes An Try.prog Stop (G (c.finish (.agg #[.slice (some ⟨aa, 0, none⟩) n n, .slice oa' order.length oc', .slice xa (1 + lv.length) xc, .bool (decide (0 < cnt s.live n))])) cs) w') :
  Bes An Try.prog Stop (G (Frame.enter Try.prog 14 #[.slice va vs.length vc, .slice ta tl tc, .slice sa S.length sc, .int .i64 mo] .normal) (c :: cs)) w := by
 have hF : ∀ a : Addr, ¬ held F0 a := fun a h => by obtain ⟨z, hz, _⟩ := h; cases hz
 have hrow0 : ∀ r, r < w.heap.size → (w.alloc (.cells #[.slice none 0 0, .slice none 0 0, .slice none 0 0, .bool false] 29)).heap[r]? = w.heap[r]? := fun r hr => heap_alloc_lt _ _ hr
 have hs0 : (w.alloc (.cells #[.slice none 0 0, .slice none 0 0, .slice none 0 0, .bool false] 29)).heap.size = w.heap.size + 1 := by simp
 have htr : TrAt (w.alloc (.cells #[.slice none 0 0, .slice none 0 0, .slice none 0 0, .bool false] 29)) w.heap.size (.slice none 0 0) (.slice none 0 0) (.slice none 0 0) (.bool false) := ⟨heap_alloc_new _ _⟩
 refine bes_own (F := F0) (Stop := fun a u => ∃ A qb bl, a = G (Frame.enter Try.prog 37 #[.slice ta tl tc, .func (.func 38) #[.pointer (some ⟨qb, 0, none⟩)] #[], .slice sa S.length sc, .int .i64 mo] .normal) (((Go.Conc.base 14).at ⟨A, []⟩ [.inRegion plo2 [5, 6, 7], .code pls3]) :: c :: cs) ∧
   Slots 23 A [(8, .pointer (some ⟨w.heap.size, 0, none⟩)), (9, .pointer (some ⟨qb, 0, none⟩))] ∧ QU qb ⟨newRQ vs, bl⟩ u ∧ w.heap.size + 1 ≤ u.heap.size ∧ (∀ r, r < w.heap.size + 1 → u.heap[r]? = (w.alloc (.cells #[.slice none 0 0, .slice none 0 0, .slice none 0 0, .bool false] 29)).heap[r]?) ∧ ∀ r, QR qb ⟨newRQ vs, bl⟩ r → w.heap.size + 1 ≤ r)
  (pl_0 under_F0 (Nat.zero_le _) fun A hA => own_new hlen hva (fun h => by have := hvb h; omega) (fun k v hk => by
   obtain ⟨h1, h2⟩ := hv k v hk
   have := cellB_alloc h1 (.cells #[.slice none 0 0, .slice none 0 0, .slice none 0 0, .bool false] 29)
   exact ⟨this.1, this.2.trans h2⟩) fun w1 qb bl k1 k2 k3 k4 => pl_1 hA fun A2 hA2 => .stop fun d => ⟨A2, qb, bl, rfl, hA2, k1.same fun _ _ => rfl, by rw [hs0] at k2; exact k2, fun r hr => k3 r (by omega), fun r hr => by have := k4 r hr; omega⟩) fun a W hS => ?_
 obtain ⟨A, qb, bl, rfl, hA, hQ, hWs, hWo, hWn⟩ := hS
 have hold1 : ∀ r, r < w.heap.size → W.heap[r]? = w.heap[r]? := fun r hr => (hWo r (by omega)).trans (hrow0 r hr)
 have hrb1 : W.heap[w.heap.size]? = some (.cells #[.slice none 0 0, .slice none 0 0, .slice none 0 0, .bool false] 29 (0, 0)) := (hWo _ (by omega)).trans htr.o
 have hI1 : OpsIn W ((QLay qb).SR ⟨newRQ vs, bl⟩) n tb o tl ta oa ol oc ops S sa := hI.later (by omega) hold1 fun r hr => by have := hWn r hr; omega
 refine bes_ops (L := QLay qb) (qlay_ok qb) (s0 := ⟨newRQ vs, bl⟩) hQ hI1 hM ?_
 intro g p p' t u oa' oc' hg hpn hpo hOk hrel hpn' hpo' hpa hU hord hnR hsz hkeep
 obtain ⟨hd, hover⟩ := over_abs (p := p) (g := g) hOk (fun j hj => ⟨rfl, rfl⟩) hrel
 rw [hpo] at hover
 obtain ⟨lb, lv, hPb, hPv, hlb, hlv, hK⟩ := hP _ _ hd hover
 have hQU : QU qb t.1.s u := hU.su
 have hrb2 : u.heap[w.heap.size]? = some (.cells #[.slice none 0 0, .slice none 0 0, .slice none 0 0, .bool false] 29 (0, 0)) := hkeep _ _ _ _ hrb1 fun h => by have := hWn _ h; omega
 have hcnt : cnt ((opsUsers (QLay qb) p g).liv t.1) n = cnt (absX t.1).live n := cnt_abs t.1 n
 rw [hcnt]
 obtain ⟨ca, hca, hcs, hci⟩ := hU.arr
 have hlt := (Array.getElem?_eq_some_iff.1 hca).1
 have hlr := (Array.getElem?_eq_some_iff.1 hrb2).1
 have htb := heap_alloc_new u (.cells #[.slice (some ⟨p.aa, 0, none⟩) n n, .slice oa' t.2.length oc', .slice none 0 0, .bool (decide (0 < cnt (absX t.1).live n))] 29)
 have htl : ∀ r, r < u.heap.size → (u.alloc (.cells #[.slice (some ⟨p.aa, 0, none⟩) n n, .slice oa' t.2.length oc', .slice none 0 0, .bool (decide (0 < cnt (absX t.1).live n))] 29)).heap[r]? = u.heap[r]? := fun r hr => heap_alloc_lt _ _ hr
 have hts : (u.alloc (.cells #[.slice (some ⟨p.aa, 0, none⟩) n n, .slice oa' t.2.length oc', .slice none 0 0, .bool (decide (0 < cnt (absX t.1).live n))] 29)).heap.size = u.heap.size + 1 := by simp
 refine bes_own (F := F0) (Stop := fun a u2 => ∃ xa xc, a = G (c.finish (.agg #[.slice (some ⟨p.aa, 0, none⟩) n n, .slice oa' t.2.length oc', .slice xa (1 + lv.length) xc, .bool (decide (0 < cnt (absX t.1).live n))])) cs ∧
   PlayU w n (absX t.1) lb.length (lv.map (absX t.1).q.vl) t.2 p.aa (.slice oa' t.2.length oc') (.slice xa (1 + lv.length) xc) u2)
  (pl_2 under_F0 (Nat.zero_le _) hA fun A2 hA2 => ?_) fun a u2 ⟨xa, xc, ha, hu2⟩ => ?_
 ·generalize u.alloc (.cells #[.slice (some ⟨p.aa, 0, none⟩) n n, .slice oa' t.2.length oc', .slice none 0 0, .bool (decide (0 < cnt (absX t.1).live n))] 29) = U at htb htl hts ⊢
  refine own_state (hQU.same fun r hr => htl r (hQU.low hr)) hPb hPv hlb hlv fun w2 l' k1 k2 k3 => ?_
  obtain ⟨xa, xc, rfl⟩ : ∃ xa xc, l' = .slice xa (1 + lv.length) xc := by
   rcases k1.2 with ⟨rfl, h⟩ | ⟨b, cap, cur, rfl, _⟩
   ·omega
   ·exact ⟨_, _, rfl⟩
  have hR : TrAt w2 w.heap.size (.slice none 0 0) (.slice none 0 0) (.slice none 0 0) (.bool false) := ⟨(k3 _ (by omega)).trans ((htl _ hlr).trans hrb2)⟩
  have hT : TrAt w2 u.heap.size (.slice (some ⟨p.aa, 0, none⟩) n n) (.slice oa' t.2.length oc') (.slice none 0 0) (.bool (decide (0 < cnt (absX t.1).live n))) := ⟨(k3 _ (by omega)).trans htb⟩
  refine pl_3 (show w.heap.size ≠ u.heap.size by omega) hR hT (fun k => hF _) (fun k => hF _) hA2 (.stop fun d => ⟨xa, xc, rfl, ?_⟩)
  have hlw : ∀ r, r < u.heap.size → w2.heap[r]? = u.heap[r]? := fun r hr => (k3 _ (by omega)).trans (htl _ hr)
  have hne : ∀ r, r ≠ w.heap.size → r ≠ u.heap.size → (trW (w2.setCell ⟨u.heap.size, 2, none⟩ (.slice xa (1 + lv.length) xc)) w.heap.size (.slice (some ⟨p.aa, 0, none⟩) n n) (.slice oa' t.2.length oc') (.slice xa (1 + lv.length) xc) (.bool (decide (0 < cnt (absX t.1).live n)))).heap[r]? = w2.heap[r]? := fun r hr hr2 => by
   unfold trW
   rw [heap_setCell_ne _ _ _ hr, heap_setCell_ne _ _ _ hr, heap_setCell_ne _ _ _ hr, heap_setCell_ne _ _ _ hr, heap_setCell_ne _ _ _ hr2]
  have hsz2 : (trW (w2.setCell ⟨u.heap.size, 2, none⟩ (.slice xa (1 + lv.length) xc)) w.heap.size (.slice (some ⟨p.aa, 0, none⟩) n n) (.slice oa' t.2.length oc') (.slice xa (1 + lv.length) xc) (.bool (decide (0 < cnt (absX t.1).live n)))).heap.size = w2.heap.size := by
   unfold trW; simp
  show PlayU _ _ _ _ _ _ _ _ _ ((trW (w2.setCell ⟨u.heap.size, 2, none⟩ (.slice xa (1 + lv.length) xc)) w.heap.size (.slice (some ⟨p.aa, 0, none⟩) n n) (.slice oa' t.2.length oc') (.slice xa (1 + lv.length) xc) (.bool (decide (0 < cnt (absX t.1).live n)))).at d)
  have hne2 : ∀ r, r ≠ w.heap.size → r ≠ u.heap.size → ((trW (w2.setCell ⟨u.heap.size, 2, none⟩ (.slice xa (1 + lv.length) xc)) w.heap.size (.slice (some ⟨p.aa, 0, none⟩) n n) (.slice oa' t.2.length oc') (.slice xa (1 + lv.length) xc) (.bool (decide (0 < cnt (absX t.1).live n)))).at d).heap[r]? = w2.heap[r]? := hne
  have hsz3 : ((trW (w2.setCell ⟨u.heap.size, 2, none⟩ (.slice xa (1 + lv.length) xc)) w.heap.size (.slice (some ⟨p.aa, 0, none⟩) n n) (.slice oa' t.2.length oc') (.slice xa (1 + lv.length) xc) (.bool (decide (0 < cnt (absX t.1).live n)))).at d).heap.size = w2.heap.size := hsz2
  generalize (trW (w2.setCell ⟨u.heap.size, 2, none⟩ (.slice xa (1 + lv.length) xc)) w.heap.size (.slice (some ⟨p.aa, 0, none⟩) n n) (.slice oa' t.2.length oc') (.slice xa (1 + lv.length) xc) (.bool (decide (0 < cnt (absX t.1).live n)))).at d = V at hne2 hsz3 ⊢
  have hty : ∀ (b : Nat) (c : Array Value) (e : TypeId) (z : Nat × Nat), u.heap[b]? = some (.cells c e z) → e ≠ 29 → V.heap[b]? = u.heap[b]? := fun b cc e z hb he => by
   have hbl := (Array.getElem?_eq_some_iff.1 hb).1
   rw [hne2 b (fun h => by rw [h, hrb2] at hb; cases hb; exact he rfl) (by omega), hlw b hbl]
  refine ⟨by omega, fun r cc e z hr => ?_, ⟨ca, ?_, ?_, fun i hi => ?_⟩, ?_, ?_⟩
  ·have hlt := (Array.getElem?_eq_some_iff.1 hr).1
   rw [hne2 r (by omega) (by omega), hlw r (by omega)]
   exact hkeep _ _ _ _ ((hold1 r hlt).trans hr) fun h => by have := hWn _ h; omega
  ·rw [hty _ _ _ _ (hpa ▸ hca) (by decide)]
   exact hpa ▸ hca
  ·rw [hcs, hpn']
  ·have hi' : i < p'.n := by rw [hpn']; exact hi
   have ht := hU.thr i hi'
   refine ⟨_, hci i hi', ?_, ?_⟩
   ·show (t.1.th i).ans.length ≤ _
    have h1 := ht.al
    have h2 := ht.kl
    rw [hpo', hI.hlen i hi] at h2
    omega
   ·have hr : u.ownsRow 0 46 3 (t.1.th i).row (t.1.th i).ans.length (ansC (t.1.th i).ans) := ht.row
    exact own_off hr fun b cc hb _ => hty b cc _ _ hb (by decide)
  ·exact ownsRow_mono_base (by omega) (own_off hord fun b cc hb _ => hty b cc _ _ hb (by decide))
  ·have e1 : (lv.map (absX t.1).q.vl).length = lv.length := List.length_map _
   rw [e1]
   have e2 : ((lv.map (absX t.1).q.vl).map fun v => Value.int .i64 v) = lv.map fun k => .int .i64 (t.1.s.q.vl k) := by
    rw [List.map_map]; rfl
   rw [e2]
   exact ownsRow_mono_base (by omega) (own_off k1 fun b cc hb hbb => hne2 b (by omega) (by omega))
 ·subst ha
  exact hK _ _ _ _ _ _ hu2
end
noncomputable section
variable {F : Fz} {w : World}
theorem cell_at {a : Addr} {v : Option Value} (h : w.cell? a = v) (d : Nat) : (w.at d).cell? a = v := h
theorem froz_at {a : Addr} {v : Bool} (h : w.frozen? a = v) (d : Nat) : (w.at d).frozen? a = v := h
theorem tr_newA (X : World) (x y z u x' y' z' u' : Value) : ((((X.alloc (.cells #[x, y, z, u] 29)).setCell ⟨X.heap.size, 0, none⟩ x').setCell ⟨X.heap.size, 1, none⟩ y').setCell ⟨X.heap.size, 2, none⟩ z').setCell ⟨X.heap.size, 3, none⟩ u' = X.alloc (.cells #[x', y', z', u'] 29) := by go_simp
theorem At.alloc {a : Addr} {v : Value} (h : At w a v) (o : Obj) : At (w.alloc o) a v := ⟨(cellB_alloc h.c o).1, (cellB_alloc h.c o).2.trans h.z⟩
theorem At.at {a : Addr} {v : Value} (h : At w a v) (d : Nat) : At (w.at d) a v := ⟨h.c, h.z⟩
def awBody : Code := Try.f12.body.getD .skip
def aws0 : Code := Code.piece [] awBody
def awr0 : Code := Code.piece [true] awBody
def awo0 : Array Oper := Code.opsOf awr0
def aws1 : Code := Code.piece [false] awBody
def awr1 : Code := Code.piece [false, true] awBody
def awo1 : Array Oper := Code.opsOf awr1
def aws2 : Code := Code.piece [false, false] awBody
def aws3 : Code := Code.piece [false, false, true] awBody
def awr2 : Code := Code.piece [false, false, true, true] awBody
def awo2 : Array Oper := Code.opsOf awr2
def awc32 : Code := Code.piece [false, false, true, false] awBody
def aws4 : Code := Code.piece [false, false, true, false, true] awBody
def awr3 : Code := Code.piece [false, false, true, false, true, true] awBody
def awo3 : Array Oper := Code.opsOf awr3
def aws5 : Code := Code.piece [false, false, false] awBody
def awr4 : Code := Code.piece [false, false, false, true] awBody
def awo4 : Array Oper := Code.opsOf awr4
theorem aws0_eq : aws0 = .seq awr0 aws1 := by kernel_rfl
theorem awr0_eq : awr0 = .region 0 awo0 false := by kernel_rfl
theorem aws1_eq : aws1 = .seq awr1 aws2 := by kernel_rfl
theorem awr1_eq : awr1 = .region 1 awo1 false := by kernel_rfl
theorem aws2_eq : aws2 = .seq aws3 aws5 := by kernel_rfl
theorem aws3_eq : aws3 = .seq awr2 awc32 := by kernel_rfl
theorem awr2_eq : awr2 = .region 2 awo2 false := by kernel_rfl
theorem awc32_eq : awc32 = .cond (.tmp 32) aws4 .skip := by kernel_rfl
theorem aws4_eq : aws4 = .seq awr3 .ret := by kernel_rfl
theorem awr3_eq : awr3 = .region 3 awo3 false := by kernel_rfl
theorem aws5_eq : aws5 = .seq awr4 .ret := by kernel_rfl
theorem awr4_eq : awr4 = .region 4 awo4 false := by kernel_rfl
theorem enter_aw (args : Array Value) : Frame.enter Try.prog 12 args .normal = (Go.Conc.base 12).at { tmps := args ++ Array.replicate (73 - args.size) undef, defers := [] } [.code aws0] := enter_at args Try.func12 rfl
theorem callable12 : Callable 12 := callable Try.func12 rfl rfl
def awT (s : Nat → Value) : Array Value := #[s 0, s 1, s 2, s 3, s 4, s 5, s 6, s 7, s 8, s 9, s 10, s 11, s 12, s 13, s 14, s 15, s 16, s 17, s 18, s 19, s 20, s 21, s 22, s 23, s 24, s 25, s 26, s 27, s 28, s 29, s 30, s 31, s 32, s 33, s 34, s 35, s 36, s 37, s 38, s 39, s 40, s 41, s 42, s 43, s 44, s 45, s 46, s 47, s 48, s 49, s 50, s 51, s 52, s 53, s 54, s 55, s 56, s 57, s 58, s 59, s 60, s 61, s 62, s 63, s 64, s 65, s 66, s 67, s 68, s 69, s 70, s 71, s 72]
theorem awT_of {A : Array Value} (h : A.size = 73) : ∃ s, A = awT s := by
 obtain ⟨s, hs, _⟩ := arr_lit A h
 exact ⟨s, hs⟩
def awW (w : World) : World := (((((w.alloc (.cells #[.int .i64 5] 2)).alloc (.cells #[.int .i64 2, .int .i64 0, .int .i64 0, .int .i64 0, .int .i64 2, .int .i64 0, .int .i64 0, .int .i64 0] 44)).alloc (.cells #[.int .i64 1, .int .i64 7, .int .i64 0, .int .i64 0] 44)).alloc (.cells #[.slice (some ⟨w.heap.size + 1, 0, none⟩) 2 2, .slice (some ⟨w.heap.size + 2, 0, none⟩) 1 1] 32)).alloc (.cells #[.int .i64 1, .int .i64 1, .int .i64 1, .int .i64 0, .int .i64 0, .int .i64 0, .int .i64 0, .int .i64 0, .int .i64 0, .int .i64 0, .int .i64 0, .int .i64 1] 3))
theorem aw_0 {n : Nat} (hU : Under F n) (hn : n ≤ w.heap.size) {cs : List Frame} {main : Bool} {Stop : Goroutine → World → Prop}
  (h : ∀ A, A.size = 73 → Own Try.prog main F Stop (G (Frame.enter Try.prog 14 #[.slice (some ⟨w.heap.size, 0, none⟩) 1 1, .slice (some ⟨w.heap.size + 3, 0, none⟩) 2 2, .slice (some ⟨w.heap.size + 4, 0, none⟩) 12 12, .int .i64 100] .normal) (((Go.Conc.base 12).at ⟨A, []⟩ [.inRegion awo1 [8, 9, 10], .code aws2]) :: cs)) (awW w)) :
  Own Try.prog main F Stop (G (Frame.enter Try.prog 12 #[] .normal) cs) w := by
 rw [enter_aw]
 walk_nrm
 rw [aws0_eq]
 refine ogS ?_
 rw [awr0_eq]
 refine ogR ?_
 simp only [awo0, Code.opsOf, awr0, Code.piece, awBody, Try.f12, Option.getD_some, List.size_toArray, List.length_cons, List.length_nil, Nat.reduceAdd, Nat.zero_add, List.range, List.range.loop]
 (refine oW fun dd K hK => ?_; go_simp; refine qT hK ?_; clear hK K)
 refine ogE ?_
 rw [aws1_eq]
 refine ogS ?_
 rw [awr1_eq]
 refine ogR ?_
 simp only [awo1, Code.opsOf, awr1, Code.piece, awBody, Try.f12, Option.getD_some, List.size_toArray, List.length_cons, List.length_nil, Nat.reduceAdd, Nat.zero_add, List.range, List.range.loop]
 (refine oW fun dd K hK => ?_; go_simp; refine qA hK hU ?_; clear hK K)
 iterate 2 (refine oW fun dd K hK => ?_; go_simp; refine qT hK ?_; clear hK K)
 (refine oW fun dd K hK => ?_; go_simp; refine qA hK hU ?_; clear hK K)
 (refine oW fun dd K hK => ?_; go_simp; refine qT hK ?_; clear hK K)
 iterate 3 (refine oW fun dd K hK => ?_; go_simp; refine qA hK hU ?_; clear hK K)
 refine oc callable14 #[.slice (some ⟨w.heap.size, 0, none⟩) 1 1, .slice (some ⟨w.heap.size + 3, 0, none⟩) 2 2, .slice (some ⟨w.heap.size + 4, 0, none⟩) 12 12, .int .i64 100] ?_
 refine h _ ?_
 rfl
theorem aw_1 {n : Nat} (hU : Under F n) (hn : n ≤ w.heap.size) {aa rb xb rc oc xc : Nat} {oa : Option Addr} (h0 : At w ⟨aa, 0, none⟩ (.slice (some ⟨rb, 0, none⟩) 2 rc)) (h1 : At w ⟨rb, 1, none⟩ (.int .i64 5)) (h4 : At w ⟨rb, 4, none⟩ (.int .i64 7)) (h3 : At w ⟨rb, 3, none⟩ (.bool true)) (hx : At w ⟨xb, 0, none⟩ (.int .i64 0)) {A : Array Value} (hA : A.size = 73) {c : Frame} {cs : List Frame} {main : Bool} {Stop : Goroutine → World → Prop}
  (h : Own Try.prog main F Stop (G (c.finish (.bool true)) cs) (w.alloc (.cells #[.slice (some ⟨aa, 0, none⟩) 2 2, .slice oa 16 oc, .slice (some ⟨xb, 0, none⟩) 1 xc, .bool false] 29))) :
  Own Try.prog main F Stop (G (((Go.Conc.base 12).at ⟨A, []⟩ [.inRegion awo1 [8, 9, 10], .code aws2]).finish (.agg #[.slice (some ⟨aa, 0, none⟩) 2 2, .slice oa 16 oc, .slice (some ⟨xb, 0, none⟩) 1 xc, .bool false])) (c :: cs)) w := by
 obtain ⟨s, rfl⟩ := awT_of hA
 clear hA
 simp only [awT]
 rw [Frame.finish_at]
 simp only [awo1, Code.opsOf, awr1, Code.piece, awBody, Try.f12, Option.getD_some, List.size_toArray, List.length_cons, List.length_nil, Nat.reduceAdd, Nat.zero_add, List.range, List.range.loop]
 walk_nrm
 (refine oW fun dd K hK => ?_; go_simp; refine qA hK hU ?_; clear hK K)
 (refine oW fun dd K hK => ?_; go_simp; refine hK _ _ ⟨⟨⟨0, grew4 (fun k => not_held hU (show n ≤ w.heap.size by omega)) _ _ _ _⟩, fun e he => by (have hm := mem_listed he; clear he hK; simp [go_sem, storedEv] at hm; rcases hm with rfl | rfl | rfl | rfl <;> exact evT_write _ _ ((fun k => not_held hU (show n ≤ w.heap.size by omega)) _))⟩, ?_⟩; clear hK K; simp only [setCell_at']; refine Own.at ?_ dd)
 have e1 := tr_newA w (.slice none 0 0) (.slice none 0 0) (.slice none 0 0) (.bool false) (.slice (some ⟨aa, 0, none⟩) 2 2) (.slice oa 16 oc) (.slice (some ⟨xb, 0, none⟩) 1 xc) (.bool false)
 rw [e1]
 clear e1
 have hT : TrAt (w.alloc (.cells #[.slice (some ⟨aa, 0, none⟩) 2 2, .slice oa 16 oc, .slice (some ⟨xb, 0, none⟩) 1 xc, .bool false] 29)) w.heap.size (.slice (some ⟨aa, 0, none⟩) 2 2) (.slice oa 16 oc) (.slice (some ⟨xb, 0, none⟩) 1 xc) (.bool false) := ⟨heap_alloc_new _ _⟩
 replace h0 := h0.alloc (.cells #[.slice (some ⟨aa, 0, none⟩) 2 2, .slice oa 16 oc, .slice (some ⟨xb, 0, none⟩) 1 xc, .bool false] 29)
 replace h1 := h1.alloc (.cells #[.slice (some ⟨aa, 0, none⟩) 2 2, .slice oa 16 oc, .slice (some ⟨xb, 0, none⟩) 1 xc, .bool false] 29)
 replace h4 := h4.alloc (.cells #[.slice (some ⟨aa, 0, none⟩) 2 2, .slice oa 16 oc, .slice (some ⟨xb, 0, none⟩) 1 xc, .bool false] 29)
 replace h3 := h3.alloc (.cells #[.slice (some ⟨aa, 0, none⟩) 2 2, .slice oa 16 oc, .slice (some ⟨xb, 0, none⟩) 1 xc, .bool false] 29)
 replace hx := hx.alloc (.cells #[.slice (some ⟨aa, 0, none⟩) 2 2, .slice oa 16 oc, .slice (some ⟨xb, 0, none⟩) 1 xc, .bool false] 29)
 generalize hW : w.alloc (.cells #[.slice (some ⟨aa, 0, none⟩) 2 2, .slice oa 16 oc, .slice (some ⟨xb, 0, none⟩) 1 xc, .bool false] 29) = W at hT h0 h1 h4 h3 hx h ⊢
 generalize w.heap.size = T at hT h ⊢
 refine ogE ?_
 rw [aws2_eq]
 refine ogS ?_
 rw [aws3_eq]
 refine ogS ?_
 rw [awr2_eq]
 refine ogR ?_
 simp only [awo2, Code.opsOf, awr2, Code.piece, awBody, Try.f12, Option.getD_some, List.size_toArray, List.length_cons, List.length_nil, Nat.reduceAdd, Nat.zero_add, List.range, List.range.loop]
 (refine oW fun dd K hK => ?_; go_simp; refine qT hK ?_; clear hK K)
 (refine oW fun dd K hK => ?_; have c0 := (hT.at dd).c0; have z0 := (hT.at dd).z; go_simp; refine hK _ _ ⟨⟨⟨0, Grew.refl _ _⟩, fun e he => by (have hm := mem_listed he; clear he hK; simp [go_sem, c0, z0] at hm; subst hm; exact evT_read _ _)⟩, Own.at ?_ dd⟩; clear hK K c0 z0)
 iterate 4 (refine oW fun dd K hK => ?_; go_simp; refine qT hK ?_; clear hK K)
 (refine oW fun dd K hK => ?_; have c0 := (hT.at dd).c0; have z0 := (hT.at dd).z; go_simp; refine hK _ _ ⟨⟨⟨0, Grew.refl _ _⟩, fun e he => by (have hm := mem_listed he; clear he hK; simp [go_sem, c0, z0] at hm; subst hm; exact evT_read _ _)⟩, Own.at ?_ dd⟩; clear hK K c0 z0)
 (refine oW fun dd K hK => ?_; go_simp; refine qX hK ?_; clear hK K)
 (refine oW fun dd K hK => ?_; have c0 := ((h0).at dd).c; have z0 := ((h0).at dd).z; go_simp; refine hK _ _ ⟨⟨⟨0, Grew.refl _ _⟩, fun e he => by (have hm := mem_listed he; clear he hK; simp [go_sem, c0, z0] at hm; subst hm; exact evT_read _ _)⟩, Own.at ?_ dd⟩; clear hK K c0 z0)
 iterate 5 (refine oW fun dd K hK => ?_; go_simp; refine qT hK ?_; clear hK K)
 (refine oW fun dd K hK => ?_; have c0 := (hT.at dd).c2; have z0 := (hT.at dd).z; go_simp; refine hK _ _ ⟨⟨⟨0, Grew.refl _ _⟩, fun e he => by (have hm := mem_listed he; clear he hK; simp [go_sem, c0, z0] at hm; subst hm; exact evT_read _ _)⟩, Own.at ?_ dd⟩; clear hK K c0 z0)
 iterate 5 (refine oW fun dd K hK => ?_; go_simp; refine qT hK ?_; clear hK K)
 (refine oW fun dd K hK => ?_; have c0 := (hT.at dd).c3; have z0 := (hT.at dd).z; go_simp; refine hK _ _ ⟨⟨⟨0, Grew.refl _ _⟩, fun e he => by (have hm := mem_listed he; clear he hK; simp [go_sem, c0, z0] at hm; subst hm; exact evT_read _ _)⟩, Own.at ?_ dd⟩; clear hK K c0 z0)
 (refine oW fun dd K hK => ?_; go_simp; refine qT hK ?_; clear hK K)
 refine ogE ?_
 rw [awc32_eq]
 refine ogF ?_
 simp only [Bool.false_eq_true, if_false]
 refine ogK ?_
 rw [aws5_eq]
 refine ogS ?_
 rw [awr4_eq]
 refine ogR ?_
 simp only [awo4, Code.opsOf, awr4, Code.piece, awBody, Try.f12, Option.getD_some, List.size_toArray, List.length_cons, List.length_nil, Nat.reduceAdd, Nat.zero_add, List.range, List.range.loop]
 (refine oW fun dd K hK => ?_; go_simp; refine qT hK ?_; clear hK K)
 (refine oW fun dd K hK => ?_; have c0 := (hT.at dd).c0; have z0 := (hT.at dd).z; go_simp; refine hK _ _ ⟨⟨⟨0, Grew.refl _ _⟩, fun e he => by (have hm := mem_listed he; clear he hK; simp [go_sem, c0, z0] at hm; subst hm; exact evT_read _ _)⟩, Own.at ?_ dd⟩; clear hK K c0 z0)
 (refine oW fun dd K hK => ?_; go_simp; refine qX hK ?_; clear hK K)
 (refine oW fun dd K hK => ?_; have c0 := ((h0).at dd).c; have z0 := ((h0).at dd).z; go_simp; refine hK _ _ ⟨⟨⟨0, Grew.refl _ _⟩, fun e he => by (have hm := mem_listed he; clear he hK; simp [go_sem, c0, z0] at hm; subst hm; exact evT_read _ _)⟩, Own.at ?_ dd⟩; clear hK K c0 z0)
 (refine oW fun dd K hK => ?_; go_simp; refine qX hK ?_; clear hK K)
 (refine oW fun dd K hK => ?_; go_simp; refine qT hK ?_; clear hK K)
 (refine oW fun dd K hK => ?_; have c0 := ((h1).at dd).c; have z0 := ((h1).at dd).z; go_simp; refine hK _ _ ⟨⟨⟨0, Grew.refl _ _⟩, fun e he => by (have hm := mem_listed he; clear he hK; simp [go_sem, c0, z0] at hm; subst hm; exact evT_read _ _)⟩, Own.at ?_ dd⟩; clear hK K c0 z0)
 iterate 3 (refine oW fun dd K hK => ?_; go_simp; refine qT hK ?_; clear hK K)
 (refine oW fun dd K hK => ?_; have c0 := (hT.at dd).c0; have z0 := (hT.at dd).z; go_simp; refine hK _ _ ⟨⟨⟨0, Grew.refl _ _⟩, fun e he => by (have hm := mem_listed he; clear he hK; simp [go_sem, c0, z0] at hm; subst hm; exact evT_read _ _)⟩, Own.at ?_ dd⟩; clear hK K c0 z0)
 (refine oW fun dd K hK => ?_; go_simp; refine qX hK ?_; clear hK K)
 (refine oW fun dd K hK => ?_; have c0 := ((h0).at dd).c; have z0 := ((h0).at dd).z; go_simp; refine hK _ _ ⟨⟨⟨0, Grew.refl _ _⟩, fun e he => by (have hm := mem_listed he; clear he hK; simp [go_sem, c0, z0] at hm; subst hm; exact evT_read _ _)⟩, Own.at ?_ dd⟩; clear hK K c0 z0)
 (refine oW fun dd K hK => ?_; go_simp; refine qX hK ?_; clear hK K)
 (refine oW fun dd K hK => ?_; go_simp; refine qT hK ?_; clear hK K)
 (refine oW fun dd K hK => ?_; have c0 := ((h4).at dd).c; have z0 := ((h4).at dd).z; go_simp; refine hK _ _ ⟨⟨⟨0, Grew.refl _ _⟩, fun e he => by (have hm := mem_listed he; clear he hK; simp [go_sem, c0, z0] at hm; subst hm; exact evT_read _ _)⟩, Own.at ?_ dd⟩; clear hK K c0 z0)
 iterate 4 (refine oW fun dd K hK => ?_; go_simp; refine qT hK ?_; clear hK K)
 (refine oW fun dd K hK => ?_; have c0 := (hT.at dd).c0; have z0 := (hT.at dd).z; go_simp; refine hK _ _ ⟨⟨⟨0, Grew.refl _ _⟩, fun e he => by (have hm := mem_listed he; clear he hK; simp [go_sem, c0, z0] at hm; subst hm; exact evT_read _ _)⟩, Own.at ?_ dd⟩; clear hK K c0 z0)
 (refine oW fun dd K hK => ?_; go_simp; refine qX hK ?_; clear hK K)
 (refine oW fun dd K hK => ?_; have c0 := ((h0).at dd).c; have z0 := ((h0).at dd).z; go_simp; refine hK _ _ ⟨⟨⟨0, Grew.refl _ _⟩, fun e he => by (have hm := mem_listed he; clear he hK; simp [go_sem, c0, z0] at hm; subst hm; exact evT_read _ _)⟩, Own.at ?_ dd⟩; clear hK K c0 z0)
 (refine oW fun dd K hK => ?_; go_simp; refine qX hK ?_; clear hK K)
 (refine oW fun dd K hK => ?_; go_simp; refine qT hK ?_; clear hK K)
 (refine oW fun dd K hK => ?_; have c0 := ((h3).at dd).c; have z0 := ((h3).at dd).z; go_simp; refine hK _ _ ⟨⟨⟨0, Grew.refl _ _⟩, fun e he => by (have hm := mem_listed he; clear he hK; simp [go_sem, c0, z0] at hm; subst hm; exact evT_read _ _)⟩, Own.at ?_ dd⟩; clear hK K c0 z0)
 iterate 3 (refine oW fun dd K hK => ?_; go_simp; refine qT hK ?_; clear hK K)
 (refine oW fun dd K hK => ?_; have c0 := (hT.at dd).c2; have z0 := (hT.at dd).z; go_simp; refine hK _ _ ⟨⟨⟨0, Grew.refl _ _⟩, fun e he => by (have hm := mem_listed he; clear he hK; simp [go_sem, c0, z0] at hm; subst hm; exact evT_read _ _)⟩, Own.at ?_ dd⟩; clear hK K c0 z0)
 (refine oW fun dd K hK => ?_; go_simp; refine qX hK ?_; clear hK K)
 (refine oW fun dd K hK => ?_; have c0 := ((hx).at dd).c; have z0 := ((hx).at dd).z; go_simp; refine hK _ _ ⟨⟨⟨0, Grew.refl _ _⟩, fun e he => by (have hm := mem_listed he; clear he hK; simp [go_sem, c0, z0] at hm; subst hm; exact evT_read _ _)⟩, Own.at ?_ dd⟩; clear hK K c0 z0)
 iterate 4 (refine oW fun dd K hK => ?_; go_simp; refine qT hK ?_; clear hK K)
 (refine oW fun dd K hK => ?_; have c0 := (hT.at dd).c1; have z0 := (hT.at dd).z; go_simp; refine hK _ _ ⟨⟨⟨0, Grew.refl _ _⟩, fun e he => by (have hm := mem_listed he; clear he hK; simp [go_sem, c0, z0] at hm; subst hm; exact evT_read _ _)⟩, Own.at ?_ dd⟩; clear hK K c0 z0)
 iterate 4 (refine oW fun dd K hK => ?_; go_simp; refine qT hK ?_; clear hK K)
 refine ogE ?_
 refine ogX ?_
 refine own_leave (fn := Try.f12) (v := .bool true) rfl rfl Try.func12 (fun d => by simp [results, Try.f12, go_sem]) (fun d e he => by simp [results, Try.f12, go_sem] at he) ?_
 exact h
end
noncomputable section
theorem bes_good {An : Anchor} {P : Program} {Post : Value → World → Prop} {fr : Frame} {W : World} (hA : An.Holds W)
  (hB : Bes An P (fun g w => g.status = .running ∧ ∀ d, ∃ v, stepG P true g (w.at d) = .ended (.done v) (w.at d) #[] ∧ (An.Holds (w.at d) → Post v (w.at d))) (G fr []) W) :
  ∃ M last o w' t', runNT P (M + 1) (solo (G fr []) W) #[] = (.ended o w', t') ∧ runN P M (solo (G fr []) W) = .next last ∧ step P last = .ended o w' ∧ Go.Conc.Good P Post last o w' t' := by
 rw [solo_eq_crowd]
 obtain ⟨N, gs', g', w', sl', T', q', B', hr, h0', ⟨hrun, hS⟩, hL', hP', hA'⟩ := hB #[G fr []] none #[] (fun _ => 0) 0 rfl (leavers_one _ _) past_nil hA
 obtain ⟨K, last, o, w2, t', e1, e2, e3, e4⟩ := beside_ends (P := P) (Post := Post) (D := fun _ _ es => ∀ e ∈ es, EvL NoShun B' e) (sl := sl') (n := 0) (fun _ _ _ h => h) h0' hL' hP' (Goes.stop fun w₂ r₂ => by
  obtain ⟨d, rfl⟩ := r₂
  obtain ⟨v, h1, h2⟩ := hS d
  exact ⟨hrun, v, #[], h1, by simp, h2 (hA'.at d)⟩)
 refine ⟨N + K, last, o, w2, t', ?_, ?_, e3, e4⟩
 ·rw [Nat.add_assoc, runNT_add, hr]; exact e1
 ·rw [runN_add, ← runNT_fst P _ _ #[], hr]; exact e2
theorem below_of {W w' : World} (h : (⟨W.heap.size, W⟩ : Anchor).Holds w') (hc : ∀ (r : Nat) (c : Array Value) (e : TypeId) (z : Nat × Nat), W.heap[r]? = some (.cells c e z) → w'.heap[r]? = some (.cells c e z)) : Below W.heap.size W w' := by
 refine ⟨h.os, h.tape, h.output, h.low, fun r hr => ?_⟩
 obtain ⟨o, ho⟩ : ∃ o, W.heap[r]? = some o := ⟨_, Array.getElem?_eq_getElem hr⟩
 by_cases e : ∃ c e z, o = .cells c e z
 ·obtain ⟨c, e, z, rfl⟩ := e
  rw [hc r c e z ho, ho]
 ·rw [h.obj r o hr ho fun c e1 z e2 => e ⟨c, e1, z, e2⟩, ho]
theorem law_ends {f k : Nat} {fn : Func} {A : Array Value} (h2 : ¬ 2 = f) (hf : Try.prog.funcs[f]? = some fn) (hr : fn.results = #[.tmp k]) {v : Value} (hA : A.getD k undef = v) (w : World) :
  stepG Try.prog true (G { (base f).at ⟨A, []⟩ [.code .ret] with mode := .returning } []) w = .ended (.done v) w #[] := by
 subst hA
 simp [G, stepG, unwind, doReturn, results, Frame.at, base, hf, hr, seen, GStep.after, h2]
end
noncomputable section
variable {An : Anchor} {w w' : World}
def awOps : Nat → List Op4 := fun i => if i = 0 then [⟨2, 0, 0, 0⟩, ⟨2, 0, 0, 0⟩] else if i = 1 then [⟨1, 7, 0, 0⟩] else []
def awS : List Int := [1, 1, 1, 0, 0, 0, 0, 0, 0, 0, 0, 1]
def awE : PS × List Nat := pOver awOps 2 100 awS 10 (q00 [5])
theorem awE_done : pDone 2 100 awE := by decide +kernel
theorem awE_order : awE.2.length = 16 := by decide +kernel
theorem awE_ans : (awE.1.th 0).ans = [(true, 5), (true, 7)] := by decide +kernel
theorem awE_live : cnt awE.1.live 2 = 0 := by decide +kernel
theorem awE_tl : awE.1.q.nx awE.1.q.tl = none := by decide +kernel
theorem awE_hd : awE.1.q.nx awE.1.q.hd = none := by decide +kernel
theorem awE_is {t : PS × List Nat} (h : ∃ k, ∀ f, k ≤ f → pOver awOps 2 100 awS f (q00 [5]) = t) : t = awE := by
 obtain ⟨k, hk⟩ := h
 rw [← hk (max k 10) (by omega)]
 exact pRounds_stays 10 _ awE_done (max k 10) (by omega)
theorem aw_old {r : Nat} (h : r < w.heap.size) : (awW w).heap[r]? = w.heap[r]? := by
 simp only [awW]
 rw [heap_alloc_lt _ _ (by simp; try omega), heap_alloc_lt _ _ (by simp; try omega), heap_alloc_lt _ _ (by simp; try omega), heap_alloc_lt _ _ (by simp; try omega), heap_alloc_lt _ _ h]
theorem aw_size : (awW w).heap.size = w.heap.size + 5 := by simp [awW]
theorem aw_b0 : (awW w).heap[w.heap.size]? = some (.cells #[.int .i64 5] 2 (0, 0)) := by
 simp only [awW]
 rw [heap_alloc_lt _ _ (by simp; try omega), heap_alloc_lt _ _ (by simp; try omega), heap_alloc_lt _ _ (by simp; try omega), heap_alloc_lt _ _ (by simp; try omega)]
 exact heap_alloc_new _ _
theorem aw_b1 : (awW w).heap[w.heap.size + 1]? = some (.cells #[.int .i64 2, .int .i64 0, .int .i64 0, .int .i64 0, .int .i64 2, .int .i64 0, .int .i64 0, .int .i64 0] 44 (0, 0)) := by
 simp only [awW]
 rw [heap_alloc_lt _ _ (by simp; try omega), heap_alloc_lt _ _ (by simp; try omega), heap_alloc_lt _ _ (by simp; try omega)]
 exact new_at (by simp) _
theorem aw_b2 : (awW w).heap[w.heap.size + 2]? = some (.cells #[.int .i64 1, .int .i64 7, .int .i64 0, .int .i64 0] 44 (0, 0)) := by
 simp only [awW]
 rw [heap_alloc_lt _ _ (by simp; try omega), heap_alloc_lt _ _ (by simp; try omega)]
 exact new_at (by simp) _
theorem aw_b3 : (awW w).heap[w.heap.size + 3]? = some (.cells #[.slice (some ⟨w.heap.size + 1, 0, none⟩) 2 2, .slice (some ⟨w.heap.size + 2, 0, none⟩) 1 1] 32 (0, 0)) := by
 simp only [awW]
 rw [heap_alloc_lt _ _ (by simp; try omega)]
 exact new_at (by simp) _
theorem aw_b4 : (awW w).heap[w.heap.size + 4]? = some (.cells #[.int .i64 1, .int .i64 1, .int .i64 1, .int .i64 0, .int .i64 0, .int .i64 0, .int .i64 0, .int .i64 0, .int .i64 0, .int .i64 0, .int .i64 0, .int .i64 1] 3 (0, 0)) := by
 simp only [awW]
 exact new_at (by simp) _
theorem aw_in (d : Nat) : OpsIn ((awW w).at d) (fun _ => False) 2 (w.heap.size + 3) 0 2 (some ⟨w.heap.size + 3, 0, none⟩) (fun i => some ⟨w.heap.size + 1 + i, 0, none⟩) (fun i => if i = 0 then 2 else 1) (fun i => if i = 0 then 2 else 1) awOps awS (some ⟨w.heap.size + 4, 0, none⟩) := by
 have h1 : ((awW w).at d).heap[w.heap.size + 1]? = _ := aw_b1
 have h2 : ((awW w).at d).heap[w.heap.size + 2]? = _ := aw_b2
 have h3 : ((awW w).at d).heap[w.heap.size + 3]? = _ := aw_b3
 have h4 : ((awW w).at d).heap[w.heap.size + 4]? = _ := aw_b4
 refine ⟨rfl, fun _ => rfl, fun _ => by show _ < (awW w).heap.size; rw [aw_size]; omega, fun j hj => ?_, fun j hj => ?_, fun j hj k x hx => ?_, by decide, fun _ => ⟨_, _, _, _, _, rfl, id, h4, fun k u hu => ?_⟩⟩
 ·have : j = 0 ∨ j = 1 := by omega
  rcases this with rfl | rfl
  ·exact ⟨(cell_of h3 rfl).c, (cell_of (k := 0) h3 rfl).z, Nat.le_refl _⟩
  ·exact ⟨(cell_of h3 rfl).c, (cell_of (k := 1) h3 rfl).z, Nat.le_refl _⟩
 ·have : j = 0 ∨ j = 1 := by omega
  rcases this with rfl | rfl <;> rfl
 ·have : j = 0 ∨ j = 1 := by omega
  rcases this with rfl | rfl
  ·have hk : k = 0 ∨ k = 1 := by
    have := (List.getElem?_eq_some_iff.1 hx).1
    simp [awOps] at this
    omega
   rcases hk with rfl | rfl
   ·obtain rfl : (⟨2, 0, 0, 0⟩ : Op4) = x := by simpa [awOps] using hx
    exact ⟨_, _, rfl, id, (cell_of h1 rfl).c, (cell_of h1 rfl).c, (cell_of h1 rfl).c, (cell_of h1 rfl).c, (cell_of (k := 0) h1 rfl).z, (cell_of (k := 1) h1 rfl).z, (cell_of (k := 2) h1 rfl).z, (cell_of (k := 3) h1 rfl).z⟩
   ·obtain rfl : (⟨2, 0, 0, 0⟩ : Op4) = x := by simpa [awOps] using hx
    exact ⟨_, _, rfl, id, (cell_of h1 rfl).c, (cell_of h1 rfl).c, (cell_of h1 rfl).c, (cell_of h1 rfl).c, (cell_of (k := 4) h1 rfl).z, (cell_of (k := 5) h1 rfl).z, (cell_of (k := 6) h1 rfl).z, (cell_of (k := 7) h1 rfl).z⟩
  ·have hk : k = 0 := by
    have := (List.getElem?_eq_some_iff.1 hx).1
    simp [awOps] at this
    omega
   subst hk
   obtain rfl : (⟨1, 7, 0, 0⟩ : Op4) = x := by simpa [awOps] using hx
   exact ⟨_, _, rfl, id, (cell_of h2 rfl).c, (cell_of h2 rfl).c, (cell_of h2 rfl).c, (cell_of h2 rfl).c, (cell_of (k := 0) h2 rfl).z, (cell_of (k := 1) h2 rfl).z, (cell_of (k := 2) h2 rfl).z, (cell_of (k := 3) h2 rfl).z⟩
 ·refine ⟨?_, by simp⟩
  rw [Nat.zero_add]
  have e : (#[.int .i64 1, .int .i64 1, .int .i64 1, .int .i64 0, .int .i64 0, .int .i64 0, .int .i64 0, .int .i64 0, .int .i64 0, .int .i64 0, .int .i64 0, .int .i64 1] : Array Value) = (awS.map fun i : Int => Value.int .i64 i).toArray := rfl
  rw [e]
  simpa using hu
theorem bes_awake {c : Frame} {cs : List Frame} {Stop : Goroutine → World → Prop} (K : ∀ w', w.heap.size ≤ w'.heap.size → (∀ (r : Nat) (c : Array Value) (e : TypeId) (z : Nat × Nat), w.heap[r]? = some (.cells c e z) → w'.heap[r]? = some (.cells c e z)) → Bes An Try.prog Stop (G (c.finish (.bool true)) cs) w') :
  Bes An Try.prog Stop (G (Frame.enter Try.prog 12 #[] .normal) (c :: cs)) w := by
 refine bes_own (F := F0) (Stop := fun a u => ∃ A d, A.size = 73 ∧ u = (awW w).at d ∧ a = G (Frame.enter Try.prog 14 #[.slice (some ⟨w.heap.size, 0, none⟩) 1 1, .slice (some ⟨w.heap.size + 3, 0, none⟩) 2 2, .slice (some ⟨w.heap.size + 4, 0, none⟩) 12 12, .int .i64 100] .normal) (((Go.Conc.base 12).at ⟨A, []⟩ [.inRegion awo1 [8, 9, 10], .code aws2]) :: c :: cs))
  (aw_0 under_F0 (Nat.zero_le _) fun A hA => .stop fun d => ⟨A, d, hA, rfl, rfl⟩) fun a u ⟨A, d, hA, hu, ha⟩ => ?_
 subst ha
 have hin := aw_in (w := w) d
 have hb0 : ((awW w).at d).heap[w.heap.size]? = _ := aw_b0 (w := w)
 have hol : ∀ r, r < w.heap.size → u.heap[r]? = w.heap[r]? := fun r hr => by rw [hu]; exact aw_old hr
 have hsz : u.heap.size = w.heap.size + 5 := by rw [hu]; exact aw_size
 rw [← hu] at hin hb0
 clear hu
 refine bes_play (vs := [5]) (vb := w.heap.size) (vo := 0) (by decide) (fun _ => rfl) (fun _ => by omega) (fun k v hk => ?_) (n := 2) (M := 100) (S := awS) hin rfl ?_
 ·have : k = 0 := by have := (List.getElem?_eq_some_iff.1 hk).1; simpa using this
  subst this
  obtain rfl : 5 = v := by simpa using hk
  exact ⟨(cell_of hb0 rfl).c, (cell_of (k := 0) hb0 rfl).z⟩
 ·intro s order hd hov
  have he := awE_is hov
  have e1 : s = awE.1 := congrArg Prod.fst he
  have e2 : order = awE.2 := congrArg Prod.snd he
  subst e1
  subst e2
  rw [awE_tl, awE_hd]
  refine ⟨[], [], .nil, .nil, by decide, by decide, fun aa oa' oc' xa xc w' hP => ?_⟩
  rw [awE_live, awE_order] at *
  obtain ⟨ca, ha1, ha2, ha3⟩ := hP.arr
  obtain ⟨v, hv1, _, hv3⟩ := ha3 0 (by decide)
  rw [awE_ans] at hv3
  obtain ⟨rb, rc, rfl, h1⟩ := row_get (k := 1) hv3 rfl
  obtain ⟨_, _, e4, h4⟩ := row_get (k := 4) hv3 rfl
  cases e4
  obtain ⟨_, _, e3, h3⟩ := row_get (k := 3) hv3 rfl
  cases e3
  obtain ⟨xb, xc', e5, hx⟩ := row_get (k := 0) hP.st rfl
  cases e5
  refine bes_own (F := F0) (Stop := fun a u2 => a = G (c.finish (.bool true)) cs ∧ w'.heap.size ≤ u2.heap.size ∧ ∀ r, r < w'.heap.size → u2.heap[r]? = w'.heap[r]?)
   (aw_1 under_F0 (Nat.zero_le _) (cell_of ha1 hv1) h1 h4 h3 hx hA (.stop fun d => ⟨rfl, ?_, fun r hr => heap_alloc_lt _ _ hr⟩)) fun a u2 ⟨ha, hs2, ho2⟩ => ?_
  ·show _ ≤ (w'.alloc _).heap.size
   simp
  ·subst ha
   have hsz3 := hP.size
   refine K u2 (by omega) fun r cc e z hr => ?_
   have hlt := (Array.getElem?_eq_some_iff.1 hr).1
   have h6 := hP.old r cc e z ((hol r hlt).trans hr)
   rw [ho2 r (Array.getElem?_eq_some_iff.1 h6).1]
   exact h6
section
variable {An : Anchor} {W : World}
def LawPost (W : World) (v : Value) (w' : World) : Prop := v = .bool true ∧ ∀ (r : Nat) (c : Array Value) (e : TypeId) (z : Nat × Nat), W.heap[r]? = some (.cells c e z) → w'.heap[r]? = some (.cells c e z)
def LawStop (An : Anchor) (Post : Value → World → Prop) (g : Goroutine) (w : World) : Prop := g.status = .running ∧ ∀ d, ∃ v, stepG Try.prog true g (w.at d) = .ended (.done v) (w.at d) #[] ∧ (An.Holds (w.at d) → Post v (w.at d))
theorem law_stop {f k : Nat} {fn : Func} {A : Array Value} (hf : Try.prog.funcs[f]? = some fn) (hr : fn.results = #[.tmp k]) (h2 : ¬ 2 = f) (hA : A.getD k undef = .bool true) {w : World} (h : ∀ (r : Nat) (c : Array Value) (e : TypeId) (z : Nat × Nat), W.heap[r]? = some (.cells c e z) → w.heap[r]? = some (.cells c e z)) :
  LawStop An (LawPost W) (G { (base f).at ⟨A, []⟩ [.code .ret] with mode := .returning } []) w :=
 ⟨rfl, fun d => ⟨_, law_ends h2 hf hr hA _, fun _ => ⟨rfl, h⟩⟩⟩
end
end
noncomputable section
variable {F : Fz} {w : World}
theorem callable13 : Callable 13 := callable Try.func13 rfl rfl
theorem callable15 : Callable 15 := callable Try.func15 rfl rfl
def qpBody : Code := Try.f3.body.getD .skip
def qps0 : Code := Code.piece [] qpBody
def qpr0 : Code := Code.piece [true] qpBody
def qpo0 : Array Oper := Code.opsOf qpr0
def qps1 : Code := Code.piece [false] qpBody
def qps2 : Code := Code.piece [false, true] qpBody
def qpr1 : Code := Code.piece [false, true, true] qpBody
def qpo1 : Array Oper := Code.opsOf qpr1
def qpc10 : Code := Code.piece [false, true, false] qpBody
def qps3 : Code := Code.piece [false, true, false, true] qpBody
def qpr2 : Code := Code.piece [false, true, false, true, true] qpBody
def qpo2 : Array Oper := Code.opsOf qpr2
def qps4 : Code := Code.piece [false, false] qpBody
def qpr3 : Code := Code.piece [false, false, true] qpBody
def qpo3 : Array Oper := Code.opsOf qpr3
theorem qps0_eq : qps0 = .seq qpr0 qps1 := by kernel_rfl
theorem qpr0_eq : qpr0 = .region 0 qpo0 false := by kernel_rfl
theorem qps1_eq : qps1 = .seq qps2 qps4 := by kernel_rfl
theorem qps2_eq : qps2 = .seq qpr1 qpc10 := by kernel_rfl
theorem qpr1_eq : qpr1 = .region 1 qpo1 false := by kernel_rfl
theorem qpc10_eq : qpc10 = .cond (.tmp 10) qps3 .skip := by kernel_rfl
theorem qps3_eq : qps3 = .seq qpr2 .ret := by kernel_rfl
theorem qpr2_eq : qpr2 = .region 2 qpo2 false := by kernel_rfl
theorem qps4_eq : qps4 = .seq qpr3 .ret := by kernel_rfl
theorem qpr3_eq : qpr3 = .region 3 qpo3 false := by kernel_rfl
theorem enter_qp (args : Array Value) : Frame.enter Try.prog 3 args .normal = (Go.Conc.base 3).at { tmps := args ++ Array.replicate (22 - args.size) undef, defers := [] } [.code qps0] := enter_at args Try.func3 rfl
theorem callable3 : Callable 3 := callable Try.func3 rfl rfl
def qpT (s : Nat → Value) : Array Value := #[s 0, s 1, s 2, s 3, s 4, s 5, s 6, s 7, s 8, s 9, s 10, s 11, s 12, s 13, s 14, s 15, s 16, s 17, s 18, s 19, s 20, s 21]
theorem qpT_of {A : Array Value} (h : A.size = 22) : ∃ s, A = qpT s := by
 obtain ⟨s, hs, _⟩ := arr_lit A h
 exact ⟨s, hs⟩
theorem qp_0 {a b c0 d0 : Value} {cs : List Frame} {main : Bool} {Stop : Goroutine → World → Prop}
  (h : ∀ A, Slots 22 A [(0, a), (1, b), (2, c0), (3, d0)] → Own Try.prog main F Stop (G (Frame.enter Try.prog 12 #[] .normal) (((Go.Conc.base 3).at ⟨A, []⟩ [.inRegion qpo1 [0, 1], .code qpc10, .code qps4]) :: cs)) w) :
  Own Try.prog main F Stop (G (Frame.enter Try.prog 3 #[a, b, c0, d0] .normal) cs) w := by
 rw [enter_qp]
 walk_nrm
 rw [qps0_eq]
 refine ogS ?_
 rw [qpr0_eq]
 refine ogR ?_
 simp only [qpo0, Code.opsOf, qpr0, Code.piece, qpBody, Try.f3, Option.getD_some, List.size_toArray, List.length_cons, List.length_nil, Nat.reduceAdd, Nat.zero_add, List.range, List.range.loop]
 (refine oW fun dd K hK => ?_; go_simp; refine qT hK ?_; clear hK K)
 refine ogE ?_
 rw [qps1_eq]
 refine ogS ?_
 rw [qps2_eq]
 refine ogS ?_
 rw [qpr1_eq]
 refine ogR ?_
 simp only [qpo1, Code.opsOf, qpr1, Code.piece, qpBody, Try.f3, Option.getD_some, List.size_toArray, List.length_cons, List.length_nil, Nat.reduceAdd, Nat.zero_add, List.range, List.range.loop]
 refine oc callable12 #[] ?_
 refine h _ ?_
 exact ⟨rfl, rfl, rfl, rfl, rfl, trivial⟩
theorem qp_1 {a b c0 d0 : Value} {A : Array Value} (hA : Slots 22 A [(0, a), (1, b), (2, c0), (3, d0)]) {cs : List Frame} {main : Bool} {Stop : Goroutine → World → Prop}
  (h : ∀ A, Slots 22 A [(0, a), (1, b), (2, c0), (3, d0)] → Own Try.prog main F Stop (G (Frame.enter Try.prog 14 #[a, b, c0, d0] .normal) (((Go.Conc.base 3).at ⟨A, []⟩ [.inRegion qpo3 [4, 5, 6, 7, 8, 9, 10, 11], .code .ret]) :: cs)) w) :
  Own Try.prog main F Stop (G (((Go.Conc.base 3).at ⟨A, []⟩ [.inRegion qpo1 [0, 1], .code qpc10, .code qps4]).finish (.bool true)) cs) w := by
 obtain ⟨hsz, h0, h1, h2, h3, _⟩ := hA
 obtain ⟨s, rfl⟩ := qpT_of hsz
 change s 0 = _ at h0
 change s 1 = _ at h1
 change s 2 = _ at h2
 change s 3 = _ at h3
 clear hsz
 simp only [qpT, h0, h1, h2, h3]
 clear h0 h1 h2 h3
 rw [Frame.finish_at]
 simp only [qpo1, Code.opsOf, qpr1, Code.piece, qpBody, Try.f3, Option.getD_some, List.size_toArray, List.length_cons, List.length_nil, Nat.reduceAdd, Nat.zero_add, List.range, List.range.loop]
 walk_nrm
 (refine oW fun dd K hK => ?_; go_simp; refine qT hK ?_; clear hK K)
 refine ogE ?_
 rw [qpc10_eq]
 refine ogF ?_
 simp only [Bool.false_eq_true, if_false]
 refine ogK ?_
 rw [qps4_eq]
 refine ogS ?_
 rw [qpr3_eq]
 refine ogR ?_
 simp only [qpo3, Code.opsOf, qpr3, Code.piece, qpBody, Try.f3, Option.getD_some, List.size_toArray, List.length_cons, List.length_nil, Nat.reduceAdd, Nat.zero_add, List.range, List.range.loop]
 iterate 4 (refine oW fun dd K hK => ?_; go_simp; refine qT hK ?_; clear hK K)
 refine oc callable14 #[a, b, c0, d0] ?_
 refine h _ ?_
 exact ⟨rfl, rfl, rfl, rfl, rfl, trivial⟩
theorem qp_2 {a b c0 d0 : Value} {x : Value} {A : Array Value} (hA : Slots 22 A [(0, a), (1, b), (2, c0), (3, d0)]) {cs : List Frame} {main : Bool} {Stop : Goroutine → World → Prop}
  (h : ∀ A, Slots 22 A [(15, x)] → Own Try.prog main F Stop (G (Frame.enter Try.prog 15 #[a, b, c0, d0] .normal) (((Go.Conc.base 3).at ⟨A, []⟩ [.inRegion qpo3 [9, 10, 11], .code .ret]) :: cs)) w) :
  Own Try.prog main F Stop (G (((Go.Conc.base 3).at ⟨A, []⟩ [.inRegion qpo3 [4, 5, 6, 7, 8, 9, 10, 11], .code .ret]).finish x) cs) w := by
 obtain ⟨hsz, h0, h1, h2, h3, _⟩ := hA
 obtain ⟨s, rfl⟩ := qpT_of hsz
 change s 0 = _ at h0
 change s 1 = _ at h1
 change s 2 = _ at h2
 change s 3 = _ at h3
 clear hsz
 simp only [qpT, h0, h1, h2, h3]
 clear h0 h1 h2 h3
 rw [Frame.finish_at]
 simp only [qpo3, Code.opsOf, qpr3, Code.piece, qpBody, Try.f3, Option.getD_some, List.size_toArray, List.length_cons, List.length_nil, Nat.reduceAdd, Nat.zero_add, List.range, List.range.loop]
 walk_nrm
 iterate 4 (refine oW fun dd K hK => ?_; go_simp; refine qT hK ?_; clear hK K)
 refine oc callable15 #[a, b, c0, d0] ?_
 refine h _ ?_
 exact ⟨rfl, rfl, trivial⟩
theorem qp_3 {x y : Value} {A : Array Value} (hA : Slots 22 A [(15, x)]) {cs : List Frame} {main : Bool} {Stop : Goroutine → World → Prop}
  (h : ∀ A, Slots 22 A [(15, x)] → Own Try.prog main F Stop (G (Frame.enter Try.prog 13 #[x, y] .normal) (((Go.Conc.base 3).at ⟨A, []⟩ [.inRegion qpo3 [10, 11], .code .ret]) :: cs)) w) :
  Own Try.prog main F Stop (G (((Go.Conc.base 3).at ⟨A, []⟩ [.inRegion qpo3 [9, 10, 11], .code .ret]).finish y) cs) w := by
 obtain ⟨hsz, h15, _⟩ := hA
 obtain ⟨s, rfl⟩ := qpT_of hsz
 change s 15 = _ at h15
 clear hsz
 simp only [qpT, h15]
 clear h15
 rw [Frame.finish_at]
 simp only [qpo3, Code.opsOf, qpr3, Code.piece, qpBody, Try.f3, Option.getD_some, List.size_toArray, List.length_cons, List.length_nil, Nat.reduceAdd, Nat.zero_add, List.range, List.range.loop]
 walk_nrm
 refine oc callable13 #[x, y] ?_
 refine h _ ?_
 exact ⟨rfl, rfl, trivial⟩
theorem qp_4 {z x : Value} {A : Array Value} (hA : Slots 22 A [(15, z)]) {cs : List Frame} {main : Bool} {Stop : Goroutine → World → Prop}
  (h : ∀ A, Slots 22 A [(8, x)] → Own Try.prog main F Stop (G { (Go.Conc.base 3).at ⟨A, []⟩ [.code .ret] with mode := .returning } cs) w) :
  Own Try.prog main F Stop (G (((Go.Conc.base 3).at ⟨A, []⟩ [.inRegion qpo3 [10, 11], .code .ret]).finish x) cs) w := by
 obtain ⟨hsz, h15, _⟩ := hA
 obtain ⟨s, rfl⟩ := qpT_of hsz
 change s 15 = _ at h15
 clear hsz
 simp only [qpT, h15]
 clear h15
 rw [Frame.finish_at]
 simp only [qpo3, Code.opsOf, qpr3, Code.piece, qpBody, Try.f3, Option.getD_some, List.size_toArray, List.length_cons, List.length_nil, Nat.reduceAdd, Nat.zero_add, List.range, List.range.loop]
 walk_nrm
 (refine oW fun dd K hK => ?_; go_simp; refine qT hK ?_; clear hK K)
 refine ogE ?_
 refine ogX ?_
 refine h _ ?_
 exact ⟨rfl, rfl, trivial⟩
end
noncomputable section
variable {w w' : World}
def nxI : Option Nat → Int
 | none => -1
 | some n => n
def boxC (l : List (Int × Option Nat)) : List Value := (l.map fun b => [Value.int .i64 b.1, .int .i64 (nxI b.2)]).flatten
def callC (k : Int) (c : RC) (dn ok : Bool) (n : Int) : Array Value := #[.int .i64 k, .int .i64 c.ph, .int .i64 c.H, .int .i64 c.T, .int .i64 (nxI c.N), .int .i64 c.new, .bool dn, .bool ok, .int .i64 n, .slice none 0 0]
theorem end_calls {cb : Nat} {ok : Bool} {n : Int} {c0 c1 c2 c3 c4 c5 c6 c7 c8 c9 : Value} (h : w.heap[cb]? = some (.cells #[c0, c1, c2, c3, c4, c5, c6, c7, c8, c9] 48 (0, 0))) :
  Calls Try.prog 48 #[.pointer (some ⟨cb, 0, none⟩), .bool ok, .int .i64 n] w fun e w' => e = .returned (.tuple #[]) ∧
   w' = ((w.setCell ⟨cb, 6, none⟩ (.bool true)).setCell ⟨cb, 7, none⟩ (.bool ok)).setCell ⟨cb, 8, none⟩ (.int .i64 n) := by
 have e6 : w.cell? ⟨cb, 6, none⟩ = some c6 := by simp [World.cell?, h]
 have e7 : w.cell? ⟨cb, 7, none⟩ = some c7 := by simp [World.cell?, h]
 have e8 : w.cell? ⟨cb, 8, none⟩ = some c8 := by simp [World.cell?, h]
 have z : ∀ k, w.frozen? ⟨cb, k, none⟩ = false := fun k => by simp [World.frozen?, h]
 have z6 := z 6
 have z7 := z 7
 have z8 := z 8
 clear z
 go_enter Try.func48, Try.ntmps48
 go_wp2
 go_end0
 exact ⟨rfl, rfl⟩
def helpW (w : World) (rq : Nat) (tl T n : Int) : World := if tl = T then w.setCell ⟨rq, 2, none⟩ (.int .i64 n) else w
theorem help_calls {rq cb : Nat} {n hd tl T : Int} {bv c0 c1 c2 c4 c5 c6 c7 c8 c9 : Value} (hq : w.heap[rq]? = some (.cells #[bv, .int .i64 hd, .int .i64 tl] 112 (0, 0))) (h : w.heap[cb]? = some (.cells #[c0, c1, c2, .int .i64 T, c4, c5, c6, c7, c8, c9] 48 (0, 0))) :
  Calls Try.prog 64 #[.pointer (some ⟨rq, 0, none⟩), .pointer (some ⟨cb, 0, none⟩), .int .i64 n] w fun e w' => e = .returned (.tuple #[]) ∧
   w'.heap = (helpW w rq tl T n).heap := by
 have e3 : w.cell? ⟨cb, 3, none⟩ = some (.int .i64 T) := by simp [World.cell?, h]
 have e2 : w.cell? ⟨rq, 2, none⟩ = some (.int .i64 tl) := by simp [World.cell?, hq]
 have z : w.frozen? ⟨rq, 2, none⟩ = false := by simp [World.frozen?, hq]
 go_enter Try.func64, Try.ntmps64
 go_wp2
 go_quiet (fail)
 go_wp2
 all_goals go_end0
 all_goals refine ⟨rfl, ?_⟩
 ·rename_i hh
  rw [helpW, if_pos (by simpa using hh)]
  rfl
 ·rename_i hh
  rw [helpW, if_neg (by simpa using hh)]
  rfl
structure RefQ (w : World) (rq bb bc : Nat) (q : RQ) : Prop where
 o : w.heap[rq]? = some (.cells #[.slice (some ⟨bb, 0, none⟩) q.B.length bc, .int .i64 q.hd, .int .i64 q.tl] 112 (0, 0))
 b : ∃ cur, w.heap[bb]? = some (.cells cur 109 (0, 0)) ∧ cur.size = bc * 2 ∧ q.B.length ≤ bc ∧ bc ≤ maxLen ∧ ∀ k x, q.B[k]? = some x → cur[k * 2]? = some (.int .i64 x.1) ∧ cur[k * 2 + 1]? = some (.int .i64 (nxI x.2))
structure WfQ (q : RQ) : Prop where
 hd : q.hd < q.B.length
 tl : q.tl < q.B.length
 nx : ∀ (k : Nat) (v : Int) (n : Nat), q.B[k]? = some (v, some n) → n < q.B.length
structure VdC (q : RQ) (c : RC) : Prop where
 H : c.H < q.B.length
 T : c.T < q.B.length
 N : ∀ n, c.N = some n → n < q.B.length
 new : c.new < q.B.length
theorem heap_set_eq {b k : Nat} {c : Array Value} {e : TypeId} {z : Nat × Nat} {v : Value} (h : w.heap[b]? = some (.cells c e z)) : (w.setCell ⟨b, k, none⟩ v).heap[b]? = some (.cells (c.setIfInBounds k v) e z) := by
 rw [heap_setCell_eq h]
theorem RefQ.nxt {rq bb bc : Nat} {q : RQ} (h : RefQ w rq bb bc q) {k : Nat} (hk : k < q.B.length) : w.cell? ⟨bb, k * 2 + 1, none⟩ = some (.int .i64 (nxI (q.nx k))) ∧ w.cell? ⟨bb, k * 2, none⟩ = some (.int .i64 (q.vl k)) ∧ ∀ j, w.frozen? ⟨bb, j, none⟩ = false := by
 obtain ⟨cur, h1, h2, h3, _, h4⟩ := h.b
 obtain ⟨e1, e2⟩ := h4 k _ (List.getElem?_eq_getElem hk)
 refine ⟨?_, ?_, fun j => by simp [World.frozen?, h1]⟩
 ·simp only [World.cell?, h1]
  simpa [RQ.nx, List.getElem?_eq_getElem hk] using e2
 ·simp only [World.cell?, h1]
  simpa [RQ.vl, List.getElem?_eq_getElem hk] using e1
section
variable {rq cb bb bc : Nat} {q : RQ} {c : RC} {k : Int}
structure Fx (w : World) (rq cb bb bc : Nat) (q : RQ) (k : Int) (c : RC) : Prop where
 q0 : w.cell? ⟨rq, 0, none⟩ = some (.slice (some ⟨bb, 0, none⟩) q.B.length bc)
 q1 : w.cell? ⟨rq, 1, none⟩ = some (.int .i64 q.hd)
 q2 : w.cell? ⟨rq, 2, none⟩ = some (.int .i64 q.tl)
 c0 : w.cell? ⟨cb, 0, none⟩ = some (.int .i64 k)
 c1 : w.cell? ⟨cb, 1, none⟩ = some (.int .i64 c.ph)
 c2 : w.cell? ⟨cb, 2, none⟩ = some (.int .i64 c.H)
 c3 : w.cell? ⟨cb, 3, none⟩ = some (.int .i64 c.T)
 c4 : w.cell? ⟨cb, 4, none⟩ = some (.int .i64 (nxI c.N))
 c5 : w.cell? ⟨cb, 5, none⟩ = some (.int .i64 c.new)
 zq : ∀ j, w.frozen? ⟨rq, j, none⟩ = false
 zc : ∀ j, w.frozen? ⟨cb, j, none⟩ = false
theorem fx_of {dn ok : Bool} {n : Int} (h : RefQ w rq bb bc q) (hc : w.heap[cb]? = some (.cells (callC k c dn ok n) 48 (0, 0))) : Fx w rq cb bb bc q k c := by
 have ho := h.o
 constructor <;> first | (simp [World.cell?, ho]; done) | (simp [World.cell?, hc, callC]; done) | (simp [World.frozen?, ho]; done) | (simp [World.frozen?, hc]; done)
theorem put1_calls (hQ : RefQ w rq bb bc q) (hc : w.heap[cb]? = some (.cells (callC k c false false 0) 48 (0, 0))) (hp : c.ph = 1) :
  Calls Try.prog 49 #[.pointer (some ⟨rq, 0, none⟩), .pointer (some ⟨cb, 0, none⟩)] w fun e w' => e = .returned (.tuple #[]) ∧
   w'.heap = ((w.setCell ⟨cb, 3, none⟩ (.int .i64 q.tl)).setCell ⟨cb, 1, none⟩ (.int .i64 2)).heap := by
 obtain ⟨q0, q1, q2, c0, c1, c2, c3, c4, c5, zq, zc⟩ := fx_of hQ hc
 rw [hp] at c1
 have zq2 := zq 2
 have zc1 := zc 1
 have zc3 := zc 3
 clear zq zc hQ hc
 go_enter Try.func49, Try.ntmps49
 go_wp2
 go_end0
 exact ⟨rfl, rfl⟩
end
end
end Go.Proofs.Ytcejbandeikdjaa
