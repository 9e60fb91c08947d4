/-
  The law QueueKeeps holds of the given program: whatever the schedule, what was put into a queue is taken once or is there still, and each maker's numbers are taken in order (QueueKeepsSaid; no condition).
  Part 4 of 6.
-/
import Derived.Test.YtcejbandeikdjaaZC
set_option linter.unusedSimpArgs false
set_option linter.unusedVariables false
namespace Go.Proofs.Ytcejbandeikdjaa
open Go Go.Conc Go.RowKit Go.Proofs
open Go.ConcN (sumTo upd sumTo_upd upd_ne upd_same)
variable {F : Fz} {w w' : World}
theorem w0_size (w : World) (M n : Nat) : (ovW0 w M n).heap.size = w.heap.size + 3 := by simp [ovW0]
theorem w0_mo (w : World) (M n : Nat) : (ovW0 w M n).heap[w.heap.size]? = some (.cells #[.int .i64 M] 3) := by
  unfold ovW0
  rw [heap_alloc_lt _ _ (by simp; omega), heap_alloc_lt _ _ (by simp)]
  exact heap_alloc_new _ _
theorem w0_od (w : World) (M n : Nat) : (ovW0 w M n).heap[w.heap.size + 1]? = some (.cells #[.slice none 0 0] 24) := by
  unfold ovW0
  rw [heap_alloc_lt _ _ (by simp)]
  simpa using heap_alloc_new (w.alloc (.cells #[.int .i64 M] 3)) (.cells #[.slice none 0 0] 24)
theorem w0_n (w : World) (M n : Nat) : (ovW0 w M n).heap[w.heap.size + 2]? = some (.cells #[.int .i64 n] 3) := by
  unfold ovW0
  simpa using heap_alloc_new ((w.alloc (.cells #[.int .i64 M] 3)).alloc (.cells #[.slice none 0 0] 24)) (.cells #[.int .i64 n] 3)
theorem Wf.of_old {nn : Nat} (hU : Under F nn) (h : Wf F w) (ho : ∀ r, r < nn → w'.heap[r]? = w.heap[r]?) : Wf F w' := by
  constructor
  intro r z hz
  obtain ⟨c, e, z0, h1, h2⟩ := h.own r z hz
  exact ⟨c, e, z0, (ho r (hU r z hz)).trans h1, h2⟩
theorem ov_setup {An : Anchor} (hAb : An.b ≤ w.heap.size) (hU : Under F w.heap.size) (hwf : Wf F w) {ta : Option Addr} {tl tc M : Nat} {sch : Value} {m : Int} (htl : tl ≤ 64) (hM : min (max m 0) 1048576 = (M : Int)) {cs : List Frame} {main : Bool} {Stop : Goroutine → World → Prop}
    (h : ∀ (g : Gate) (v : Mine) (w' : World) (A : Array Value), g.an = An → g.n = tl → Made w.heap.size M g v w' → Slots 129 A (ovBirth g v (.slice ta tl tc) sch 0) → Own Try.prog main F Stop (G ((Go.Conc.base 62).at ⟨A, []⟩ [.code ovs14, .inLoop ovs14, .inBlock 2, .code ovs21]) cs) w') :
    Own Try.prog main F Stop (G (Frame.enter Try.prog 62 #[.slice ta tl tc, sch, .int .i64 m] .normal) cs) w := by
  refine ov_s0 hU (Nat.le_refl _) htl hM fun A hA => ?_
  have hsz := w0_size w M tl
  have hmo := w0_mo w M tl
  have hod := w0_od w M tl
  have hnb := w0_n w M tl
  have hwf0 : Wf F (ovW0 w M tl) := hwf.of_old hU fun r hr => by
    unfold ovW0
    rw [heap_alloc_lt _ _ (by simp; omega), heap_alloc_lt _ _ (by simp; omega), heap_alloc_lt _ _ hr]
  have hsn : SN w.heap.size (w.heap.size + 2) tl (ovW0 w M tl) := ⟨by omega, by omega, by simp [World.cell?, hnb], by simp [World.frozen?, hnb]⟩
  generalize ovW0 w M tl = W0 at *
  rw [ovs3_eq]
  refine own_go rfl (fun d => stepG_seq) (Own.at ?_ W0.drawn)
  refine ov_s3 (k := [.code ovs4]) hU htl hsn hA fun w1 tv tb bk br A h3 hA => ?_
  have hnb1 := (h3.old _ (by omega)).trans hnb
  have hS0 : Stands F w.heap.size tl tv tb bk br w.heap.size (w.heap.size + 1) (w.heap.size + 2) M (.slice none 0 0) [] w1 := by
    have hl := h3.low
    refine ⟨⟨by have := h3.size; omega, hwf0.of_old hU fun r hr => h3.old r (by omega), h3.htv, h3.htb⟩, World.ownsRow_nil _ _ _ _, by simp, by simp, by simp, ⟨h3.hbk, by omega, by simp⟩, ⟨h3.hbr, by omega⟩, ⟨(h3.old _ (by omega)).trans hmo, Nat.le_refl _⟩, ⟨(h3.old _ (by omega)).trans hod, by omega⟩, ⟨hnb1, by omega⟩, by omega, by omega⟩
  refine ov_w2 (n := tl) (nb := w.heap.size + 2) (by simp [World.cell?, hnb1]) (by simp [World.frozen?, hnb1]) hA fun A hA => ?_
  refine ov_stands hU htl (fun w2 slv sts A hS hl hA => ?_) tl 0 (by omega) w1 _ [] A hS0 rfl hA
  have hn2 := hS.nbc.1
  refine ov_w5 (n := tl) (nb := w.heap.size + 2) hU hS.st.top (Array.getElem?_eq_some_iff.1 hn2).1 (by simp [World.cell?, hn2]) (by simp [World.frozen?, hn2]) hA fun A hA => ?_
  obtain ⟨g, hga, hgn, hgt, hm⟩ := made_of hAb hS hl
  refine h g _ _ A hga hgn hm ?_
  subst hgn
  subst hgt
  exact hA
theorem inb_none {Z : Users} {g : Gate} {x : Z.X} {vs : Nat → Vars} {s0 : Nat} : inb Z g s0 (fun j => decide (j < 0) && Z.liv x j) vs none x = fun _ => none := by
  funext j
  unfold inb
  by_cases h : j = 0
  · rw [if_pos h]
  · rw [if_neg h, if_neg (fun h => by simp at h)]
def OverRel (Z : Users) (n M : Nat) (S : List Int) (x0 : Z.X) (t : Z.X × List Nat) : Prop :=
  ∃ x1, Borns Z n x0 x1 ∧ ∃ s, Turns Z n M S (x1, []) s ∧ Rounds Z n M s t
theorem bes_over {An : Anchor} {Z : Gate → Users} {x0 : ∀ g, (Z g).X} {S : List Int} {ta sa : Option Addr} {tb so sb tl tc sc M : Nat} {m : Int} (htl : tl ≤ 64) (hM : min (max m 0) 1048576 = (M : Int)) (hSl : S.length < 9223372036854775808)
    (zok : ∀ g, g.n = tl → Fits g → (Z g).Ok g) (hU0 : ∀ (g : Gate) (w' : World), g.n = tl → w.heap.size ≤ w'.heap.size → (∀ (r : Nat) (o : Obj), w.heap[r]? = some o → w'.heap[r]? = some o) → (Z g).U (x0 g) w')
    (hnw : ∀ g : Gate, g.n = tl → ∀ j, j < g.n → (Z g).nw (x0 g) j) (hR0 : ∀ (g : Gate) (r : Nat), (Z g).R (x0 g) r → r < w.heap.size) (hI0 : ∀ (g : Gate) (r : Nat), (Z g).I r ≠ none → r < w.heap.size ∧ ¬ (Z g).R (x0 g) r)
    (hta : 0 < tl → ta = some ⟨tb, 0, none⟩) (hth : ∀ g, g.n = tl → RowIs (Z g) tb 0 ((List.range tl).map fun j => .func (.func (Z g).fid) #[] ((Z g).cap j)))
    (hsa : 0 < S.length → sa = some ⟨sb, so, none⟩) (hS : ∀ g, g.n = tl → RowIs (Z g) sb so (S.map fun i : Int => Value.int .i64 i)) {c : Frame} {cs : List Frame} {Stop : Goroutine → World → Prop}
    (hk : ∀ g (t : (Z g).X × List Nat) w' oa oc bv, g.n = tl → OverRel (Z g) tl M S (x0 g) t → (Z g).U t.1 w' → w'.ownsRow w.heap.size 3 1 (.slice oa t.2.length oc) t.2.length (t.2.map fun i : Nat => Value.int .i64 i) → (∀ y, oa = some y → ¬ (Z g).R t.1 y.block) → w.heap.size ≤ w'.heap.size →
      Bes An Try.prog Stop (G (c.finish (.tuple #[.slice oa t.2.length oc, .bool (decide (0 < cnt ((Z g).liv t.1) tl)), bv])) cs) w') :
    Bes An Try.prog Stop (G (Frame.enter Try.prog 62 #[.slice ta tl tc, .slice sa S.length sc, .int .i64 m] .normal) (c :: cs)) w := by
  refine bes_assume fun hAn => ?_
  refine bes_own (A := An) (F := FT (fun _ => True) w) (Stop := fun a u => Gd (FT (fun _ => True) w) w u ∧ ∃ (g : Gate) (v : Mine) (A : Array Value), g.an = An ∧ g.n = tl ∧ Made w.heap.size M g v u ∧ Slots 129 A (ovBirth g v (.slice ta tl tc) (.slice sa S.length sc) 0) ∧ a = G ((Go.Conc.base 62).at ⟨A, []⟩ [.code ovs14, .inLoop ovs14, .inBlock 2, .code ovs21]) (c :: cs))
    (own_gd (ov_setup hAn.low (ft_under _ _) (ft_wf w) htl hM fun g v w' A hga hgn hm hA => .stop fun d => ⟨g, v, A, hga, hgn, ?_, hA, rfl⟩)) fun a w1 hS1 => ?_
  · exact ⟨hm.ok, fun a u p => (hm.lie a u p).at d, hm.top, hm.sln, fun j hj => (hm.over j hj).at d, fun j hj => (hm.brk j hj).at d, hm.chans, hm.place, hm.st, hm.br, hm.mo, hm.od, hm.n, hm.lf, hm.low, hm.dn, hm.alone⟩
  obtain ⟨hgd, g, v, A, hga, hgn, hm, hA, rfl⟩ := hS1
  subst hga
  have ok : Fits g := ⟨hm.ok⟩
  have zk := zok g hgn ok
  have hold : ∀ r o, w.heap[r]? = some o → w1.heap[r]? = some o := fun r o hr => (ft_same hgd trivial (Array.getElem?_eq_some_iff.1 hr).1).trans hr
  have hsz : w.heap.size ≤ w1.heap.size := hgd.size
  have hn64 : g.n ≤ 64 := by omega
  have hM2 : M ≤ 1048576 := by omega
  obtain ⟨asl, hsln⟩ := hm.sln
  have hR1 : ∀ r, (Z g).R (x0 g) r → r < w.heap.size := hR0 g
  have hlt : ∀ r o, w1.heap[r]? = some o → r < w1.heap.size := fun r o hr => (Array.getElem?_eq_some_iff.1 hr).1
  let N : Nat → Prop := fun r => r < w1.heap.size ∧ ¬ (Z g).R (x0 g) r
  have hNn : ∀ r, w.heap.size ≤ r → r < w1.heap.size → N r := fun r h1 h2 => ⟨h2, fun h3 => by have := hR1 r h3; omega⟩
  have HT : TI (Z g) g (fun j => (decide (j < 0) && (Z g).liv (x0 g) j) = true) (fun _ => ⟨0, 0, 0⟩) N (fun j => decide (j < 0) && !(Z g).liv (x0 g) j) (x0 g) w1 :=
    ⟨hU0 g w1 hgn hsz hold, fun j hj => by simpa using hm.over j hj, fun j hj => ⟨false, hm.brk j hj⟩, fun j hj => by simp at hj, fun c hc => ⟨0, 0, (hm.chans c hc).1⟩, fun r hr hn => hn.2 hr, fun r hr => hr.1,
      fun a u p => hNn _ (hm.place a u p) (hm.lie a u p).lt, fun j hj => hNn _ (hm.st j hj).1 (hm.st j hj).2, fun _ => hNn _ hm.br.1 hm.br.2, fun j hj => by simp at hj, fun c hc => hNn _ (hm.chans c hc).2 (hlt _ _ (hm.chans c hc).1), fun j k hj => by simp at hj,
      fun r hr => by
        obtain ⟨h1, h2⟩ := hI0 g r hr
        exact ⟨⟨by omega, h2⟩, fun j hj => by have := (hm.st j hj).1; omega, by have := hm.br.1; omega, fun j hj => by simp at hj⟩⟩
  have hal : ∀ b c e, w1.heap[b]? = some (.cells c e (0, 0)) → e = 3 ∨ e = 24 → w.heap.size ≤ b → Alone (Z g) g (fun _ => ⟨0, 0, 0⟩) (fun j => (decide (j < 0) && (Z g).liv (x0 g) j) = true) N b := fun b c e hb he hn => by
    obtain ⟨h1, h2, h3⟩ := hm.alone b c e hb he
    refine ⟨hNn _ hn (hlt _ _ hb), h1, h2, h3, fun j hj => by simp at hj, ?_⟩
    cases hI : (Z g).I b with
    | none => rfl
    | some o => have := (hI0 g b (by rw [hI]; simp)).1; omega
  have htyp : ∀ (a b : Nat) (c c' : Array Value), w1.heap[a]? = some (Obj.cells c 3 (0, 0)) → w1.heap[b]? = some (Obj.cells c' 24 (0, 0)) → a ≠ b := by
    rintro a b c c' h1 h2 rfl
    rw [h1] at h2
    cases h2
  have HM : MI (Z g) g (fun _ => ⟨0, 0, 0⟩) (fun j => (decide (j < 0) && (Z g).liv (x0 g) j) = true) N v w.heap.size M none 0 0 [] 0 w1 :=
    ⟨⟨⟨_, _, hm.n, rfl⟩, rfl⟩, ⟨⟨_, _, hm.mo, rfl⟩, rfl⟩, ⟨⟨_, _, hm.lf, rfl⟩, rfl⟩, ⟨_, hm.od, rfl⟩, World.ownsRow_nil _ _ _ _, hal _ _ _ hm.n (.inl rfl) hm.low.2.2.1, hal _ _ _ hm.mo (.inl rfl) hm.low.1, hal _ _ _ hm.lf (.inl rfl) hm.low.2.2.2, hal _ _ _ hm.od (.inr rfl) hm.low.2.1,
      fun y hy => (by cases hy), ⟨htyp _ _ _ _ hm.n hm.od, htyp _ _ _ _ hm.mo hm.od, htyp _ _ _ _ hm.lf hm.od, hm.dn.2.1, hm.dn.2.2⟩, fun y hy => (by cases hy), hsz⟩
  refine bes_tok (K := g.K) (Still := g.Still) (B0 := g.top) (fun l ⟨a, u, _, e⟩ => by subst e; rfl) (fun h => ⟨hm.lie, h⟩) fun _ s0 hs0 => ?_
  have hnone : (fun _ => none : Nat → Option Seat) = inb (Z g) g s0 (fun j => decide (j < 0) && (Z g).liv (x0 g) j) (fun _ => ⟨0, 0, 0⟩) none (x0 g) := inb_none.symm
  rw [hnone]
  have hfin : ∀ (x : (Z g).X) (u : World) (A : Array Value) (vs : Nat → Vars) (N : Nat → Prop) (ms : Option Seat), Borns (Z g) g.n (x0 g) x → TI (Z g) g (fun j => (decide (j < g.n) && (Z g).liv x j) = true) vs N (fun j => decide (j < g.n) && !(Z g).liv x j) x u →
      MI (Z g) g vs (fun j => (decide (j < g.n) && (Z g).liv x j) = true) N v w.heap.size M none 0 0 [] (cnt ((Z g).liv x) g.n) u → g.top ≤ u.heap.size → Slots 129 A (ovBirth g v (.slice ta tl tc) (.slice sa S.length sc) g.n) →
      Tok Try.prog g.K g.Still g.top (BesG g.an Try.prog Stop) (inb (Z g) g s0 (fun j => decide (j < g.n) && (Z g).liv x j) vs ms x) 0 (s0 + g.n) (G ((Go.Conc.base 62).at ⟨A, []⟩ [.code ovs14, .inLoop ovs14, .inBlock 2, .code ovs21]) (c :: cs)) u := by
    intro x u A vs N ms hB HT HM _ hA
    refine tok_go _ (fun Stop h => ov_t1 hA h) fun A d hA => ?_
    have hU2 : Under2 (Z g) g v w.heap.size M s0 (x, []) (inb (Z g) g s0 (fun j => decide (j < g.n) && (Z g).liv x j) vs ms x) (u.at d) := ⟨by simp, vs, N, none, 0, ms, rfl, HT.at zk d, HM.at d⟩
    refine tok_sched (st := (x, [])) zk hs0 hM2 hn64 hsa (hS g hgn) hSl (fun s Inb u A hs hU hA => ?_) S.length 0 (by omega) (x, []) _ _ A rfl hU2 hA
    refine tok_rounds zk hs0 hM2 hn64 (M - s.2.length) s (Nat.le_refl _) Inb u A (fun t Inb u A hr hU hA => ?_) hU hA
    refine tok_ends zk hs0 hn64 hsln (s := t) (fun u A vs N oa oc ov HT HM hK hA => ?_) hU hA
    have hse : SE g v.od oa t.2.length oc u := ⟨by obtain ⟨cc, h1, h2⟩ := HM.od; exact ⟨cc, _, h1, h2⟩, hK _ _ .tv, hK _ _ .broken⟩
    refine bes_own (F := F0) (Stop := fun a w2 => a = G (c.finish (.tuple #[.slice oa t.2.length oc, .bool (decide (0 < cnt ((Z g).liv t.1) g.n)), g.bl])) cs ∧ ∃ d, w2 = u.at d) (ov_end hse hA (.stop fun d => ⟨rfl, d, rfl⟩)) fun a w2 ⟨ha, d2, hw2⟩ => ?_
    subst ha
    subst hw2
    have hrel : OverRel (Z g) tl M S (x0 g) t := ⟨x, hgn ▸ hB, s, hgn ▸ hs, hgn ▸ hr⟩
    have := hk g t (u.at d2) oa oc g.bl hgn hrel (HT.at zk d2).u HM.row (fun y hy hR => HT.apart _ hR (HM.arow y hy).n) HM.base
    rw [← hgn] at this
    exact this
  by_cases h0 : g.n = 0
  · have e0 : (fun j => decide (j < 0) && (Z g).liv (x0 g) j) = fun j => decide (j < g.n) && (Z g).liv (x0 g) j := by rw [h0]
    have e1 : (fun j => (decide (j < 0) && (Z g).liv (x0 g) j) = true) = fun j => (decide (j < g.n) && (Z g).liv (x0 g) j) = true := by rw [h0]
    have e2 : (fun j => decide (j < 0) && !(Z g).liv (x0 g) j) = fun j => decide (j < g.n) && !(Z g).liv (x0 g) j := by rw [h0]
    rw [e1, e2] at HT
    rw [e1] at HM
    rw [e0]
    have e3 : s0 = s0 + g.n := by omega
    have e4 : cnt ((Z g).liv (x0 g)) g.n = 0 := by rw [h0]; rfl
    have := hfin (x0 g) w1 A _ N none (by rw [h0]; rfl) HT (by rw [e4]; exact HM) hm.top (by rw [h0]; exact hA)
    rw [← e3] at this
    exact this
  · obtain rfl := hta (by omega)
    refine tok_births zk hs0 hn64 (hnw g hgn) (tl := tl) (tc := tc) (sch := .slice sa S.length sc) (x0 := x0 g) (by omega) (by rw [hgn]; exact hth g hgn) hfin g.n 0 (by omega) (x0 g) w1 A _ N none rfl HT HM hm.top hA
end Go.Proofs.Ytcejbandeikdjaa
namespace Go.Proofs.Ytcejbandeikdjaa
open Go Go.Conc Go.RowKit Go.Proofs
variable {P : Program} {F : Fz} {w w' : World}
structure PtrEq (P : Program) (w : World) (x y : Option Addr) (b : Bool) : Prop where
  run : (samePointer x y).run P w = .ok b w
  ev : ∀ es, (samePointer x y).events P w es = es
theorem ptrEq_none (w : World) (x : Option Addr) : PtrEq P w x none x.isNone := by
  cases x <;> exact ⟨by simp [samePointer], by simp [samePointer]⟩
theorem ptrEq_none' (w : World) (x : Option Addr) : PtrEq P w none x x.isNone := by
  cases x <;> exact ⟨by simp [samePointer], by simp [samePointer]⟩
theorem ptrEq_block (w : World) (a b : Addr) (h : a.block = b.block) : PtrEq P w (some a) (some b) (a == b) := by
  exact ⟨by simp [samePointer, sameAddr, h], by simp [samePointer, sameAddr, h]⟩
theorem ptrEq_apart {a b : Addr} {c c' : Array Value} {e e' : TypeId} (hne : a.block ≠ b.block) (ha : w.heap[a.block]? = some (.cells c e (0, 0))) (hb : w.heap[b.block]? = some (.cells c' e' (0, 0))) : PtrEq P w (some a) (some b) false := by
  have h1 : (a.block == b.block) = false := by simpa using hne
  have fa : ∀ o s, w.frozen? ⟨a.block, o, s⟩ = false := fun o s => by simp [World.frozen?, ha]
  have fb : ∀ o s, w.frozen? ⟨b.block, o, s⟩ = false := fun o s => by simp [World.frozen?, hb]
  have fa' : w.frozen? a = false := by simp [World.frozen?, ha]
  have fb' : w.frozen? b = false := by simp [World.frozen?, hb]
  have sa : w.shape? a.block = some (e, c.size) := by simp [World.shape?, ha]
  have sb : w.shape? b.block = some (e', c'.size) := by simp [World.shape?, hb]
  exact ⟨by simp [samePointer, sameAddr, h1, noView, mayBeOne, stringish, viewAt, fa, fb, fa', fb', sa, sb], by simp [samePointer, sameAddr, h1, noView, mayBeOne, stringish, viewAt, fa, fb, fa', fb', sa, sb]⟩
section
variable {main : Bool} {b : Frame} {a : Act} {kk : List Item} {cs : List Frame} {ops : Array Oper} {i : Nat} {rest : List Nat} {o : Oper} {Stop : Goroutine → World → Prop} {f : FuncId} {fn : Func} {ats : Array TypeId}
theorem own_val {v : Value} (ho : ops[i]? = some o) (hw : Region.wanted o (yielded ops a.tmps) = true) (hk : b.kind ≠ .early) (hr : ∀ d, (execOp a.eval o).run P (w.at d) = .ok (.value v) (w'.at d))
    (hg : ∀ d, ∃ j, Grew F (w.at d) (w'.at d) j) (he : ∀ d, ∀ e ∈ (execOp a.eval o).events P (w.at d) #[], EvT F e) (h : Own P main F Stop (G (b.at (a.put o.dst v) (.inRegion ops rest :: kk)) cs) w') :
    Own P main F Stop (G (b.at a (.inRegion ops (i :: rest) :: kk)) cs) w :=
  .step rfl fun d => ⟨_, _, _, stepG_value ho hw hk (hr d), ⟨hg d, fun e hm => he d e (mem_listed hm)⟩, h.at d⟩
theorem exec_extern {args : Array Operand} {vs : Array Value} (hop : o.op = .call { callee := .value (.func f), args := args, argTypes := ats }) (hx : args.map a.eval = vs) : execOp a.eval o = callFunc f vs := by
  have ef : a.eval (.func f) = .func (.func f) #[] #[] := rfl
  unfold execOp
  subst hx
  simp [hop, resolve, Deferred.ofValue, invoke, ef]
theorem evT_ext (f : FuncId) : EvT F ⟨.mark (.extern f), false, true⟩ := ⟨fun h => by simp at h, fun m h => by cases h; exact .inr ⟨f, rfl⟩⟩
theorem own_load_ptr {x : Operand} (ho : ops[i]? = some o) (hw : Region.wanted o (yielded ops a.tmps) = true) (hk : b.kind ≠ .early) (hop : o.op = .call { callee := .value (.func f), args := #[x], argTypes := ats })
    (hf : P.funcs[f]? = some fn) (hname : (fn.name == "runtime.NumGoroutine") = false) (hb : fn.body.isNone = true) (hn : Extern.findNext fn = none)
    (he : Extern.find fn = some (Extern.Atomic.loadT .ptr)) {ad : Addr} {v : Option Addr} (hx : a.eval x = .pointer (some ad)) (hc : w.cell? ad = some (.pointer v))
    (h : Own P main F Stop (G (b.at (a.put o.dst (.pointer v)) (.inRegion ops rest :: kk)) cs) w) : Own P main F Stop (G (b.at a (.inRegion ops (i :: rest) :: kk)) cs) w := by
  have e1 : execOp a.eval o = callFunc f #[.pointer (some ad)] := exec_extern hop (by simp [hx])
  refine own_val (w' := w) ho hw hk (fun d => ?_) (fun d => ⟨0, Grew.refl _ _⟩) (fun d e hm => ?_) h
  · have hc' : (w.at d).cell? ad = some (.pointer v) := hc
    rw [e1, run_callFunc_extern hf hname hb hn he]
    change (Sem.run P (do Extern.Atomic.read .ptr (← asAddr (.pointer (some ad)))) (w.at d)).andThen _ = _
    simp [Extern.Atomic.read, asAddr, hc', Result.andThen]
  · have hc' : (w.at d).cell? ad = some (.pointer v) := hc
    rw [e1, events_callFunc_extern hf hname hb hn he] at hm
    change e ∈ Sem.events P (do Extern.Atomic.read .ptr (← asAddr (.pointer (some ad)))) (w.at d) _ at hm
    simp [Extern.Atomic.read, asAddr, hc', events_load] at hm
    rcases hm with rfl | rfl
    · exact evT_ext f
    · exact evT_read _ _
theorem own_cas_ptr {x y z : Operand} (ho : ops[i]? = some o) (hw : Region.wanted o (yielded ops a.tmps) = true) (hk : b.kind ≠ .early) (hop : o.op = .call { callee := .value (.func f), args := #[x, y, z], argTypes := ats })
    (hf : P.funcs[f]? = some fn) (hname : (fn.name == "runtime.NumGoroutine") = false) (hb : fn.body.isNone = true) (hn : Extern.findNext fn = none)
    (he : Extern.find fn = some (Extern.Atomic.casT .ptr)) {ad : Addr} {v u n : Option Addr} {t : Bool} (hs : ad.spot = none) (hx : a.eval x = .pointer (some ad)) (hy : a.eval y = .pointer u) (hz : a.eval z = .pointer n) (hc : w.cell? ad = some (.pointer v)) (hfz : w.frozen? ad = false) (hnh : ¬ held F ad)
    (hq : ∀ d, PtrEq P (w.at d) v u t) (h : Own P main F Stop (G (b.at (a.put o.dst (.bool t)) (.inRegion ops rest :: kk)) cs) (if t then w.setCell ad (.pointer n) else w)) : Own P main F Stop (G (b.at a (.inRegion ops (i :: rest) :: kk)) cs) w := by
  have e1 : execOp a.eval o = callFunc f #[.pointer (some ad), .pointer u, .pointer n] := exec_extern hop (by simp [hx, hy, hz])
  refine own_val (w' := if t then w.setCell ad (.pointer n) else w) ho hw hk (fun d => ?_) (fun d => ?_) (fun d e hm => ?_) h
  · have hc' : (w.at d).cell? ad = some (.pointer v) := hc
    have hz' : (w.at d).frozen? ad = false := hfz
    have hq' := (hq d).run
    rw [e1, run_callFunc_extern hf hname hb hn he]
    change (Sem.run P (do
      let a' ← asAddr (.pointer (some ad))
      if ← Extern.Atomic.touchesFrozen a' then unsupported (.unsafePointer "a write to bytes that a string shares")
      let eq ← match Extern.Atomic.T.ptr, ← Extern.Atomic.read .ptr a', Value.pointer u with
        | _, .int _ x, .int _ y => pure (x == y)
        | .ptr, .pointer x, .pointer y => samePointer x y
        | .int _, .pointer (some _), .int _ 0 | .int _, .int _ 0, .pointer (some _) => pure false
        | .int _, .pointer (some _), _ | .int _, _, .pointer (some _) => unsupported .addressObserved
        | _, _, _ => stuck "atomic.CompareAndSwap: old is no T"
      if eq then store a' (.pointer n) .atomic
      pure (Value.bool eq)) (w.at d)).andThen _ = _
    cases t <;> simp [Extern.Atomic.touchesFrozen, Extern.Atomic.read, asAddr, viewAt, World.shape?_isSome_of_cell? hc', hc', hz', hq', run_store P (w.at d) ad (.pointer n) .atomic rfl, Result.andThen, setCell_at']
  · cases t
    · exact ⟨0, Grew.refl _ _⟩
    · exact ⟨0, by simpa [setCell_at'] using grew_setCell (w := w.at d) hs hnh (.pointer n)⟩
  · have hc' : (w.at d).cell? ad = some (.pointer v) := hc
    have hz' : (w.at d).frozen? ad = false := hfz
    have hq' := (hq d).run
    have hq2 := (hq d).ev
    rw [e1, events_callFunc_extern hf hname hb hn he] at hm
    change e ∈ Sem.events P (do
      let a' ← asAddr (.pointer (some ad))
      if ← Extern.Atomic.touchesFrozen a' then unsupported (.unsafePointer "a write to bytes that a string shares")
      let eq ← match Extern.Atomic.T.ptr, ← Extern.Atomic.read .ptr a', Value.pointer u with
        | _, .int _ x, .int _ y => pure (x == y)
        | .ptr, .pointer x, .pointer y => samePointer x y
        | .int _, .pointer (some _), .int _ 0 | .int _, .int _ 0, .pointer (some _) => pure false
        | .int _, .pointer (some _), _ | .int _, _, .pointer (some _) => unsupported .addressObserved
        | _, _, _ => stuck "atomic.CompareAndSwap: old is no T"
      if eq then store a' (.pointer n) .atomic
      pure (Value.bool eq)) (w.at d) _ at hm
    cases t <;> simp [Extern.Atomic.touchesFrozen, Extern.Atomic.read, asAddr, viewAt, World.shape?_isSome_of_cell? hc', hc', hz', hq', hq2, events_load, run_store P (w.at d) ad (.pointer n) .atomic rfl, events_store P (w.at d) _ ad (.pointer n) .atomic rfl] at hm
    · rcases hm with rfl | rfl
      · exact evT_ext f
      · exact evT_read _ _
    · rcases hm with rfl | rfl | rfl
      · exact evT_ext f
      · exact evT_read _ _
      · exact evT_write _ _ hnh
end
end Go.Proofs.Ytcejbandeikdjaa
namespace Go.Proofs.Ytcejbandeikdjaa
open Go Go.Conc Go.RowKit Go.Proofs
variable {F : Fz} {w : World}
noncomputable def qstBody : Code := Try.f53.body.getD .skip
noncomputable def qsts0 : Code := Code.piece [] qstBody
noncomputable def qstr0 : Code := Code.piece [true] qstBody
noncomputable def qsto0 : Array Oper := Code.opsOf qstr0
noncomputable def qstc3 : Code := Code.piece [false] qstBody
noncomputable def qstr1 : Code := Code.piece [false, true] qstBody
noncomputable def qsto1 : Array Oper := Code.opsOf qstr1
theorem qsts0_eq : qsts0 = .seq qstr0 qstc3 := by kernel_rfl
theorem qstr0_eq : qstr0 = .region 0 qsto0 false := by kernel_rfl
theorem qstc3_eq : qstc3 = .cond (.tmp 3) qstr1 .skip := by kernel_rfl
theorem qstr1_eq : qstr1 = .region 1 qsto1 false := by kernel_rfl
theorem enter_qst (args : Array Value) : Frame.enter Try.prog 53 args .normal = (Go.Conc.base 53).at { tmps := args ++ Array.replicate (6 - args.size) undef, defers := [] } [.code qsts0] := enter_at args Try.func53 rfl
theorem callable53 : Callable 53 := callable Try.func53 rfl rfl
noncomputable def qldBody : Code := Try.f52.body.getD .skip
noncomputable def qlds0 : Code := Code.piece [] qldBody
noncomputable def qldr0 : Code := Code.piece [true] qldBody
noncomputable def qldo0 : Array Oper := Code.opsOf qldr0
noncomputable def qlds1 : Code := Code.piece [false] qldBody
noncomputable def qldr1 : Code := Code.piece [false, true] qldBody
noncomputable def qldo1 : Array Oper := Code.opsOf qldr1
theorem qlds0_eq : qlds0 = .seq qldr0 qlds1 := by kernel_rfl
theorem qldr0_eq : qldr0 = .region 0 qldo0 false := by kernel_rfl
theorem qlds1_eq : qlds1 = .seq qldr1 .ret := by kernel_rfl
theorem qldr1_eq : qldr1 = .region 1 qldo1 false := by kernel_rfl
theorem enter_qld (args : Array Value) : Frame.enter Try.prog 52 args .normal = (Go.Conc.base 52).at { tmps := args ++ Array.replicate (8 - args.size) undef, defers := [] } [.code qlds0] := enter_at args Try.func52 rfl
theorem callable52 : Callable 52 := callable Try.func52 rfl rfl
noncomputable def qcsBody : Code := Try.f54.body.getD .skip
noncomputable def qcss0 : Code := Code.piece [] qcsBody
noncomputable def qcsr0 : Code := Code.piece [true] qcsBody
noncomputable def qcso0 : Array Oper := Code.opsOf qcsr0
noncomputable def qcss1 : Code := Code.piece [false] qcsBody
noncomputable def qcsr1 : Code := Code.piece [false, true] qcsBody
noncomputable def qcso1 : Array Oper := Code.opsOf qcsr1
theorem qcss0_eq : qcss0 = .seq qcsr0 qcss1 := by kernel_rfl
theorem qcsr0_eq : qcsr0 = .region 0 qcso0 false := by kernel_rfl
theorem qcss1_eq : qcss1 = .seq qcsr1 .ret := by kernel_rfl
theorem qcsr1_eq : qcsr1 = .region 1 qcso1 false := by kernel_rfl
theorem enter_qcs (args : Array Value) : Frame.enter Try.prog 54 args .normal = (Go.Conc.base 54).at { tmps := args ++ Array.replicate (15 - args.size) undef, defers := [] } [.code qcss0] := enter_at args Try.func54 rfl
theorem callable54 : Callable 54 := callable Try.func54 rfl rfl
noncomputable def qnoBody : Code := Try.f51.body.getD .skip
noncomputable def qnos0 : Code := Code.piece [] qnoBody
noncomputable def qnor0 : Code := Code.piece [true] qnoBody
noncomputable def qnoo0 : Array Oper := Code.opsOf qnor0
noncomputable def qnos1 : Code := Code.piece [false] qnoBody
noncomputable def qnor1 : Code := Code.piece [false, true] qnoBody
noncomputable def qnoo1 : Array Oper := Code.opsOf qnor1
theorem qnos0_eq : qnos0 = .seq qnor0 qnos1 := by kernel_rfl
theorem qnor0_eq : qnor0 = .region 0 qnoo0 false := by kernel_rfl
theorem qnos1_eq : qnos1 = .seq qnor1 .ret := by kernel_rfl
theorem qnor1_eq : qnor1 = .region 1 qnoo1 false := by kernel_rfl
theorem enter_qno (args : Array Value) : Frame.enter Try.prog 51 args .normal = (Go.Conc.base 51).at { tmps := args ++ Array.replicate (12 - args.size) undef, defers := [] } [.code qnos0] := enter_at args Try.func51 rfl
theorem callable51 : Callable 51 := callable Try.func51 rfl rfl
theorem callable119 : Callable 119 := callable Try.func119 rfl rfl
theorem call_step (a : Addr) (w : World) : (callMethod (.iface 145 (.pointer (some a))) "Step" #[]).run Try.prog w = .ok (.enter 119 #[.pointer (some a)]) w := by kernel_rfl
theorem call_stepE (a : Addr) (w : World) (es : Array Event) : (callMethod (.iface 145 (.pointer (some a))) "Step" #[]).events Try.prog w es = es := by kernel_rfl
@[go_sem] theorem neq_nilE (t : TypeId) (v : Value) (w : World) (es : Array Event) : (binOp .neq 116 (.iface t v) .nilIface).events Try.prog w es = es := by kernel_rfl
@[go_sem] theorem eql_nilE (a : Addr) (w : World) (es : Array Event) : (binOp .eql 33 (.pointer (some a)) (.pointer none)).events Try.prog w es = es := by kernel_rfl
@[go_sem] theorem eql_nilE54 (a : Option Addr) (w : World) (es : Array Event) : (binOp .eql 54 (.pointer a) (.pointer none)).events Try.prog w es = es := by cases a <;> kernel_rfl
@[go_sem] theorem neq_nilE54 (a : Option Addr) (w : World) (es : Array Event) : (binOp .neq 54 (.pointer a) (.pointer none)).events Try.prog w es = es := by cases a <;> kernel_rfl
@[go_sem] theorem eql_nil54 (a : Option Addr) (w : World) : (binOp .eql 54 (.pointer a) (.pointer none)).run Try.prog w = .ok (.bool a.isNone) w := by cases a <;> kernel_rfl
@[go_sem] theorem neq_nil54 (a : Option Addr) (w : World) : (binOp .neq 54 (.pointer a) (.pointer none)).run Try.prog w = .ok (.bool a.isSome) w := by cases a <;> kernel_rfl
theorem size106 : (Try.prog.info? 106).map (·.size) = some 2 := by kernel_rfl
theorem eqIn54 (d : Nat) {w : World} {x y : Option Addr} {b : Bool} (h : PtrEq Try.prog w x y b) : (Op.equalIn (d + 1) 54 (.pointer x) (.pointer y)).run Try.prog w = .ok b w := by
  obtain ⟨i, hi, hs⟩ := Option.map_eq_some_iff.1 size106
  cases x with
  | none => have h1 := h.run; cases y <;> simp [samePointer] at h1 <;> subst h1 <;> simp [Op.equalIn, run_underlying Try.underlying54]
  | some x =>
    cases y with
    | none => have h1 := h.run; simp [samePointer] at h1; subst h1; simp [Op.equalIn, run_underlying Try.underlying54]
    | some y =>
      have h1 : (sameAddr x y).run Try.prog w = .ok b w := h.run
      simp [Op.equalIn, run_underlying Try.underlying54, sizeOf, typeInfo, hi, hs, h1]
theorem eqIn54E (d : Nat) {w : World} {x y : Option Addr} {b : Bool} (h : PtrEq Try.prog w x y b) (es : Array Event) : (Op.equalIn (d + 1) 54 (.pointer x) (.pointer y)).events Try.prog w es = es := by
  obtain ⟨i, hi, hs⟩ := Option.map_eq_some_iff.1 size106
  cases x with
  | none => cases y <;> simp [Op.equalIn, run_underlying Try.underlying54]
  | some x =>
    cases y with
    | none => simp [Op.equalIn, run_underlying Try.underlying54]
    | some y =>
      have h2 : (sameAddr x y).events Try.prog w es = es := h.ev es
      simp [Op.equalIn, run_underlying Try.underlying54, sizeOf, typeInfo, hi, hs, h2]
theorem eql_ptr54 {w : World} {x y : Option Addr} {b : Bool} (h : PtrEq Try.prog w x y b) : (binOp .eql 54 (.pointer x) (.pointer y)).run Try.prog w = .ok (.bool b) w := by
  have h1 : (Op.equal 54 (.pointer x) (.pointer y)).run Try.prog w = .ok b w := eqIn54 9999 h
  simp only [binOp]
  simp [h1]
theorem eql_ptr54E {w : World} {x y : Option Addr} {b : Bool} (h : PtrEq Try.prog w x y b) (es : Array Event) : (binOp .eql 54 (.pointer x) (.pointer y)).events Try.prog w es = es := by
  have h1 : (Op.equal 54 (.pointer x) (.pointer y)).run Try.prog w = .ok b w := eqIn54 9999 h
  have h2 : (Op.equal 54 (.pointer x) (.pointer y)).events Try.prog w es = es := eqIn54E 9999 h es
  simp only [binOp]
  simp [h1, h2]
def BoxP (w : World) (x : Option Addr) : Prop := x = none ∨ ∃ b c z, x = some ⟨b, 0, none⟩ ∧ w.heap[b]? = some (.cells c 106 z) ∧ c.size = 2
theorem BoxP.at {w : World} {x : Option Addr} (h : BoxP w x) (d : Nat) : BoxP (w.at d) x := h
theorem lies106 : Go.liesAt Try.prog Try.prog.depth 106 (2 / Try.prog.cellsOf 106) 0 106 1 = true := by kernel_rfl
theorem conv54 {w : World} {x : Option Addr} (h : BoxP w x) : (convert 54 58 (.pointer x)).run Try.prog w = .ok (.pointer x) w ∧ ∀ es, (convert 54 58 (.pointer x)).events Try.prog w es = es := by
  obtain ⟨i, hi, hs⟩ := Option.map_eq_some_iff.1 size106
  rcases h with rfl | ⟨b, c, z, rfl, hb, hc⟩
  · exact ⟨by kernel_rfl, fun _ => by kernel_rfl⟩
  · have sb : w.shape? b = some (106, c.size) := by simp [World.shape?, hb]
    constructor
    · simp [convert, Conv.unsafePointer, Conv.seenAt, viewAt, cellsIn, run_underlying Try.underlying54, run_underlying Try.underlying58, sizeOf, typeInfo, hi, hs, sb, hc]
    · intro es
      simp [convert, Conv.unsafePointer, Conv.seenAt, viewAt, cellsIn, run_underlying Try.underlying54, run_underlying Try.underlying58, sizeOf, typeInfo, hi, hs, sb, hc]
theorem conv58 {w : World} {x : Option Addr} (h : BoxP w x) : (convert 58 54 (.pointer x)).run Try.prog w = .ok (.pointer x) w ∧ ∀ es, (convert 58 54 (.pointer x)).events Try.prog w es = es := by
  obtain ⟨i, hi, hs⟩ := Option.map_eq_some_iff.1 size106
  have hl := lies106
  rcases h with rfl | ⟨b, c, z, rfl, hb, hc⟩
  · exact ⟨by kernel_rfl, fun _ => by kernel_rfl⟩
  · have sb : w.shape? b = some (106, c.size) := by simp [World.shape?, hb]
    constructor
    · simp [convert, Conv.unsafePointer, Conv.seenAt, viewAt, cellsIn, variablesAt, run_underlying Try.underlying54, run_underlying Try.underlying58, sizeOf, typeInfo, hi, hs, sb, hc, hl]
    · intro es
      simp [convert, Conv.unsafePointer, Conv.seenAt, viewAt, cellsIn, variablesAt, run_underlying Try.underlying54, run_underlying Try.underlying58, sizeOf, typeInfo, hi, hs, sb, hc, hl]
structure StK where
  t : TypeId
  f : FuncId
  cb : Callable f
  run : ∀ a w, (callMethod (.iface t (.pointer (some a))) "Step" #[]).run Try.prog w = .ok (.enter f #[.pointer (some a)]) w
  ev : ∀ a w es, (callMethod (.iface t (.pointer (some a))) "Step" #[]).events Try.prog w es = es
def stK : StK := ⟨145, 119, callable119, call_step, call_stepE⟩
noncomputable def stepFr (K : StK) (sa : Addr) : Frame := (Go.Conc.base 53).at ⟨#[.iface K.t (.pointer (some sa)), undef, .iface K.t (.pointer (some sa)), .bool true, .iface K.t (.pointer (some sa)), undef], []⟩ [.inRegion qsto1 [1]]
set_option maxRecDepth 100000 in
theorem own_step_call {K : StK} {sa : Addr} {cs : List Frame} {main : Bool} {Stop : Goroutine → World → Prop} (h : Own Try.prog main F Stop (G (Frame.enter Try.prog K.f #[.pointer (some sa)] .normal) (stepFr K sa :: cs)) w) :
    Own Try.prog main F Stop (G (Frame.enter Try.prog 53 #[.iface K.t (.pointer (some sa))] .normal) cs) w := by
  rw [enter_qst]
  walk_nrm
  rw [qsts0_eq]
  refine ogS ?_
  rw [qstr0_eq]
  refine ogR ?_
  simp only [qsto0, Code.opsOf, qstr0, Code.piece, qstBody, Try.f53, Option.getD_some, List.size_toArray, List.length_cons, List.length_nil, Nat.reduceAdd, Nat.zero_add, List.range, List.range.loop]
  (refine oW fun dd K hK => ?_; go_simp; refine qT hK ?_; clear hK K)
  (refine oW fun dd K hK => ?_; go_simp; refine qT hK ?_; clear hK K)
  refine ogE ?_
  rw [qstc3_eq]
  refine ogT ?_
  simp only [if_true]
  rw [qstr1_eq]
  refine ogR ?_
  simp only [qsto1, Code.opsOf, qstr1, Code.piece, qstBody, Try.f53, Option.getD_some, List.size_toArray, List.length_cons, List.length_nil, Nat.reduceAdd, Nat.zero_add, List.range, List.range.loop]
  (refine oW fun dd K hK => ?_; go_simp; refine qT hK ?_; clear hK K)
  refine own_call (f := K.f) (args := #[.pointer (some sa)]) rfl rfl (by decide) (fun w => by simp [execOp, Act.eval, resolve, invoke, Deferred.ofValue, K.cb.run, K.run]) (fun w => by simp [execOp, Act.eval, resolve, invoke, Deferred.ofValue, K.cb.run, K.cb.quiet, K.run, K.ev]) ?_
  exact h
set_option maxRecDepth 100000 in
theorem own_step_back {K : StK} {sa : Addr} {c : Frame} {cs : List Frame} {main : Bool} {Stop : Goroutine → World → Prop} (h : Own Try.prog main F Stop (G (c.finish (.tuple #[])) cs) w) :
    Own Try.prog main F Stop (G ((stepFr K sa).finish (.tuple #[])) (c :: cs)) w := by
  unfold stepFr
  rw [Frame.finish_at]
  simp only [qsto1, Code.opsOf, qstr1, Code.piece, qstBody, Try.f53, Option.getD_some, List.size_toArray, List.length_cons, List.length_nil, Nat.reduceAdd, Nat.zero_add, List.range, List.range.loop]
  walk_nrm
  refine ogE ?_
  refine own_go rfl (fun d => stepG_end) ?_
  refine own_go rfl (fun d => stepG_leave (fn := Try.f53) (v := .tuple #[]) rfl rfl Try.func53 (by simp [results, Try.f53]) (by simp [results, Try.f53, go_sem])) ?_
  exact h
set_option maxRecDepth 100000 in
theorem own_load {ad : Addr} {v : Option Addr} (hbx : BoxP w v) (hc : w.cell? ad = some (.pointer v)) (hs : ad.spot = none) {c : Frame} {cs : List Frame} {main : Bool} {Stop : Goroutine → World → Prop} (h : Own Try.prog main F Stop (G (c.finish (.pointer v)) cs) w) :
    Own Try.prog main F Stop (G (Frame.enter Try.prog 52 #[.pointer (some ad)] .normal) (c :: cs)) w := by
  obtain ⟨ab, ao, asp⟩ := ad
  simp only at hs
  subst hs
  have cv := fun d => (conv58 (hbx.at d)).1
  have cvE := fun d => (conv58 (hbx.at d)).2
  rw [enter_qld]
  walk_nrm
  rw [qlds0_eq]
  refine ogS ?_
  rw [qldr0_eq]
  refine ogR ?_
  simp only [qldo0, Code.opsOf, qldr0, Code.piece, qldBody, Try.f52, Option.getD_some, List.size_toArray, List.length_cons, List.length_nil, Nat.reduceAdd, Nat.zero_add, List.range, List.range.loop]
  (refine oW fun dd K hK => ?_; go_simp; refine qT hK ?_; clear hK K)
  refine ogE ?_
  rw [qlds1_eq]
  refine ogS ?_
  rw [qldr1_eq]
  refine ogR ?_
  simp only [qldo1, Code.opsOf, qldr1, Code.piece, qldBody, Try.f52, Option.getD_some, List.size_toArray, List.length_cons, List.length_nil, Nat.reduceAdd, Nat.zero_add, List.range, List.range.loop]
  (refine oW fun dd K hK => ?_; go_simp; refine qT hK ?_; clear hK K)
  (refine oW fun dd K hK => ?_; go_simp; refine qT hK ?_; clear hK K)
  (refine oW fun dd K hK => ?_; go_simp; refine qT hK ?_; clear hK K)
  refine own_load_ptr (f := 65) (fn := Try.f65) rfl rfl (by decide) rfl Try.func65 rfl rfl rfl rfl rfl hc ?_
  walk_nrm
  (refine own_val (v := _) (w' := w) rfl rfl (by decide) (fun d => by simp [execOp, Act.eval, cv d]; rfl) (fun d => ⟨0, Grew.refl _ _⟩) (fun d e hm => by simp [execOp, Act.eval, cvE d] at hm) ?_; walk_nrm)
  (refine oW fun dd K hK => ?_; go_simp; refine qT hK ?_; clear hK K)
  refine ogE ?_
  refine ogX ?_
  refine own_go rfl (fun d => stepG_leave (fn := Try.f52) (v := .pointer v) rfl rfl Try.func52 (by simp [results, Try.f52]) (by simp [results, Try.f52, go_sem])) ?_
  exact h
set_option maxRecDepth 100000 in
theorem own_cas {ad : Addr} {v u n : Option Addr} {t : Bool} (hc : w.cell? ad = some (.pointer v)) (hs : ad.spot = none) (hz : w.frozen? ad = false) (hnh : ¬ held F ad) (hbu : BoxP w u) (hbn : BoxP w n) (hq : ∀ d, PtrEq Try.prog (w.at d) v u t) {c : Frame} {cs : List Frame} {main : Bool} {Stop : Goroutine → World → Prop}
    (h : Own Try.prog main F Stop (G (c.finish (.bool t)) cs) (if t then w.setCell ad (.pointer n) else w)) :
    Own Try.prog main F Stop (G (Frame.enter Try.prog 54 #[.pointer (some ad), .pointer u, .pointer n] .normal) (c :: cs)) w := by
  obtain ⟨ab, ao, asp⟩ := ad
  simp only at hs
  subst hs
  have cu := fun d => (conv54 (hbu.at d)).1
  have cuE := fun d => (conv54 (hbu.at d)).2
  have cn := fun d => (conv54 (hbn.at d)).1
  have cnE := fun d => (conv54 (hbn.at d)).2
  rw [enter_qcs]
  walk_nrm
  rw [qcss0_eq]
  refine ogS ?_
  rw [qcsr0_eq]
  refine ogR ?_
  simp only [qcso0, Code.opsOf, qcsr0, Code.piece, qcsBody, Try.f54, Option.getD_some, List.size_toArray, List.length_cons, List.length_nil, Nat.reduceAdd, Nat.zero_add, List.range, List.range.loop]
  (refine oW fun dd K hK => ?_; go_simp; refine qT hK ?_; clear hK K)
  refine ogE ?_
  rw [qcss1_eq]
  refine ogS ?_
  rw [qcsr1_eq]
  refine ogR ?_
  simp only [qcso1, Code.opsOf, qcsr1, Code.piece, qcsBody, Try.f54, Option.getD_some, List.size_toArray, List.length_cons, List.length_nil, Nat.reduceAdd, Nat.zero_add, List.range, List.range.loop]
  (refine oW fun dd K hK => ?_; go_simp; refine qT hK ?_; clear hK K)
  (refine oW fun dd K hK => ?_; go_simp; refine qT hK ?_; clear hK K)
  (refine oW fun dd K hK => ?_; go_simp; refine qT hK ?_; clear hK K)
  (refine oW fun dd K hK => ?_; go_simp; refine qT hK ?_; clear hK K)
  (refine own_val (v := _) (w' := w) rfl rfl (by decide) (fun d => by simp [execOp, Act.eval, cu d]; rfl) (fun d => ⟨0, Grew.refl _ _⟩) (fun d e hm => by simp [execOp, Act.eval, cuE d] at hm) ?_; walk_nrm)
  (refine oW fun dd K hK => ?_; go_simp; refine qT hK ?_; clear hK K)
  (refine own_val (v := _) (w' := w) rfl rfl (by decide) (fun d => by simp [execOp, Act.eval, cn d]; rfl) (fun d => ⟨0, Grew.refl _ _⟩) (fun d e hm => by simp [execOp, Act.eval, cnE d] at hm) ?_; walk_nrm)
  refine own_cas_ptr (f := 66) (fn := Try.f66) (v := v) (u := u) (n := n) (t := t) rfl rfl (by decide) rfl Try.func66 rfl rfl rfl rfl rfl rfl rfl rfl hc hz hnh hq ?_
  walk_nrm
  (refine oW fun dd K hK => ?_; go_simp; refine qT hK ?_; clear hK K)
  refine ogE ?_
  refine ogX ?_
  refine own_go rfl (fun d => stepG_leave (fn := Try.f54) (v := .bool t) rfl rfl Try.func54 (by simp [results, Try.f54]) (by simp [results, Try.f54, go_sem])) ?_
  exact h
set_option maxRecDepth 100000 in
theorem own_no {q : Nat} {v : Addr} (hbx : BoxP w (some v)) (hc : w.cell? ⟨q, 0, none⟩ = some (.pointer (some v))) {c : Frame} {cs : List Frame} {main : Bool} {Stop : Goroutine → World → Prop} (h : Own Try.prog main F Stop (G (c.finish (.bool false)) cs) w) :
    Own Try.prog main F Stop (G (Frame.enter Try.prog 51 #[.pointer (some ⟨q, 0, none⟩)] .normal) (c :: cs)) w := by
  rw [enter_qno]
  walk_nrm
  rw [qnos0_eq]
  refine ogS ?_
  rw [qnor0_eq]
  refine ogR ?_
  simp only [qnoo0, Code.opsOf, qnor0, Code.piece, qnoBody, Try.f51, Option.getD_some, List.size_toArray, List.length_cons, List.length_nil, Nat.reduceAdd, Nat.zero_add, List.range, List.range.loop]
  (refine oW fun dd K hK => ?_; go_simp; refine qT hK ?_; clear hK K)
  refine ogE ?_
  rw [qnos1_eq]
  refine ogS ?_
  rw [qnor1_eq]
  refine ogR ?_
  simp only [qnoo1, Code.opsOf, qnor1, Code.piece, qnoBody, Try.f51, Option.getD_some, List.size_toArray, List.length_cons, List.length_nil, Nat.reduceAdd, Nat.zero_add, List.range, List.range.loop]
  (refine oW fun dd K hK => ?_; go_simp; refine qT hK ?_; clear hK K)
  (refine oW fun dd K hK => ?_; go_simp; refine qT hK ?_; clear hK K)
  (refine oW fun dd K hK => ?_; go_simp; refine qT hK ?_; clear hK K)
  (refine oW fun dd K hK => ?_; go_simp; refine qT hK ?_; clear hK K)
  (refine oW fun dd K hK => ?_; go_simp; refine qT hK ?_; clear hK K)
  (refine oW fun dd K hK => ?_; go_simp; refine qT hK ?_; clear hK K)
  refine oc callable52 #[.pointer (some ⟨q, 0, none⟩)] ?_
  refine own_load hbx hc rfl ?_
  rw [Frame.finish_at]
  walk_nrm
  (refine oW fun dd K hK => ?_; go_simp; refine qT hK ?_; clear hK K)
  (refine oW fun dd K hK => ?_; go_simp; refine qT hK ?_; clear hK K)
  (refine oW fun dd K hK => ?_; go_simp; refine qT hK ?_; clear hK K)
  refine ogE ?_
  refine ogX ?_
  refine own_go rfl (fun d => stepG_leave (fn := Try.f51) (v := .bool false) rfl rfl Try.func51 (by simp [results, Try.f51]) (by simp [results, Try.f51, go_sem])) ?_
  exact h
end Go.Proofs.Ytcejbandeikdjaa
namespace Go.Proofs.Ytcejbandeikdjaa
open Go Go.Conc Go.RowKit Go.Proofs
variable {F : Fz} {w : World}
theorem built106 (v : Int) : Try.prog.built 106 [(0, .int .i64 v)] = some #[.int .i64 v, .pointer none] := by kernel_rfl
@[go_sem] theorem run_build106 (v : Int) (w : World) : (Instr.build 106 #[(0, .int .i64 v)]).run Try.prog w = .ok (.agg #[.int .i64 v, .pointer none]) w := run_build w _ _ _ (built106 v)
@[go_sem] theorem ev_build106 (v : Int) (w : World) (es : Array Event) : (Instr.build 106 #[(0, .int .i64 v)]).events Try.prog w es = es := ev_build w es _ _ _ _ Try.underlying106 (built106 v)
noncomputable def putBody : Code := Try.f25.body.getD .skip
noncomputable def puts0 : Code := Code.piece [] putBody
noncomputable def puts1 : Code := Code.piece [true] putBody
noncomputable def putr0 : Code := Code.piece [true, true] putBody
noncomputable def puto0 : Array Oper := Code.opsOf putr0
noncomputable def putc10 : Code := Code.piece [true, false] putBody
noncomputable def puts2 : Code := Code.piece [false] putBody
noncomputable def putr1 : Code := Code.piece [false, true] putBody
noncomputable def puto1 : Array Oper := Code.opsOf putr1
noncomputable def putb0 : Code := Code.piece [false, false] putBody
noncomputable def putl3 : Code := Code.piece [false, false, true] putBody
noncomputable def putb1 : Code := Code.piece [false, false, true, true] putBody
noncomputable def puts4 : Code := Code.piece [false, false, true, true, true] putBody
noncomputable def putr2 : Code := Code.piece [false, false, true, true, true, true] putBody
noncomputable def puto2 : Array Oper := Code.opsOf putr2
noncomputable def puts5 : Code := Code.piece [false, false, true, true, true, false] putBody
noncomputable def putr3 : Code := Code.piece [false, false, true, true, true, false, true] putBody
noncomputable def puto3 : Array Oper := Code.opsOf putr3
noncomputable def puts6 : Code := Code.piece [false, false, true, true, true, false, false] putBody
noncomputable def putr4 : Code := Code.piece [false, false, true, true, true, false, false, true] putBody
noncomputable def puto4 : Array Oper := Code.opsOf putr4
noncomputable def puts7 : Code := Code.piece [false, false, true, true, true, false, false, false] putBody
noncomputable def puts8 : Code := Code.piece [false, false, true, true, true, false, false, false, true] putBody
noncomputable def putr5 : Code := Code.piece [false, false, true, true, true, false, false, false, true, true] putBody
noncomputable def puto5 : Array Oper := Code.opsOf putr5
noncomputable def puts9 : Code := Code.piece [false, false, true, true, true, false, false, false, true, false] putBody
noncomputable def putr6 : Code := Code.piece [false, false, true, true, true, false, false, false, true, false, true] putBody
noncomputable def puto6 : Array Oper := Code.opsOf putr6
noncomputable def putc27 : Code := Code.piece [false, false, true, true, true, false, false, false, true, false, false] putBody
noncomputable def puts10 : Code := Code.piece [false, false, true, true, true, false, false, false, true, false, false, true] putBody
noncomputable def putr7 : Code := Code.piece [false, false, true, true, true, false, false, false, true, false, false, true, true] putBody
noncomputable def puto7 : Array Oper := Code.opsOf putr7
noncomputable def puts11 : Code := Code.piece [false, false, true, true, true, false, false, false, true, false, false, true, false] putBody
noncomputable def putr8 : Code := Code.piece [false, false, true, true, true, false, false, false, true, false, false, true, false, true] putBody
noncomputable def puto8 : Array Oper := Code.opsOf putr8
noncomputable def puts12 : Code := Code.piece [false, false, true, true, true, false, false, false, false] putBody
noncomputable def putr9 : Code := Code.piece [false, false, true, true, true, false, false, false, false, true] putBody
noncomputable def puto9 : Array Oper := Code.opsOf putr9
noncomputable def puts13 : Code := Code.piece [false, false, true, true, true, false, false, false, false, false] putBody
noncomputable def putr10 : Code := Code.piece [false, false, true, true, true, false, false, false, false, false, true] putBody
noncomputable def puto10 : Array Oper := Code.opsOf putr10
noncomputable def putc42 : Code := Code.piece [false, false, true, true, true, false, false, false, false, false, false] putBody
noncomputable def puts14 : Code := Code.piece [false, false, true, true, true, false, false, false, false, false, false, true] putBody
noncomputable def putr11 : Code := Code.piece [false, false, true, true, true, false, false, false, false, false, false, true, true] putBody
noncomputable def puto11 : Array Oper := Code.opsOf putr11
noncomputable def puts15 : Code := Code.piece [false, false, true, true, true, false, false, false, false, false, false, true, false] putBody
noncomputable def putr12 : Code := Code.piece [false, false, true, true, true, false, false, false, false, false, false, true, false, true] putBody
noncomputable def puto12 : Array Oper := Code.opsOf putr12
theorem puts0_eq : puts0 = .seq puts1 puts2 := by kernel_rfl
theorem puts1_eq : puts1 = .seq putr0 putc10 := by kernel_rfl
theorem putr0_eq : putr0 = .region 0 puto0 false := by kernel_rfl
theorem putc10_eq : putc10 = .cond (.tmp 10) .ret .skip := by kernel_rfl
theorem puts2_eq : puts2 = .seq putr1 putb0 := by kernel_rfl
theorem putr1_eq : putr1 = .region 1 puto1 false := by kernel_rfl
theorem putb0_eq : putb0 = .block 0 putl3 := by kernel_rfl
theorem putl3_eq : putl3 = .loop putb1 := by kernel_rfl
theorem putb1_eq : putb1 = .block 1 puts4 := by kernel_rfl
theorem puts4_eq : puts4 = .seq putr2 puts5 := by kernel_rfl
theorem putr2_eq : putr2 = .region 2 puto2 false := by kernel_rfl
theorem puts5_eq : puts5 = .seq putr3 puts6 := by kernel_rfl
theorem putr3_eq : putr3 = .region 3 puto3 false := by kernel_rfl
theorem puts6_eq : puts6 = .seq putr4 puts7 := by kernel_rfl
theorem putr4_eq : putr4 = .region 4 puto4 false := by kernel_rfl
theorem puts7_eq : puts7 = .seq puts8 puts12 := by kernel_rfl
theorem puts8_eq : puts8 = .seq putr5 puts9 := by kernel_rfl
theorem putr5_eq : putr5 = .region 5 puto5 false := by kernel_rfl
theorem puts9_eq : puts9 = .seq putr6 putc27 := by kernel_rfl
theorem putr6_eq : putr6 = .region 6 puto6 false := by kernel_rfl
theorem putc27_eq : putc27 = .cond (.tmp 27) puts10 .skip := by kernel_rfl
theorem puts10_eq : puts10 = .seq putr7 puts11 := by kernel_rfl
theorem putr7_eq : putr7 = .region 7 puto7 false := by kernel_rfl
theorem puts11_eq : puts11 = .seq putr8 (.exit 1) := by kernel_rfl
theorem putr8_eq : putr8 = .region 8 puto8 false := by kernel_rfl
theorem puts12_eq : puts12 = .seq putr9 puts13 := by kernel_rfl
theorem putr9_eq : putr9 = .region 9 puto9 false := by kernel_rfl
theorem puts13_eq : puts13 = .seq putr10 putc42 := by kernel_rfl
theorem putr10_eq : putr10 = .region 10 puto10 false := by kernel_rfl
theorem putc42_eq : putc42 = .cond (.tmp 42) puts14 .skip := by kernel_rfl
theorem puts14_eq : puts14 = .seq putr11 puts15 := by kernel_rfl
theorem putr11_eq : putr11 = .region 11 puto11 false := by kernel_rfl
theorem puts15_eq : puts15 = .seq putr12 .ret := by kernel_rfl
theorem putr12_eq : putr12 = .region 12 puto12 false := by kernel_rfl
theorem enter_put (args : Array Value) : Frame.enter Try.prog 25 args .normal = (Go.Conc.base 25).at { tmps := args ++ Array.replicate (51 - args.size) undef, defers := [] } [.code puts0] := enter_at args Try.func25 rfl
theorem callable25 : Callable 25 := callable Try.func25 rfl rfl
def putT (s : Nat → Value) : Array Value := #[s 0, s 1, s 2, s 3, s 4, s 5, s 6, s 7, s 8, s 9, s 10, s 11, s 12, s 13, s 14, s 15, s 16, s 17, s 18, s 19, s 20, s 21, s 22, s 23, s 24, s 25, s 26, s 27, s 28, s 29, s 30, s 31, s 32, s 33, s 34, s 35, s 36, s 37, s 38, s 39, s 40, s 41, s 42, s 43, s 44, s 45, s 46, s 47, s 48, s 49, s 50]
theorem putT_of {A : Array Value} (h : A.size = 51) : ∃ s, A = putT s := by
  obtain ⟨s, hs, _⟩ := arr_lit A h
  exact ⟨s, hs⟩
noncomputable def takBody : Code := Try.f26.body.getD .skip
noncomputable def taks0 : Code := Code.piece [] takBody
noncomputable def takr0 : Code := Code.piece [true] takBody
noncomputable def tako0 : Array Oper := Code.opsOf takr0
noncomputable def taks1 : Code := Code.piece [false] takBody
noncomputable def taks2 : Code := Code.piece [false, true] takBody
noncomputable def takr1 : Code := Code.piece [false, true, true] takBody
noncomputable def tako1 : Array Oper := Code.opsOf takr1
noncomputable def takc10 : Code := Code.piece [false, true, false] takBody
noncomputable def taks3 : Code := Code.piece [false, true, false, true] takBody
noncomputable def takr2 : Code := Code.piece [false, true, false, true, true] takBody
noncomputable def tako2 : Array Oper := Code.opsOf takr2
noncomputable def takb0 : Code := Code.piece [false, false] takBody
noncomputable def takl4 : Code := Code.piece [false, false, true] takBody
noncomputable def takb1 : Code := Code.piece [false, false, true, true] takBody
noncomputable def taks5 : Code := Code.piece [false, false, true, true, true] takBody
noncomputable def takr3 : Code := Code.piece [false, false, true, true, true, true] takBody
noncomputable def tako3 : Array Oper := Code.opsOf takr3
noncomputable def taks6 : Code := Code.piece [false, false, true, true, true, false] takBody
noncomputable def takr4 : Code := Code.piece [false, false, true, true, true, false, true] takBody
noncomputable def tako4 : Array Oper := Code.opsOf takr4
noncomputable def taks7 : Code := Code.piece [false, false, true, true, true, false, false] takBody
noncomputable def takr5 : Code := Code.piece [false, false, true, true, true, false, false, true] takBody
noncomputable def tako5 : Array Oper := Code.opsOf takr5
noncomputable def taks8 : Code := Code.piece [false, false, true, true, true, false, false, false] takBody
noncomputable def takr6 : Code := Code.piece [false, false, true, true, true, false, false, false, true] takBody
noncomputable def tako6 : Array Oper := Code.opsOf takr6
noncomputable def taks9 : Code := Code.piece [false, false, true, true, true, false, false, false, false] takBody
noncomputable def takr7 : Code := Code.piece [false, false, true, true, true, false, false, false, false, true] takBody
noncomputable def tako7 : Array Oper := Code.opsOf takr7
noncomputable def taks10 : Code := Code.piece [false, false, true, true, true, false, false, false, false, false] takBody
noncomputable def takr8 : Code := Code.piece [false, false, true, true, true, false, false, false, false, false, true] takBody
noncomputable def tako8 : Array Oper := Code.opsOf takr8
noncomputable def takb2 : Code := Code.piece [false, false, true, true, true, false, false, false, false, false, false] takBody
noncomputable def taks11 : Code := Code.piece [false, false, true, true, true, false, false, false, false, false, false, true] takBody
noncomputable def takr12 : Code := Code.piece [false, false, true, true, true, false, false, false, false, false, false, true, true] takBody
noncomputable def tako12 : Array Oper := Code.opsOf takr12
noncomputable def takc41 : Code := Code.piece [false, false, true, true, true, false, false, false, false, false, false, true, false] takBody
noncomputable def taks12 : Code := Code.piece [false, false, true, true, true, false, false, false, false, false, false, true, false, true] takBody
noncomputable def takr13 : Code := Code.piece [false, false, true, true, true, false, false, false, false, false, false, true, false, true, true] takBody
noncomputable def tako13 : Array Oper := Code.opsOf takr13
noncomputable def taks13 : Code := Code.piece [false, false, true, true, true, false, false, false, false, false, false, true, false, false] takBody
noncomputable def takr14 : Code := Code.piece [false, false, true, true, true, false, false, false, false, false, false, true, false, false, true] takBody
noncomputable def tako14 : Array Oper := Code.opsOf takr14
noncomputable def takc44 : Code := Code.piece [false, false, true, true, true, false, false, false, false, false, false, true, false, false, false] takBody
noncomputable def taks14 : Code := Code.piece [false, false, true, true, true, false, false, false, false, false, false, true, false, false, false, true] takBody
noncomputable def takr15 : Code := Code.piece [false, false, true, true, true, false, false, false, false, false, false, true, false, false, false, true, true] takBody
noncomputable def tako15 : Array Oper := Code.opsOf takr15
noncomputable def takr16 : Code := Code.piece [false, false, true, true, true, false, false, false, false, false, false, true, false, false, false, true, false] takBody
noncomputable def tako16 : Array Oper := Code.opsOf takr16
noncomputable def taks15 : Code := Code.piece [false, false, true, true, true, false, false, false, false, false, false, true, false, false, false, false] takBody
noncomputable def takr9 : Code := Code.piece [false, false, true, true, true, false, false, false, false, false, false, true, false, false, false, false, true] takBody
noncomputable def tako9 : Array Oper := Code.opsOf takr9
noncomputable def taks16 : Code := Code.piece [false, false, true, true, true, false, false, false, false, false, false, true, false, false, false, false, false] takBody
noncomputable def takr10 : Code := Code.piece [false, false, true, true, true, false, false, false, false, false, false, true, false, false, false, false, false, true] takBody
noncomputable def tako10 : Array Oper := Code.opsOf takr10
noncomputable def takc36 : Code := Code.piece [false, false, true, true, true, false, false, false, false, false, false, true, false, false, false, false, false, false] takBody
noncomputable def taks17 : Code := Code.piece [false, false, true, true, true, false, false, false, false, false, false, true, false, false, false, false, false, false, true] takBody
noncomputable def takr11 : Code := Code.piece [false, false, true, true, true, false, false, false, false, false, false, true, false, false, false, false, false, false, true, true] takBody
noncomputable def tako11 : Array Oper := Code.opsOf takr11
theorem taks0_eq : taks0 = .seq takr0 taks1 := by kernel_rfl
theorem takr0_eq : takr0 = .region 0 tako0 false := by kernel_rfl
theorem taks1_eq : taks1 = .seq taks2 takb0 := by kernel_rfl
theorem taks2_eq : taks2 = .seq takr1 takc10 := by kernel_rfl
theorem takr1_eq : takr1 = .region 1 tako1 false := by kernel_rfl
theorem takc10_eq : takc10 = .cond (.tmp 10) taks3 .skip := by kernel_rfl
theorem taks3_eq : taks3 = .seq takr2 .ret := by kernel_rfl
theorem takr2_eq : takr2 = .region 2 tako2 false := by kernel_rfl
theorem takb0_eq : takb0 = .block 0 takl4 := by kernel_rfl
theorem takl4_eq : takl4 = .loop takb1 := by kernel_rfl
theorem takb1_eq : takb1 = .block 1 taks5 := by kernel_rfl
theorem taks5_eq : taks5 = .seq takr3 taks6 := by kernel_rfl
theorem takr3_eq : takr3 = .region 3 tako3 false := by kernel_rfl
theorem taks6_eq : taks6 = .seq takr4 taks7 := by kernel_rfl
theorem takr4_eq : takr4 = .region 4 tako4 false := by kernel_rfl
theorem taks7_eq : taks7 = .seq takr5 taks8 := by kernel_rfl
theorem takr5_eq : takr5 = .region 5 tako5 false := by kernel_rfl
theorem taks8_eq : taks8 = .seq takr6 taks9 := by kernel_rfl
theorem takr6_eq : takr6 = .region 6 tako6 false := by kernel_rfl
theorem taks9_eq : taks9 = .seq takr7 taks10 := by kernel_rfl
theorem takr7_eq : takr7 = .region 7 tako7 false := by kernel_rfl
theorem taks10_eq : taks10 = .seq takr8 takb2 := by kernel_rfl
theorem takr8_eq : takr8 = .region 8 tako8 false := by kernel_rfl
theorem takb2_eq : takb2 = .block 2 taks11 := by kernel_rfl
theorem taks11_eq : taks11 = .seq takr12 takc41 := by kernel_rfl
theorem takr12_eq : takr12 = .region 12 tako12 false := by kernel_rfl
theorem takc41_eq : takc41 = .cond (.tmp 41) taks12 taks13 := by kernel_rfl
theorem taks12_eq : taks12 = .seq takr13 .ret := by kernel_rfl
theorem takr13_eq : takr13 = .region 13 tako13 false := by kernel_rfl
theorem taks13_eq : taks13 = .seq takr14 takc44 := by kernel_rfl
theorem takr14_eq : takr14 = .region 14 tako14 false := by kernel_rfl
theorem takc44_eq : takc44 = .cond (.tmp 44) taks14 taks15 := by kernel_rfl
theorem taks14_eq : taks14 = .seq takr15 takr16 := by kernel_rfl
theorem takr15_eq : takr15 = .region 15 tako15 false := by kernel_rfl
theorem takr16_eq : takr16 = .region 16 tako16 false := by kernel_rfl
theorem taks15_eq : taks15 = .seq takr9 taks16 := by kernel_rfl
theorem takr9_eq : takr9 = .region 9 tako9 false := by kernel_rfl
theorem taks16_eq : taks16 = .seq takr10 takc36 := by kernel_rfl
theorem takr10_eq : takr10 = .region 10 tako10 false := by kernel_rfl
theorem takc36_eq : takc36 = .cond (.tmp 36) taks17 .skip := by kernel_rfl
theorem taks17_eq : taks17 = .seq takr11 .ret := by kernel_rfl
theorem takr11_eq : takr11 = .region 11 tako11 false := by kernel_rfl
theorem enter_tak (args : Array Value) : Frame.enter Try.prog 26 args .normal = (Go.Conc.base 26).at { tmps := args ++ Array.replicate (56 - args.size) undef, defers := [] } [.code taks0] := enter_at args Try.func26 rfl
theorem callable26 : Callable 26 := callable Try.func26 rfl rfl
def takT (s : Nat → Value) : Array Value := #[s 0, s 1, s 2, s 3, s 4, s 5, s 6, s 7, s 8, s 9, s 10, s 11, s 12, s 13, s 14, s 15, s 16, s 17, s 18, s 19, s 20, s 21, s 22, s 23, s 24, s 25, s 26, s 27, s 28, s 29, s 30, s 31, s 32, s 33, s 34, s 35, s 36, s 37, s 38, s 39, s 40, s 41, s 42, s 43, s 44, s 45, s 46, s 47, s 48, s 49, s 50, s 51, s 52, s 53, s 54, s 55]
theorem takT_of {A : Array Value} (h : A.size = 56) : ∃ s, A = takT s := by
  obtain ⟨s, hs, _⟩ := arr_lit A h
  exact ⟨s, hs⟩
noncomputable def empBody : Code := Try.f27.body.getD .skip
noncomputable def emps0 : Code := Code.piece [] empBody
noncomputable def empr0 : Code := Code.piece [true] empBody
noncomputable def empo0 : Array Oper := Code.opsOf empr0
noncomputable def emps1 : Code := Code.piece [false] empBody
noncomputable def emps2 : Code := Code.piece [false, true] empBody
noncomputable def empr1 : Code := Code.piece [false, true, true] empBody
noncomputable def empo1 : Array Oper := Code.opsOf empr1
noncomputable def empc7 : Code := Code.piece [false, true, false] empBody
noncomputable def emps3 : Code := Code.piece [false, true, false, true] empBody
noncomputable def empr2 : Code := Code.piece [false, true, false, true, true] empBody
noncomputable def empo2 : Array Oper := Code.opsOf empr2
noncomputable def emps4 : Code := Code.piece [false, false] empBody
noncomputable def empr3 : Code := Code.piece [false, false, true] empBody
noncomputable def empo3 : Array Oper := Code.opsOf empr3
noncomputable def emps5 : Code := Code.piece [false, false, false] empBody
noncomputable def empr4 : Code := Code.piece [false, false, false, true] empBody
noncomputable def empo4 : Array Oper := Code.opsOf empr4
noncomputable def emps6 : Code := Code.piece [false, false, false, false] empBody
noncomputable def empr5 : Code := Code.piece [false, false, false, false, true] empBody
noncomputable def empo5 : Array Oper := Code.opsOf empr5
noncomputable def emps7 : Code := Code.piece [false, false, false, false, false] empBody
noncomputable def empr6 : Code := Code.piece [false, false, false, false, false, true] empBody
noncomputable def empo6 : Array Oper := Code.opsOf empr6
theorem emps0_eq : emps0 = .seq empr0 emps1 := by kernel_rfl
theorem empr0_eq : empr0 = .region 0 empo0 false := by kernel_rfl
theorem emps1_eq : emps1 = .seq emps2 emps4 := by kernel_rfl
theorem emps2_eq : emps2 = .seq empr1 empc7 := by kernel_rfl
theorem empr1_eq : empr1 = .region 1 empo1 false := by kernel_rfl
theorem empc7_eq : empc7 = .cond (.tmp 7) emps3 .skip := by kernel_rfl
theorem emps3_eq : emps3 = .seq empr2 .ret := by kernel_rfl
theorem empr2_eq : empr2 = .region 2 empo2 false := by kernel_rfl
theorem emps4_eq : emps4 = .seq empr3 emps5 := by kernel_rfl
theorem empr3_eq : empr3 = .region 3 empo3 false := by kernel_rfl
theorem emps5_eq : emps5 = .seq empr4 emps6 := by kernel_rfl
theorem empr4_eq : empr4 = .region 4 empo4 false := by kernel_rfl
theorem emps6_eq : emps6 = .seq empr5 emps7 := by kernel_rfl
theorem empr5_eq : empr5 = .region 5 empo5 false := by kernel_rfl
theorem emps7_eq : emps7 = .seq empr6 .ret := by kernel_rfl
theorem empr6_eq : empr6 = .region 6 empo6 false := by kernel_rfl
theorem enter_emp (args : Array Value) : Frame.enter Try.prog 27 args .normal = (Go.Conc.base 27).at { tmps := args ++ Array.replicate (21 - args.size) undef, defers := [] } [.code emps0] := enter_at args Try.func27 rfl
theorem callable27 : Callable 27 := callable Try.func27 rfl rfl
def empT (s : Nat → Value) : Array Value := #[s 0, s 1, s 2, s 3, s 4, s 5, s 6, s 7, s 8, s 9, s 10, s 11, s 12, s 13, s 14, s 15, s 16, s 17, s 18, s 19, s 20]
theorem empT_of {A : Array Value} (h : A.size = 21) : ∃ s, A = empT s := by
  obtain ⟨s, hs, _⟩ := arr_lit A h
  exact ⟨s, hs⟩
set_option maxRecDepth 100000 in
set_option maxHeartbeats 2000000 in
theorem put_0 {n : Nat} (hU : Under F n) (hn : n ≤ w.heap.size) {K : StK} {sa hd : Addr} {qb : Nat} {v : Int} (hbh : BoxP w (some hd)) (hch : w.cell? ⟨qb, 0, none⟩ = some (.pointer (some hd))) {cs : List Frame} {main : Bool} {Stop : Goroutine → World → Prop}
    (h : ∀ A, Slots 51 A [(0, .pointer (some ⟨qb, 0, none⟩)), (1, .iface K.t (.pointer (some sa))), (2, .int .i64 v), (6, .pointer (some ⟨w.heap.size, 0, none⟩))] → Own Try.prog main F Stop (G (Frame.enter Try.prog K.f #[.pointer (some sa)] .normal) (stepFr K sa :: ((Go.Conc.base 25).at ⟨A, []⟩ [.inRegion puto2 [1], .code puts5, .inBlock 1, .inLoop putb1, .inBlock 0]) :: cs)) (w.alloc (.cells #[.int .i64 v, .pointer none] 106))) :
    Own Try.prog main F Stop (G (Frame.enter Try.prog 25 #[.pointer (some ⟨qb, 0, none⟩), .iface K.t (.pointer (some sa)), .int .i64 v] .normal) cs) w := by
  rw [enter_put]
  walk_nrm
  rw [puts0_eq]
  refine ogS ?_
  rw [puts1_eq]
  refine ogS ?_
  rw [putr0_eq]
  refine ogR ?_
  simp only [puto0, Code.opsOf, putr0, Code.piece, putBody, Try.f25, Option.getD_some, List.size_toArray, List.length_cons, List.length_nil, Nat.reduceAdd, Nat.zero_add, List.range, List.range.loop]
  (refine oW fun dd K hK => ?_; go_simp; refine qT hK ?_; clear hK K)
  refine oc callable51 #[.pointer (some ⟨qb, 0, none⟩)] ?_
  refine own_no hbh hch ?_
  rw [Frame.finish_at]
  walk_nrm
  refine ogE ?_
  rw [putc10_eq]
  refine ogF ?_
  simp only [Bool.false_eq_true, if_false]
  refine ogK ?_
  rw [puts2_eq]
  refine ogS ?_
  rw [putr1_eq]
  refine ogR ?_
  simp only [puto1, Code.opsOf, putr1, Code.piece, putBody, Try.f25, Option.getD_some, List.size_toArray, List.length_cons, List.length_nil, Nat.reduceAdd, Nat.zero_add, List.range, List.range.loop]
  (refine oW fun dd K hK => ?_; go_simp; refine qT hK ?_; clear hK K)
  (refine oW fun dd K hK => ?_; go_simp; refine qT hK ?_; clear hK K)
  (refine oW fun dd K hK => ?_; go_simp; refine qA hK hU ?_; clear hK K)
  (refine oW fun dd K hK => ?_; go_simp; refine qT hK ?_; clear hK K)
  refine ogE ?_
  rw [putb0_eq]
  refine ogB ?_
  rw [putl3_eq]
  refine ogP ?_
  rw [putb1_eq]
  refine ogB ?_
  rw [puts4_eq]
  refine ogS ?_
  rw [putr2_eq]
  refine ogR ?_
  simp only [puto2, Code.opsOf, putr2, Code.piece, putBody, Try.f25, Option.getD_some, List.size_toArray, List.length_cons, List.length_nil, Nat.reduceAdd, Nat.zero_add, List.range, List.range.loop]
  (refine oW fun dd K hK => ?_; go_simp; refine qT hK ?_; clear hK K)
  refine oc callable53 #[.iface K.t (.pointer (some sa))] ?_
  refine own_step_call ?_
  refine h _ ?_
  exact ⟨rfl, rfl, rfl, rfl, rfl, trivial⟩
set_option maxRecDepth 100000 in
set_option maxHeartbeats 2000000 in
theorem put_1 {K : StK} {sa : Addr} {qb bx : Nat} {v : Int} {t : Nat} (hb : BoxP w (some ⟨t, 0, none⟩)) (hc : w.cell? ⟨qb, 1, none⟩ = some (.pointer (some ⟨t, 0, none⟩))) {A : Array Value} (hA : Slots 51 A [(0, .pointer (some ⟨qb, 0, none⟩)), (1, .iface K.t (.pointer (some sa))), (2, .int .i64 v), (6, .pointer (some ⟨bx, 0, none⟩))]) {cs : List Frame} {main : Bool} {Stop : Goroutine → World → Prop}
    (h : ∀ A, Slots 51 A [(0, .pointer (some ⟨qb, 0, none⟩)), (1, .iface K.t (.pointer (some sa))), (2, .int .i64 v), (6, .pointer (some ⟨bx, 0, none⟩)), (7, .pointer (some ⟨t, 0, none⟩))] → Own Try.prog main F Stop (G (Frame.enter Try.prog K.f #[.pointer (some sa)] .normal) (stepFr K sa :: ((Go.Conc.base 25).at ⟨A, []⟩ [.inRegion puto4 [1], .code puts7, .inBlock 1, .inLoop putb1, .inBlock 0]) :: cs)) w) :
    Own Try.prog main F Stop (G ((stepFr K sa).finish (.tuple #[])) (((Go.Conc.base 25).at ⟨A, []⟩ [.inRegion puto2 [1], .code puts5, .inBlock 1, .inLoop putb1, .inBlock 0]) :: cs)) w := by
  obtain ⟨hsz, h0, h1, h2, h6, _⟩ := hA
  obtain ⟨s, rfl⟩ := putT_of hsz
  change s 0 = _ at h0
  change s 1 = _ at h1
  change s 2 = _ at h2
  change s 6 = _ at h6
  clear hsz
  simp only [putT, h0, h1, h2, h6]
  clear h0 h1 h2 h6
  refine own_step_back ?_
  rw [Frame.finish_at]
  simp only [puto2, Code.opsOf, putr2, Code.piece, putBody, Try.f25, Option.getD_some, List.size_toArray, List.length_cons, List.length_nil, Nat.reduceAdd, Nat.zero_add, List.range, List.range.loop]
  walk_nrm
  refine ogE ?_
  rw [puts5_eq]
  refine ogS ?_
  rw [putr3_eq]
  refine ogR ?_
  simp only [puto3, Code.opsOf, putr3, Code.piece, putBody, Try.f25, Option.getD_some, List.size_toArray, List.length_cons, List.length_nil, Nat.reduceAdd, Nat.zero_add, List.range, List.range.loop]
  (refine oW fun dd K hK => ?_; go_simp; refine qT hK ?_; clear hK K)
  (refine oW fun dd K hK => ?_; go_simp; refine qT hK ?_; clear hK K)
  (refine oW fun dd K hK => ?_; go_simp; refine qT hK ?_; clear hK K)
  refine oc callable52 #[.pointer (some ⟨qb, 1, none⟩)] ?_
  refine own_load hb hc rfl ?_
  rw [Frame.finish_at]
  walk_nrm
  (refine oW fun dd K hK => ?_; go_simp; refine qT hK ?_; clear hK K)
  refine ogE ?_
  rw [puts6_eq]
  refine ogS ?_
  rw [putr4_eq]
  refine ogR ?_
  simp only [puto4, Code.opsOf, putr4, Code.piece, putBody, Try.f25, Option.getD_some, List.size_toArray, List.length_cons, List.length_nil, Nat.reduceAdd, Nat.zero_add, List.range, List.range.loop]
  (refine oW fun dd K hK => ?_; go_simp; refine qT hK ?_; clear hK K)
  refine oc callable53 #[.iface K.t (.pointer (some sa))] ?_
  refine own_step_call ?_
  refine h _ ?_
  exact ⟨rfl, rfl, rfl, rfl, rfl, rfl, trivial⟩
set_option maxRecDepth 100000 in
set_option maxHeartbeats 2000000 in
theorem put_2a {K : StK} {sa : Addr} {qb bx : Nat} {v : Int} {t n : Nat} (hb : BoxP w (some ⟨n, 0, none⟩)) (hc : w.cell? ⟨t, 1, none⟩ = some (.pointer (some ⟨n, 0, none⟩))) {A : Array Value} (hA : Slots 51 A [(0, .pointer (some ⟨qb, 0, none⟩)), (1, .iface K.t (.pointer (some sa))), (2, .int .i64 v), (6, .pointer (some ⟨bx, 0, none⟩)), (7, .pointer (some ⟨t, 0, none⟩))]) {cs : List Frame} {main : Bool} {Stop : Goroutine → World → Prop}
    (h : ∀ A, Slots 51 A [(0, .pointer (some ⟨qb, 0, none⟩)), (1, .iface K.t (.pointer (some sa))), (2, .int .i64 v), (6, .pointer (some ⟨bx, 0, none⟩)), (7, .pointer (some ⟨t, 0, none⟩)), (8, .pointer (some ⟨n, 0, none⟩))] → Own Try.prog main F Stop (G (Frame.enter Try.prog K.f #[.pointer (some sa)] .normal) (stepFr K sa :: ((Go.Conc.base 25).at ⟨A, []⟩ [.inRegion puto7 [1], .code puts11, .code puts12, .inBlock 1, .inLoop putb1, .inBlock 0]) :: cs)) w) :
    Own Try.prog main F Stop (G ((stepFr K sa).finish (.tuple #[])) (((Go.Conc.base 25).at ⟨A, []⟩ [.inRegion puto4 [1], .code puts7, .inBlock 1, .inLoop putb1, .inBlock 0]) :: cs)) w := by
  obtain ⟨hsz, h0, h1, h2, h6, h7, _⟩ := hA
  obtain ⟨s, rfl⟩ := putT_of hsz
  change s 0 = _ at h0
  change s 1 = _ at h1
  change s 2 = _ at h2
  change s 6 = _ at h6
  change s 7 = _ at h7
  clear hsz
  simp only [putT, h0, h1, h2, h6, h7]
  clear h0 h1 h2 h6 h7
  refine own_step_back ?_
  rw [Frame.finish_at]
  simp only [puto4, Code.opsOf, putr4, Code.piece, putBody, Try.f25, Option.getD_some, List.size_toArray, List.length_cons, List.length_nil, Nat.reduceAdd, Nat.zero_add, List.range, List.range.loop]
  walk_nrm
  refine ogE ?_
  rw [puts7_eq]
  refine ogS ?_
  rw [puts8_eq]
  refine ogS ?_
  rw [putr5_eq]
  refine ogR ?_
  simp only [puto5, Code.opsOf, putr5, Code.piece, putBody, Try.f25, Option.getD_some, List.size_toArray, List.length_cons, List.length_nil, Nat.reduceAdd, Nat.zero_add, List.range, List.range.loop]
  (refine oW fun dd K hK => ?_; go_simp; refine qT hK ?_; clear hK K)
  (refine oW fun dd K hK => ?_; go_simp; refine qT hK ?_; clear hK K)
  (refine oW fun dd K hK => ?_; go_simp; refine qT hK ?_; clear hK K)
  refine oc callable52 #[.pointer (some ⟨t, 1, none⟩)] ?_
  refine own_load hb hc rfl ?_
  rw [Frame.finish_at]
  walk_nrm
  (refine oW fun dd K hK => ?_; go_simp; refine qT hK ?_; clear hK K)
  refine ogE ?_
  rw [puts9_eq]
  refine ogS ?_
  rw [putr6_eq]
  refine ogR ?_
  simp only [puto6, Code.opsOf, putr6, Code.piece, putBody, Try.f25, Option.getD_some, List.size_toArray, List.length_cons, List.length_nil, Nat.reduceAdd, Nat.zero_add, List.range, List.range.loop]
  (refine oW fun dd K hK => ?_; go_simp; refine qT hK ?_; clear hK K)
  (refine oW fun dd K hK => ?_; go_simp; refine qT hK ?_; clear hK K)
  refine ogE ?_
  rw [putc27_eq]
  refine ogT ?_
  simp only [if_true]
  rw [puts10_eq]
  refine ogS ?_
  rw [putr7_eq]
  refine ogR ?_
  simp only [puto7, Code.opsOf, putr7, Code.piece, putBody, Try.f25, Option.getD_some, List.size_toArray, List.length_cons, List.length_nil, Nat.reduceAdd, Nat.zero_add, List.range, List.range.loop]
  (refine oW fun dd K hK => ?_; go_simp; refine qT hK ?_; clear hK K)
  refine oc callable53 #[.iface K.t (.pointer (some sa))] ?_
  refine own_step_call ?_
  refine h _ ?_
  exact ⟨rfl, rfl, rfl, rfl, rfl, rfl, rfl, trivial⟩
set_option maxRecDepth 100000 in
set_option maxHeartbeats 2000000 in
theorem put_2b {K : StK} {sa : Addr} {qb bx : Nat} {v : Int} {t n : Nat} (hb : BoxP w (none)) (hc : w.cell? ⟨t, 1, none⟩ = some (.pointer (none))) {A : Array Value} (hA : Slots 51 A [(0, .pointer (some ⟨qb, 0, none⟩)), (1, .iface K.t (.pointer (some sa))), (2, .int .i64 v), (6, .pointer (some ⟨bx, 0, none⟩)), (7, .pointer (some ⟨t, 0, none⟩))]) {cs : List Frame} {main : Bool} {Stop : Goroutine → World → Prop}
    (h : ∀ A, Slots 51 A [(0, .pointer (some ⟨qb, 0, none⟩)), (1, .iface K.t (.pointer (some sa))), (2, .int .i64 v), (6, .pointer (some ⟨bx, 0, none⟩)), (7, .pointer (some ⟨t, 0, none⟩)), (8, .pointer (none))] → Own Try.prog main F Stop (G (Frame.enter Try.prog K.f #[.pointer (some sa)] .normal) (stepFr K sa :: ((Go.Conc.base 25).at ⟨A, []⟩ [.inRegion puto9 [1], .code puts13, .inBlock 1, .inLoop putb1, .inBlock 0]) :: cs)) w) :
    Own Try.prog main F Stop (G ((stepFr K sa).finish (.tuple #[])) (((Go.Conc.base 25).at ⟨A, []⟩ [.inRegion puto4 [1], .code puts7, .inBlock 1, .inLoop putb1, .inBlock 0]) :: cs)) w := by
  obtain ⟨hsz, h0, h1, h2, h6, h7, _⟩ := hA
  obtain ⟨s, rfl⟩ := putT_of hsz
  change s 0 = _ at h0
  change s 1 = _ at h1
  change s 2 = _ at h2
  change s 6 = _ at h6
  change s 7 = _ at h7
  clear hsz
  simp only [putT, h0, h1, h2, h6, h7]
  clear h0 h1 h2 h6 h7
  refine own_step_back ?_
  rw [Frame.finish_at]
  simp only [puto4, Code.opsOf, putr4, Code.piece, putBody, Try.f25, Option.getD_some, List.size_toArray, List.length_cons, List.length_nil, Nat.reduceAdd, Nat.zero_add, List.range, List.range.loop]
  walk_nrm
  refine ogE ?_
  rw [puts7_eq]
  refine ogS ?_
  rw [puts8_eq]
  refine ogS ?_
  rw [putr5_eq]
  refine ogR ?_
  simp only [puto5, Code.opsOf, putr5, Code.piece, putBody, Try.f25, Option.getD_some, List.size_toArray, List.length_cons, List.length_nil, Nat.reduceAdd, Nat.zero_add, List.range, List.range.loop]
  (refine oW fun dd K hK => ?_; go_simp; refine qT hK ?_; clear hK K)
  (refine oW fun dd K hK => ?_; go_simp; refine qT hK ?_; clear hK K)
  (refine oW fun dd K hK => ?_; go_simp; refine qT hK ?_; clear hK K)
  refine oc callable52 #[.pointer (some ⟨t, 1, none⟩)] ?_
  refine own_load hb hc rfl ?_
  rw [Frame.finish_at]
  walk_nrm
  (refine oW fun dd K hK => ?_; go_simp; refine qT hK ?_; clear hK K)
  refine ogE ?_
  rw [puts9_eq]
  refine ogS ?_
  rw [putr6_eq]
  refine ogR ?_
  simp only [puto6, Code.opsOf, putr6, Code.piece, putBody, Try.f25, Option.getD_some, List.size_toArray, List.length_cons, List.length_nil, Nat.reduceAdd, Nat.zero_add, List.range, List.range.loop]
  (refine oW fun dd K hK => ?_; go_simp; refine qT hK ?_; clear hK K)
  (refine oW fun dd K hK => ?_; go_simp; refine qT hK ?_; clear hK K)
  refine ogE ?_
  rw [putc27_eq]
  refine ogF ?_
  simp only [Bool.false_eq_true, if_false]
  refine ogK ?_
  rw [puts12_eq]
  refine ogS ?_
  rw [putr9_eq]
  refine ogR ?_
  simp only [puto9, Code.opsOf, putr9, Code.piece, putBody, Try.f25, Option.getD_some, List.size_toArray, List.length_cons, List.length_nil, Nat.reduceAdd, Nat.zero_add, List.range, List.range.loop]
  (refine oW fun dd K hK => ?_; go_simp; refine qT hK ?_; clear hK K)
  refine oc callable53 #[.iface K.t (.pointer (some sa))] ?_
  refine own_step_call ?_
  refine h _ ?_
  exact ⟨rfl, rfl, rfl, rfl, rfl, rfl, rfl, trivial⟩
set_option maxRecDepth 100000 in
set_option maxHeartbeats 2000000 in
theorem put_3 {K : StK} {sa : Addr} {qb bx : Nat} {v : Int} {t n : Nat} {cur : Option Addr} {eq : Bool} (hb : BoxP w (some ⟨t, 0, none⟩)) (hn : BoxP w (some ⟨n, 0, none⟩)) (hc : w.cell? ⟨qb, 1, none⟩ = some (.pointer cur)) (hz : w.frozen? ⟨qb, 1, none⟩ = false) (hnh : ¬ held F ⟨qb, 1, none⟩) (hq : ∀ d, PtrEq Try.prog (w.at d) cur (some ⟨t, 0, none⟩) eq) {A : Array Value} (hA : Slots 51 A [(0, .pointer (some ⟨qb, 0, none⟩)), (1, .iface K.t (.pointer (some sa))), (2, .int .i64 v), (6, .pointer (some ⟨bx, 0, none⟩)), (7, .pointer (some ⟨t, 0, none⟩)), (8, .pointer (some ⟨n, 0, none⟩))]) {cs : List Frame} {main : Bool} {Stop : Goroutine → World → Prop}
    (h : ∀ A, Slots 51 A [(0, .pointer (some ⟨qb, 0, none⟩)), (1, .iface K.t (.pointer (some sa))), (2, .int .i64 v), (6, .pointer (some ⟨bx, 0, none⟩))] → Own Try.prog main F Stop (G (Frame.enter Try.prog K.f #[.pointer (some sa)] .normal) (stepFr K sa :: ((Go.Conc.base 25).at ⟨A, []⟩ [.inRegion puto2 [1], .code puts5, .inBlock 1, .inLoop putb1, .inBlock 0]) :: cs)) (if eq then w.setCell ⟨qb, 1, none⟩ (.pointer (some ⟨n, 0, none⟩)) else w)) :
    Own Try.prog main F Stop (G ((stepFr K sa).finish (.tuple #[])) (((Go.Conc.base 25).at ⟨A, []⟩ [.inRegion puto7 [1], .code puts11, .code puts12, .inBlock 1, .inLoop putb1, .inBlock 0]) :: cs)) w := by
  obtain ⟨hsz, h0, h1, h2, h6, h7, h8, _⟩ := hA
  obtain ⟨s, rfl⟩ := putT_of hsz
  change s 0 = _ at h0
  change s 1 = _ at h1
  change s 2 = _ at h2
  change s 6 = _ at h6
  change s 7 = _ at h7
  change s 8 = _ at h8
  clear hsz
  simp only [putT, h0, h1, h2, h6, h7, h8]
  clear h0 h1 h2 h6 h7 h8
  refine own_step_back ?_
  rw [Frame.finish_at]
  simp only [puto7, Code.opsOf, putr7, Code.piece, putBody, Try.f25, Option.getD_some, List.size_toArray, List.length_cons, List.length_nil, Nat.reduceAdd, Nat.zero_add, List.range, List.range.loop]
  walk_nrm
  refine ogE ?_
  rw [puts11_eq]
  refine ogS ?_
  rw [putr8_eq]
  refine ogR ?_
  simp only [puto8, Code.opsOf, putr8, Code.piece, putBody, Try.f25, Option.getD_some, List.size_toArray, List.length_cons, List.length_nil, Nat.reduceAdd, Nat.zero_add, List.range, List.range.loop]
  (refine oW fun dd K hK => ?_; go_simp; refine qT hK ?_; clear hK K)
  (refine oW fun dd K hK => ?_; go_simp; refine qT hK ?_; clear hK K)
  (refine oW fun dd K hK => ?_; go_simp; refine qT hK ?_; clear hK K)
  (refine oW fun dd K hK => ?_; go_simp; refine qT hK ?_; clear hK K)
  (refine oW fun dd K hK => ?_; go_simp; refine qT hK ?_; clear hK K)
  refine oc callable54 #[.pointer (some ⟨qb, 1, none⟩), .pointer (some ⟨t, 0, none⟩), .pointer (some ⟨n, 0, none⟩)] ?_
  refine own_cas hc rfl hz hnh hb hn hq ?_
  rw [Frame.finish_at]
  walk_nrm
  refine ogE ?_
  refine own_go rfl (fun d => stepG_exit rfl) ?_
  refine ogL ?_
  rw [putb1_eq]
  refine ogB ?_
  rw [puts4_eq]
  refine ogS ?_
  rw [putr2_eq]
  refine ogR ?_
  simp only [puto2, Code.opsOf, putr2, Code.piece, putBody, Try.f25, Option.getD_some, List.size_toArray, List.length_cons, List.length_nil, Nat.reduceAdd, Nat.zero_add, List.range, List.range.loop]
  (refine oW fun dd K hK => ?_; go_simp; refine qT hK ?_; clear hK K)
  refine oc callable53 #[.iface K.t (.pointer (some sa))] ?_
  refine own_step_call ?_
  refine h _ ?_
  exact ⟨rfl, rfl, rfl, rfl, rfl, trivial⟩
set_option maxRecDepth 100000 in
set_option maxHeartbeats 2000000 in
theorem put_4a {K : StK} {sa : Addr} {qb bx : Nat} {v : Int} {t : Nat} (hn : BoxP w (some ⟨bx, 0, none⟩)) (hc : w.cell? ⟨t, 1, none⟩ = some (.pointer (none))) (hz : w.frozen? ⟨t, 1, none⟩ = false) (hnh : ¬ held F ⟨t, 1, none⟩) {A : Array Value} (hA : Slots 51 A [(0, .pointer (some ⟨qb, 0, none⟩)), (1, .iface K.t (.pointer (some sa))), (2, .int .i64 v), (6, .pointer (some ⟨bx, 0, none⟩)), (7, .pointer (some ⟨t, 0, none⟩)), (8, .pointer none)]) {cs : List Frame} {main : Bool} {Stop : Goroutine → World → Prop}
    (h : ∀ A, Slots 51 A [(0, .pointer (some ⟨qb, 0, none⟩)), (1, .iface K.t (.pointer (some sa))), (2, .int .i64 v), (6, .pointer (some ⟨bx, 0, none⟩)), (7, .pointer (some ⟨t, 0, none⟩))] → Own Try.prog main F Stop (G (Frame.enter Try.prog K.f #[.pointer (some sa)] .normal) (stepFr K sa :: ((Go.Conc.base 25).at ⟨A, []⟩ [.inRegion puto11 [1], .code puts15, .inBlock 1, .inLoop putb1, .inBlock 0]) :: cs)) (w.setCell ⟨t, 1, none⟩ (.pointer (some ⟨bx, 0, none⟩)))) :
    Own Try.prog main F Stop (G ((stepFr K sa).finish (.tuple #[])) (((Go.Conc.base 25).at ⟨A, []⟩ [.inRegion puto9 [1], .code puts13, .inBlock 1, .inLoop putb1, .inBlock 0]) :: cs)) w := by
  obtain ⟨hsz, h0, h1, h2, h6, h7, h8, _⟩ := hA
  obtain ⟨s, rfl⟩ := putT_of hsz
  change s 0 = _ at h0
  change s 1 = _ at h1
  change s 2 = _ at h2
  change s 6 = _ at h6
  change s 7 = _ at h7
  change s 8 = _ at h8
  clear hsz
  simp only [putT, h0, h1, h2, h6, h7, h8]
  clear h0 h1 h2 h6 h7 h8
  refine own_step_back ?_
  rw [Frame.finish_at]
  simp only [puto9, Code.opsOf, putr9, Code.piece, putBody, Try.f25, Option.getD_some, List.size_toArray, List.length_cons, List.length_nil, Nat.reduceAdd, Nat.zero_add, List.range, List.range.loop]
  walk_nrm
  refine ogE ?_
  rw [puts13_eq]
  refine ogS ?_
  rw [putr10_eq]
  refine ogR ?_
  simp only [puto10, Code.opsOf, putr10, Code.piece, putBody, Try.f25, Option.getD_some, List.size_toArray, List.length_cons, List.length_nil, Nat.reduceAdd, Nat.zero_add, List.range, List.range.loop]
  (refine oW fun dd K hK => ?_; go_simp; refine qT hK ?_; clear hK K)
  (refine oW fun dd K hK => ?_; go_simp; refine qT hK ?_; clear hK K)
  (refine oW fun dd K hK => ?_; go_simp; refine qT hK ?_; clear hK K)
  (refine oW fun dd K hK => ?_; go_simp; refine qT hK ?_; clear hK K)
  refine oc callable54 #[.pointer (some ⟨t, 1, none⟩), .pointer none, .pointer (some ⟨bx, 0, none⟩)] ?_
  refine own_cas (t := true) hc rfl hz hnh (.inl rfl) hn (fun d => ptrEq_none _ _) ?_
  rw [Frame.finish_at]
  walk_nrm
  simp only [if_true]
  refine ogE ?_
  rw [putc42_eq]
  refine ogT ?_
  simp only [if_true]
  rw [puts14_eq]
  refine ogS ?_
  rw [putr11_eq]
  refine ogR ?_
  simp only [puto11, Code.opsOf, putr11, Code.piece, putBody, Try.f25, Option.getD_some, List.size_toArray, List.length_cons, List.length_nil, Nat.reduceAdd, Nat.zero_add, List.range, List.range.loop]
  (refine oW fun dd K hK => ?_; go_simp; refine qT hK ?_; clear hK K)
  refine oc callable53 #[.iface K.t (.pointer (some sa))] ?_
  refine own_step_call ?_
  refine h _ ?_
  exact ⟨rfl, rfl, rfl, rfl, rfl, rfl, trivial⟩
set_option maxRecDepth 100000 in
set_option maxHeartbeats 2000000 in
theorem put_4b {K : StK} {sa : Addr} {qb bx : Nat} {v : Int} {t : Nat} {cur : Addr} (hn : BoxP w (some ⟨bx, 0, none⟩)) (hc : w.cell? ⟨t, 1, none⟩ = some (.pointer (some cur))) (hz : w.frozen? ⟨t, 1, none⟩ = false) (hnh : ¬ held F ⟨t, 1, none⟩) {A : Array Value} (hA : Slots 51 A [(0, .pointer (some ⟨qb, 0, none⟩)), (1, .iface K.t (.pointer (some sa))), (2, .int .i64 v), (6, .pointer (some ⟨bx, 0, none⟩)), (7, .pointer (some ⟨t, 0, none⟩)), (8, .pointer none)]) {cs : List Frame} {main : Bool} {Stop : Goroutine → World → Prop}
    (h : ∀ A, Slots 51 A [(0, .pointer (some ⟨qb, 0, none⟩)), (1, .iface K.t (.pointer (some sa))), (2, .int .i64 v), (6, .pointer (some ⟨bx, 0, none⟩))] → Own Try.prog main F Stop (G (Frame.enter Try.prog K.f #[.pointer (some sa)] .normal) (stepFr K sa :: ((Go.Conc.base 25).at ⟨A, []⟩ [.inRegion puto2 [1], .code puts5, .inBlock 1, .inLoop putb1, .inBlock 0]) :: cs)) w) :
    Own Try.prog main F Stop (G ((stepFr K sa).finish (.tuple #[])) (((Go.Conc.base 25).at ⟨A, []⟩ [.inRegion puto9 [1], .code puts13, .inBlock 1, .inLoop putb1, .inBlock 0]) :: cs)) w := by
  obtain ⟨hsz, h0, h1, h2, h6, h7, h8, _⟩ := hA
  obtain ⟨s, rfl⟩ := putT_of hsz
  change s 0 = _ at h0
  change s 1 = _ at h1
  change s 2 = _ at h2
  change s 6 = _ at h6
  change s 7 = _ at h7
  change s 8 = _ at h8
  clear hsz
  simp only [putT, h0, h1, h2, h6, h7, h8]
  clear h0 h1 h2 h6 h7 h8
  refine own_step_back ?_
  rw [Frame.finish_at]
  simp only [puto9, Code.opsOf, putr9, Code.piece, putBody, Try.f25, Option.getD_some, List.size_toArray, List.length_cons, List.length_nil, Nat.reduceAdd, Nat.zero_add, List.range, List.range.loop]
  walk_nrm
  refine ogE ?_
  rw [puts13_eq]
  refine ogS ?_
  rw [putr10_eq]
  refine ogR ?_
  simp only [puto10, Code.opsOf, putr10, Code.piece, putBody, Try.f25, Option.getD_some, List.size_toArray, List.length_cons, List.length_nil, Nat.reduceAdd, Nat.zero_add, List.range, List.range.loop]
  (refine oW fun dd K hK => ?_; go_simp; refine qT hK ?_; clear hK K)
  (refine oW fun dd K hK => ?_; go_simp; refine qT hK ?_; clear hK K)
  (refine oW fun dd K hK => ?_; go_simp; refine qT hK ?_; clear hK K)
  (refine oW fun dd K hK => ?_; go_simp; refine qT hK ?_; clear hK K)
  refine oc callable54 #[.pointer (some ⟨t, 1, none⟩), .pointer none, .pointer (some ⟨bx, 0, none⟩)] ?_
  refine own_cas (t := false) hc rfl hz hnh (.inl rfl) hn (fun d => ptrEq_none _ _) ?_
  rw [Frame.finish_at]
  walk_nrm
  simp only [Bool.false_eq_true, if_false]
  refine ogE ?_
  rw [putc42_eq]
  refine ogF ?_
  simp only [Bool.false_eq_true, if_false]
  refine ogK ?_
  refine ogI ?_
  refine ogL ?_
  rw [putb1_eq]
  refine ogB ?_
  rw [puts4_eq]
  refine ogS ?_
  rw [putr2_eq]
  refine ogR ?_
  simp only [puto2, Code.opsOf, putr2, Code.piece, putBody, Try.f25, Option.getD_some, List.size_toArray, List.length_cons, List.length_nil, Nat.reduceAdd, Nat.zero_add, List.range, List.range.loop]
  (refine oW fun dd K hK => ?_; go_simp; refine qT hK ?_; clear hK K)
  refine oc callable53 #[.iface K.t (.pointer (some sa))] ?_
  refine own_step_call ?_
  refine h _ ?_
  exact ⟨rfl, rfl, rfl, rfl, rfl, trivial⟩
set_option maxRecDepth 100000 in
set_option maxHeartbeats 2000000 in
theorem put_5 {K : StK} {sa : Addr} {qb bx : Nat} {v : Int} {t n : Nat} {cur : Option Addr} {eq : Bool} (hb : BoxP w (some ⟨t, 0, none⟩)) (hn : BoxP w (some ⟨bx, 0, none⟩)) (hc : w.cell? ⟨qb, 1, none⟩ = some (.pointer cur)) (hz : w.frozen? ⟨qb, 1, none⟩ = false) (hnh : ¬ held F ⟨qb, 1, none⟩) (hq : ∀ d, PtrEq Try.prog (w.at d) cur (some ⟨t, 0, none⟩) eq) {A : Array Value} (hA : Slots 51 A [(0, .pointer (some ⟨qb, 0, none⟩)), (1, .iface K.t (.pointer (some sa))), (2, .int .i64 v), (6, .pointer (some ⟨bx, 0, none⟩)), (7, .pointer (some ⟨t, 0, none⟩))]) {c : Frame} {cs : List Frame} {main : Bool} {Stop : Goroutine → World → Prop}
    (h : Own Try.prog main F Stop (G (c.finish (.tuple #[])) cs) (if eq then w.setCell ⟨qb, 1, none⟩ (.pointer (some ⟨bx, 0, none⟩)) else w)) :
    Own Try.prog main F Stop (G ((stepFr K sa).finish (.tuple #[])) (((Go.Conc.base 25).at ⟨A, []⟩ [.inRegion puto11 [1], .code puts15, .inBlock 1, .inLoop putb1, .inBlock 0]) :: c :: cs)) w := by
  obtain ⟨hsz, h0, h1, h2, h6, h7, _⟩ := hA
  obtain ⟨s, rfl⟩ := putT_of hsz
  change s 0 = _ at h0
  change s 1 = _ at h1
  change s 2 = _ at h2
  change s 6 = _ at h6
  change s 7 = _ at h7
  clear hsz
  simp only [putT, h0, h1, h2, h6, h7]
  clear h0 h1 h2 h6 h7
  refine own_step_back ?_
  rw [Frame.finish_at]
  simp only [puto11, Code.opsOf, putr11, Code.piece, putBody, Try.f25, Option.getD_some, List.size_toArray, List.length_cons, List.length_nil, Nat.reduceAdd, Nat.zero_add, List.range, List.range.loop]
  walk_nrm
  refine ogE ?_
  rw [puts15_eq]
  refine ogS ?_
  rw [putr12_eq]
  refine ogR ?_
  simp only [puto12, Code.opsOf, putr12, Code.piece, putBody, Try.f25, Option.getD_some, List.size_toArray, List.length_cons, List.length_nil, Nat.reduceAdd, Nat.zero_add, List.range, List.range.loop]
  (refine oW fun dd K hK => ?_; go_simp; refine qT hK ?_; clear hK K)
  (refine oW fun dd K hK => ?_; go_simp; refine qT hK ?_; clear hK K)
  (refine oW fun dd K hK => ?_; go_simp; refine qT hK ?_; clear hK K)
  (refine oW fun dd K hK => ?_; go_simp; refine qT hK ?_; clear hK K)
  (refine oW fun dd K hK => ?_; go_simp; refine qT hK ?_; clear hK K)
  refine oc callable54 #[.pointer (some ⟨qb, 1, none⟩), .pointer (some ⟨t, 0, none⟩), .pointer (some ⟨bx, 0, none⟩)] ?_
  refine own_cas hc rfl hz hnh hb hn hq ?_
  rw [Frame.finish_at]
  walk_nrm
  refine ogE ?_
  refine ogX ?_
  refine own_go rfl (fun d => stepG_leave (fn := Try.f25) (v := .tuple #[]) rfl rfl Try.func25 (by simp [results, Try.f25]) (by simp [results, Try.f25, go_sem])) ?_
  exact h
set_option maxRecDepth 100000 in
set_option maxHeartbeats 2000000 in
theorem tak_0 {K : StK} {sa hd : Addr} {qb : Nat} (hbh : BoxP w (some hd)) (hch : w.cell? ⟨qb, 0, none⟩ = some (.pointer (some hd))) {cs : List Frame} {main : Bool} {Stop : Goroutine → World → Prop}
    (h : ∀ A, Slots 56 A [(0, .pointer (some ⟨qb, 0, none⟩)), (1, .iface K.t (.pointer (some sa)))] → Own Try.prog main F Stop (G (Frame.enter Try.prog K.f #[.pointer (some sa)] .normal) (stepFr K sa :: ((Go.Conc.base 26).at ⟨A, []⟩ [.inRegion tako3 [1], .code taks6, .inBlock 1, .inLoop takb1, .inBlock 0]) :: cs)) w) :
    Own Try.prog main F Stop (G (Frame.enter Try.prog 26 #[.pointer (some ⟨qb, 0, none⟩), .iface K.t (.pointer (some sa))] .normal) cs) w := by
  rw [enter_tak]
  walk_nrm
  rw [taks0_eq]
  refine ogS ?_
  rw [takr0_eq]
  refine ogR ?_
  simp only [tako0, Code.opsOf, takr0, Code.piece, takBody, Try.f26, Option.getD_some, List.size_toArray, List.length_cons, List.length_nil, Nat.reduceAdd, Nat.zero_add, List.range, List.range.loop]
  (refine oW fun dd K hK => ?_; go_simp; refine qT hK ?_; clear hK K)
  (refine oW fun dd K hK => ?_; go_simp; refine qT hK ?_; clear hK K)
  refine ogE ?_
  rw [taks1_eq]
  refine ogS ?_
  rw [taks2_eq]
  refine ogS ?_
  rw [takr1_eq]
  refine ogR ?_
  simp only [tako1, Code.opsOf, takr1, Code.piece, takBody, Try.f26, Option.getD_some, List.size_toArray, List.length_cons, List.length_nil, Nat.reduceAdd, Nat.zero_add, List.range, List.range.loop]
  (refine oW fun dd K hK => ?_; go_simp; refine qT hK ?_; clear hK K)
  refine oc callable51 #[.pointer (some ⟨qb, 0, none⟩)] ?_
  refine own_no hbh hch ?_
  rw [Frame.finish_at]
  walk_nrm
  refine ogE ?_
  rw [takc10_eq]
  refine ogF ?_
  simp only [Bool.false_eq_true, if_false]
  refine ogK ?_
  rw [takb0_eq]
  refine ogB ?_
  rw [takl4_eq]
  refine ogP ?_
  rw [takb1_eq]
  refine ogB ?_
  rw [taks5_eq]
  refine ogS ?_
  rw [takr3_eq]
  refine ogR ?_
  simp only [tako3, Code.opsOf, takr3, Code.piece, takBody, Try.f26, Option.getD_some, List.size_toArray, List.length_cons, List.length_nil, Nat.reduceAdd, Nat.zero_add, List.range, List.range.loop]
  (refine oW fun dd K hK => ?_; go_simp; refine qT hK ?_; clear hK K)
  refine oc callable53 #[.iface K.t (.pointer (some sa))] ?_
  refine own_step_call ?_
  refine h _ ?_
  exact ⟨rfl, rfl, rfl, trivial⟩
set_option maxRecDepth 100000 in
set_option maxHeartbeats 2000000 in
theorem tak_1 {K : StK} {sa : Addr} {qb : Nat} {h0 : Nat} (hb : BoxP w (some ⟨h0, 0, none⟩)) (hc : w.cell? ⟨qb, 0, none⟩ = some (.pointer (some ⟨h0, 0, none⟩))) {A : Array Value} (hA : Slots 56 A [(0, .pointer (some ⟨qb, 0, none⟩)), (1, .iface K.t (.pointer (some sa)))]) {cs : List Frame} {main : Bool} {Stop : Goroutine → World → Prop}
    (h : ∀ A, Slots 56 A [(0, .pointer (some ⟨qb, 0, none⟩)), (1, .iface K.t (.pointer (some sa))), (6, .pointer (some ⟨h0, 0, none⟩))] → Own Try.prog main F Stop (G (Frame.enter Try.prog K.f #[.pointer (some sa)] .normal) (stepFr K sa :: ((Go.Conc.base 26).at ⟨A, []⟩ [.inRegion tako5 [1], .code taks8, .inBlock 1, .inLoop takb1, .inBlock 0]) :: cs)) w) :
    Own Try.prog main F Stop (G ((stepFr K sa).finish (.tuple #[])) (((Go.Conc.base 26).at ⟨A, []⟩ [.inRegion tako3 [1], .code taks6, .inBlock 1, .inLoop takb1, .inBlock 0]) :: cs)) w := by
  obtain ⟨hsz, h0, h1, _⟩ := hA
  obtain ⟨s, rfl⟩ := takT_of hsz
  change s 0 = _ at h0
  change s 1 = _ at h1
  clear hsz
  simp only [takT, h0, h1]
  clear h0 h1
  refine own_step_back ?_
  rw [Frame.finish_at]
  simp only [tako3, Code.opsOf, takr3, Code.piece, takBody, Try.f26, Option.getD_some, List.size_toArray, List.length_cons, List.length_nil, Nat.reduceAdd, Nat.zero_add, List.range, List.range.loop]
  walk_nrm
  refine ogE ?_
  rw [taks6_eq]
  refine ogS ?_
  rw [takr4_eq]
  refine ogR ?_
  simp only [tako4, Code.opsOf, takr4, Code.piece, takBody, Try.f26, Option.getD_some, List.size_toArray, List.length_cons, List.length_nil, Nat.reduceAdd, Nat.zero_add, List.range, List.range.loop]
  (refine oW fun dd K hK => ?_; go_simp; refine qT hK ?_; clear hK K)
  (refine oW fun dd K hK => ?_; go_simp; refine qT hK ?_; clear hK K)
  (refine oW fun dd K hK => ?_; go_simp; refine qT hK ?_; clear hK K)
  refine oc callable52 #[.pointer (some ⟨qb, 0, none⟩)] ?_
  refine own_load hb hc rfl ?_
  rw [Frame.finish_at]
  walk_nrm
  (refine oW fun dd K hK => ?_; go_simp; refine qT hK ?_; clear hK K)
  refine ogE ?_
  rw [taks7_eq]
  refine ogS ?_
  rw [takr5_eq]
  refine ogR ?_
  simp only [tako5, Code.opsOf, takr5, Code.piece, takBody, Try.f26, Option.getD_some, List.size_toArray, List.length_cons, List.length_nil, Nat.reduceAdd, Nat.zero_add, List.range, List.range.loop]
  (refine oW fun dd K hK => ?_; go_simp; refine qT hK ?_; clear hK K)
  refine oc callable53 #[.iface K.t (.pointer (some sa))] ?_
  refine own_step_call ?_
  refine h _ ?_
  exact ⟨rfl, rfl, rfl, rfl, trivial⟩
set_option maxRecDepth 100000 in
set_option maxHeartbeats 2000000 in
theorem tak_2 {K : StK} {sa : Addr} {qb : Nat} {h0 t : Nat} (hb : BoxP w (some ⟨t, 0, none⟩)) (hc : w.cell? ⟨qb, 1, none⟩ = some (.pointer (some ⟨t, 0, none⟩))) {A : Array Value} (hA : Slots 56 A [(0, .pointer (some ⟨qb, 0, none⟩)), (1, .iface K.t (.pointer (some sa))), (6, .pointer (some ⟨h0, 0, none⟩))]) {cs : List Frame} {main : Bool} {Stop : Goroutine → World → Prop}
    (h : ∀ A, Slots 56 A [(0, .pointer (some ⟨qb, 0, none⟩)), (1, .iface K.t (.pointer (some sa))), (6, .pointer (some ⟨h0, 0, none⟩)), (7, .pointer (some ⟨t, 0, none⟩))] → Own Try.prog main F Stop (G (Frame.enter Try.prog K.f #[.pointer (some sa)] .normal) (stepFr K sa :: ((Go.Conc.base 26).at ⟨A, []⟩ [.inRegion tako7 [1], .code taks10, .inBlock 1, .inLoop takb1, .inBlock 0]) :: cs)) w) :
    Own Try.prog main F Stop (G ((stepFr K sa).finish (.tuple #[])) (((Go.Conc.base 26).at ⟨A, []⟩ [.inRegion tako5 [1], .code taks8, .inBlock 1, .inLoop takb1, .inBlock 0]) :: cs)) w := by
  obtain ⟨hsz, h0, h1, h6, _⟩ := hA
  obtain ⟨s, rfl⟩ := takT_of hsz
  change s 0 = _ at h0
  change s 1 = _ at h1
  change s 6 = _ at h6
  clear hsz
  simp only [takT, h0, h1, h6]
  clear h0 h1 h6
  refine own_step_back ?_
  rw [Frame.finish_at]
  simp only [tako5, Code.opsOf, takr5, Code.piece, takBody, Try.f26, Option.getD_some, List.size_toArray, List.length_cons, List.length_nil, Nat.reduceAdd, Nat.zero_add, List.range, List.range.loop]
  walk_nrm
  refine ogE ?_
  rw [taks8_eq]
  refine ogS ?_
  rw [takr6_eq]
  refine ogR ?_
  simp only [tako6, Code.opsOf, takr6, Code.piece, takBody, Try.f26, Option.getD_some, List.size_toArray, List.length_cons, List.length_nil, Nat.reduceAdd, Nat.zero_add, List.range, List.range.loop]
  (refine oW fun dd K hK => ?_; go_simp; refine qT hK ?_; clear hK K)
  (refine oW fun dd K hK => ?_; go_simp; refine qT hK ?_; clear hK K)
  (refine oW fun dd K hK => ?_; go_simp; refine qT hK ?_; clear hK K)
  refine oc callable52 #[.pointer (some ⟨qb, 1, none⟩)] ?_
  refine own_load hb hc rfl ?_
  rw [Frame.finish_at]
  walk_nrm
  (refine oW fun dd K hK => ?_; go_simp; refine qT hK ?_; clear hK K)
  refine ogE ?_
  rw [taks9_eq]
  refine ogS ?_
  rw [takr7_eq]
  refine ogR ?_
  simp only [tako7, Code.opsOf, takr7, Code.piece, takBody, Try.f26, Option.getD_some, List.size_toArray, List.length_cons, List.length_nil, Nat.reduceAdd, Nat.zero_add, List.range, List.range.loop]
  (refine oW fun dd K hK => ?_; go_simp; refine qT hK ?_; clear hK K)
  refine oc callable53 #[.iface K.t (.pointer (some sa))] ?_
  refine own_step_call ?_
  refine h _ ?_
  exact ⟨rfl, rfl, rfl, rfl, rfl, trivial⟩
set_option maxRecDepth 100000 in
set_option maxHeartbeats 2000000 in
theorem tak_3n {K : StK} {sa : Addr} {qb : Nat} {h0 t : Nat} (hb : BoxP w none) (hc : w.cell? ⟨h0, 1, none⟩ = some (.pointer none)) {A : Array Value} (hA : Slots 56 A [(0, .pointer (some ⟨qb, 0, none⟩)), (1, .iface K.t (.pointer (some sa))), (6, .pointer (some ⟨h0, 0, none⟩)), (7, .pointer (some ⟨t, 0, none⟩))]) {c : Frame} {cs : List Frame} {main : Bool} {Stop : Goroutine → World → Prop}
    (h : Own Try.prog main F Stop (G (c.finish (.tuple #[.int .i64 0, .int .i64 4])) cs) w) :
    Own Try.prog main F Stop (G ((stepFr K sa).finish (.tuple #[])) (((Go.Conc.base 26).at ⟨A, []⟩ [.inRegion tako7 [1], .code taks10, .inBlock 1, .inLoop takb1, .inBlock 0]) :: c :: cs)) w := by
  obtain ⟨hsz, h0, h1, h6, h7, _⟩ := hA
  obtain ⟨s, rfl⟩ := takT_of hsz
  change s 0 = _ at h0
  change s 1 = _ at h1
  change s 6 = _ at h6
  change s 7 = _ at h7
  clear hsz
  simp only [takT, h0, h1, h6, h7]
  clear h0 h1 h6 h7
  refine own_step_back ?_
  rw [Frame.finish_at]
  simp only [tako7, Code.opsOf, takr7, Code.piece, takBody, Try.f26, Option.getD_some, List.size_toArray, List.length_cons, List.length_nil, Nat.reduceAdd, Nat.zero_add, List.range, List.range.loop]
  walk_nrm
  refine ogE ?_
  rw [taks10_eq]
  refine ogS ?_
  rw [takr8_eq]
  refine ogR ?_
  simp only [tako8, Code.opsOf, takr8, Code.piece, takBody, Try.f26, Option.getD_some, List.size_toArray, List.length_cons, List.length_nil, Nat.reduceAdd, Nat.zero_add, List.range, List.range.loop]
  (refine oW fun dd K hK => ?_; go_simp; refine qT hK ?_; clear hK K)
  (refine oW fun dd K hK => ?_; go_simp; refine qT hK ?_; clear hK K)
  (refine oW fun dd K hK => ?_; go_simp; refine qT hK ?_; clear hK K)
  refine oc callable52 #[.pointer (some ⟨h0, 1, none⟩)] ?_
  refine own_load hb hc rfl ?_
  rw [Frame.finish_at]
  walk_nrm
  (refine oW fun dd K hK => ?_; go_simp; refine qT hK ?_; clear hK K)
  refine ogE ?_
  rw [takb2_eq]
  refine ogB ?_
  rw [taks11_eq]
  refine ogS ?_
  rw [takr12_eq]
  refine ogR ?_
  simp only [tako12, Code.opsOf, takr12, Code.piece, takBody, Try.f26, Option.getD_some, List.size_toArray, List.length_cons, List.length_nil, Nat.reduceAdd, Nat.zero_add, List.range, List.range.loop]
  (refine oW fun dd K hK => ?_; go_simp; refine qT hK ?_; clear hK K)
  (refine oW fun dd K hK => ?_; go_simp; refine qT hK ?_; clear hK K)
  (refine oW fun dd K hK => ?_; go_simp; refine qT hK ?_; clear hK K)
  refine ogE ?_
  rw [takc41_eq]
  refine ogT ?_
  simp only [if_true]
  rw [taks12_eq]
  refine ogS ?_
  rw [takr13_eq]
  refine ogR ?_
  simp only [tako13, Code.opsOf, takr13, Code.piece, takBody, Try.f26, Option.getD_some, List.size_toArray, List.length_cons, List.length_nil, Nat.reduceAdd, Nat.zero_add, List.range, List.range.loop]
  (refine oW fun dd K hK => ?_; go_simp; refine qT hK ?_; clear hK K)
  (refine oW fun dd K hK => ?_; go_simp; refine qT hK ?_; clear hK K)
  refine ogE ?_
  refine ogX ?_
  refine own_go rfl (fun d => stepG_leave (fn := Try.f26) (v := .tuple #[.int .i64 0, .int .i64 4]) rfl rfl Try.func26 (by simp [results, Try.f26]) (by simp [results, Try.f26, go_sem])) ?_
  exact h
set_option maxRecDepth 100000 in
set_option maxHeartbeats 2000000 in
theorem tak_3t {K : StK} {sa : Addr} {qb : Nat} {h0 t n : Nat} (hb : BoxP w (some ⟨n, 0, none⟩)) (hc : w.cell? ⟨h0, 1, none⟩ = some (.pointer (some ⟨n, 0, none⟩))) (hq : ∀ d, PtrEq Try.prog (w.at d) (some ⟨h0, 0, none⟩) (some ⟨t, 0, none⟩) true) {A : Array Value} (hA : Slots 56 A [(0, .pointer (some ⟨qb, 0, none⟩)), (1, .iface K.t (.pointer (some sa))), (6, .pointer (some ⟨h0, 0, none⟩)), (7, .pointer (some ⟨t, 0, none⟩))]) {cs : List Frame} {main : Bool} {Stop : Goroutine → World → Prop}
    (h : ∀ A, Slots 56 A [(0, .pointer (some ⟨qb, 0, none⟩)), (1, .iface K.t (.pointer (some sa))), (6, .pointer (some ⟨h0, 0, none⟩)), (7, .pointer (some ⟨t, 0, none⟩)), (8, .pointer (some ⟨n, 0, none⟩))] → Own Try.prog main F Stop (G (Frame.enter Try.prog K.f #[.pointer (some sa)] .normal) (stepFr K sa :: ((Go.Conc.base 26).at ⟨A, []⟩ [.inRegion tako15 [1], .code takr16, .inBlock 2, .inBlock 1, .inLoop takb1, .inBlock 0]) :: cs)) w) :
    Own Try.prog main F Stop (G ((stepFr K sa).finish (.tuple #[])) (((Go.Conc.base 26).at ⟨A, []⟩ [.inRegion tako7 [1], .code taks10, .inBlock 1, .inLoop takb1, .inBlock 0]) :: cs)) w := by
  obtain ⟨hsz, h0, h1, h6, h7, _⟩ := hA
  obtain ⟨s, rfl⟩ := takT_of hsz
  change s 0 = _ at h0
  change s 1 = _ at h1
  change s 6 = _ at h6
  change s 7 = _ at h7
  clear hsz
  simp only [takT, h0, h1, h6, h7]
  clear h0 h1 h6 h7
  refine own_step_back ?_
  rw [Frame.finish_at]
  simp only [tako7, Code.opsOf, takr7, Code.piece, takBody, Try.f26, Option.getD_some, List.size_toArray, List.length_cons, List.length_nil, Nat.reduceAdd, Nat.zero_add, List.range, List.range.loop]
  walk_nrm
  refine ogE ?_
  rw [taks10_eq]
  refine ogS ?_
  rw [takr8_eq]
  refine ogR ?_
  simp only [tako8, Code.opsOf, takr8, Code.piece, takBody, Try.f26, Option.getD_some, List.size_toArray, List.length_cons, List.length_nil, Nat.reduceAdd, Nat.zero_add, List.range, List.range.loop]
  (refine oW fun dd K hK => ?_; go_simp; refine qT hK ?_; clear hK K)
  (refine oW fun dd K hK => ?_; go_simp; refine qT hK ?_; clear hK K)
  (refine oW fun dd K hK => ?_; go_simp; refine qT hK ?_; clear hK K)
  refine oc callable52 #[.pointer (some ⟨h0, 1, none⟩)] ?_
  refine own_load hb hc rfl ?_
  rw [Frame.finish_at]
  walk_nrm
  (refine oW fun dd K hK => ?_; go_simp; refine qT hK ?_; clear hK K)
  refine ogE ?_
  rw [takb2_eq]
  refine ogB ?_
  rw [taks11_eq]
  refine ogS ?_
  rw [takr12_eq]
  refine ogR ?_
  simp only [tako12, Code.opsOf, takr12, Code.piece, takBody, Try.f26, Option.getD_some, List.size_toArray, List.length_cons, List.length_nil, Nat.reduceAdd, Nat.zero_add, List.range, List.range.loop]
  (refine oW fun dd K hK => ?_; go_simp; refine qT hK ?_; clear hK K)
  (refine oW fun dd K hK => ?_; go_simp; refine qT hK ?_; clear hK K)
  (refine oW fun dd K hK => ?_; go_simp; refine qT hK ?_; clear hK K)
  refine ogE ?_
  rw [takc41_eq]
  refine ogF ?_
  simp only [Bool.false_eq_true, if_false]
  rw [taks13_eq]
  refine ogS ?_
  rw [takr14_eq]
  refine ogR ?_
  simp only [tako14, Code.opsOf, takr14, Code.piece, takBody, Try.f26, Option.getD_some, List.size_toArray, List.length_cons, List.length_nil, Nat.reduceAdd, Nat.zero_add, List.range, List.range.loop]
  (refine oW fun dd K hK => ?_; go_simp; refine qT hK ?_; clear hK K)
  (refine oW fun dd K hK => ?_; go_simp; refine qT hK ?_; clear hK K)
  (refine own_val (v := .bool true) (w' := w) rfl rfl (by decide) (fun d => by simp [execOp, Act.eval, eqGuard, eql_ptr54 (hq d)]) (fun d => ⟨0, Grew.refl _ _⟩) (fun d e hm => by simp [execOp, Act.eval, eqGuard, eql_ptr54E (hq d)] at hm) ?_; walk_nrm)
  (refine oW fun dd K hK => ?_; go_simp; refine qT hK ?_; clear hK K)
  refine ogE ?_
  rw [takc44_eq]
  refine ogT ?_
  simp only [if_true]
  rw [taks14_eq]
  refine ogS ?_
  rw [takr15_eq]
  refine ogR ?_
  simp only [tako15, Code.opsOf, takr15, Code.piece, takBody, Try.f26, Option.getD_some, List.size_toArray, List.length_cons, List.length_nil, Nat.reduceAdd, Nat.zero_add, List.range, List.range.loop]
  (refine oW fun dd K hK => ?_; go_simp; refine qT hK ?_; clear hK K)
  refine oc callable53 #[.iface K.t (.pointer (some sa))] ?_
  refine own_step_call ?_
  refine h _ ?_
  exact ⟨rfl, rfl, rfl, rfl, rfl, rfl, trivial⟩
set_option maxRecDepth 100000 in
set_option maxHeartbeats 2000000 in
theorem tak_3h {K : StK} {sa : Addr} {qb : Nat} {h0 t n : Nat} (hb : BoxP w (some ⟨n, 0, none⟩)) (hc : w.cell? ⟨h0, 1, none⟩ = some (.pointer (some ⟨n, 0, none⟩))) (hq : ∀ d, PtrEq Try.prog (w.at d) (some ⟨h0, 0, none⟩) (some ⟨t, 0, none⟩) false) {A : Array Value} (hA : Slots 56 A [(0, .pointer (some ⟨qb, 0, none⟩)), (1, .iface K.t (.pointer (some sa))), (6, .pointer (some ⟨h0, 0, none⟩)), (7, .pointer (some ⟨t, 0, none⟩))]) {cs : List Frame} {main : Bool} {Stop : Goroutine → World → Prop}
    (h : ∀ A, Slots 56 A [(0, .pointer (some ⟨qb, 0, none⟩)), (1, .iface K.t (.pointer (some sa))), (6, .pointer (some ⟨h0, 0, none⟩)), (7, .pointer (some ⟨t, 0, none⟩)), (8, .pointer (some ⟨n, 0, none⟩))] → Own Try.prog main F Stop (G (Frame.enter Try.prog K.f #[.pointer (some sa)] .normal) (stepFr K sa :: ((Go.Conc.base 26).at ⟨A, []⟩ [.inRegion tako9 [1], .code taks16, .inBlock 2, .inBlock 1, .inLoop takb1, .inBlock 0]) :: cs)) w) :
    Own Try.prog main F Stop (G ((stepFr K sa).finish (.tuple #[])) (((Go.Conc.base 26).at ⟨A, []⟩ [.inRegion tako7 [1], .code taks10, .inBlock 1, .inLoop takb1, .inBlock 0]) :: cs)) w := by
  obtain ⟨hsz, h0, h1, h6, h7, _⟩ := hA
  obtain ⟨s, rfl⟩ := takT_of hsz
  change s 0 = _ at h0
  change s 1 = _ at h1
  change s 6 = _ at h6
  change s 7 = _ at h7
  clear hsz
  simp only [takT, h0, h1, h6, h7]
  clear h0 h1 h6 h7
  refine own_step_back ?_
  rw [Frame.finish_at]
  simp only [tako7, Code.opsOf, takr7, Code.piece, takBody, Try.f26, Option.getD_some, List.size_toArray, List.length_cons, List.length_nil, Nat.reduceAdd, Nat.zero_add, List.range, List.range.loop]
  walk_nrm
  refine ogE ?_
  rw [taks10_eq]
  refine ogS ?_
  rw [takr8_eq]
  refine ogR ?_
  simp only [tako8, Code.opsOf, takr8, Code.piece, takBody, Try.f26, Option.getD_some, List.size_toArray, List.length_cons, List.length_nil, Nat.reduceAdd, Nat.zero_add, List.range, List.range.loop]
  (refine oW fun dd K hK => ?_; go_simp; refine qT hK ?_; clear hK K)
  (refine oW fun dd K hK => ?_; go_simp; refine qT hK ?_; clear hK K)
  (refine oW fun dd K hK => ?_; go_simp; refine qT hK ?_; clear hK K)
  refine oc callable52 #[.pointer (some ⟨h0, 1, none⟩)] ?_
  refine own_load hb hc rfl ?_
  rw [Frame.finish_at]
  walk_nrm
  (refine oW fun dd K hK => ?_; go_simp; refine qT hK ?_; clear hK K)
  refine ogE ?_
  rw [takb2_eq]
  refine ogB ?_
  rw [taks11_eq]
  refine ogS ?_
  rw [takr12_eq]
  refine ogR ?_
  simp only [tako12, Code.opsOf, takr12, Code.piece, takBody, Try.f26, Option.getD_some, List.size_toArray, List.length_cons, List.length_nil, Nat.reduceAdd, Nat.zero_add, List.range, List.range.loop]
  (refine oW fun dd K hK => ?_; go_simp; refine qT hK ?_; clear hK K)
  (refine oW fun dd K hK => ?_; go_simp; refine qT hK ?_; clear hK K)
  (refine oW fun dd K hK => ?_; go_simp; refine qT hK ?_; clear hK K)
  refine ogE ?_
  rw [takc41_eq]
  refine ogF ?_
  simp only [Bool.false_eq_true, if_false]
  rw [taks13_eq]
  refine ogS ?_
  rw [takr14_eq]
  refine ogR ?_
  simp only [tako14, Code.opsOf, takr14, Code.piece, takBody, Try.f26, Option.getD_some, List.size_toArray, List.length_cons, List.length_nil, Nat.reduceAdd, Nat.zero_add, List.range, List.range.loop]
  (refine oW fun dd K hK => ?_; go_simp; refine qT hK ?_; clear hK K)
  (refine oW fun dd K hK => ?_; go_simp; refine qT hK ?_; clear hK K)
  (refine own_val (v := .bool false) (w' := w) rfl rfl (by decide) (fun d => by simp [execOp, Act.eval, eqGuard, eql_ptr54 (hq d)]) (fun d => ⟨0, Grew.refl _ _⟩) (fun d e hm => by simp [execOp, Act.eval, eqGuard, eql_ptr54E (hq d)] at hm) ?_; walk_nrm)
  (refine oW fun dd K hK => ?_; go_simp; refine qT hK ?_; clear hK K)
  refine ogE ?_
  rw [takc44_eq]
  refine ogF ?_
  simp only [Bool.false_eq_true, if_false]
  rw [taks15_eq]
  refine ogS ?_
  rw [takr9_eq]
  refine ogR ?_
  simp only [tako9, Code.opsOf, takr9, Code.piece, takBody, Try.f26, Option.getD_some, List.size_toArray, List.length_cons, List.length_nil, Nat.reduceAdd, Nat.zero_add, List.range, List.range.loop]
  (refine oW fun dd K hK => ?_; go_simp; refine qT hK ?_; clear hK K)
  refine oc callable53 #[.iface K.t (.pointer (some sa))] ?_
  refine own_step_call ?_
  refine h _ ?_
  exact ⟨rfl, rfl, rfl, rfl, rfl, rfl, trivial⟩
set_option maxRecDepth 100000 in
set_option maxHeartbeats 2000000 in
theorem tak_4 {K : StK} {sa : Addr} {qb : Nat} {h0 t n : Nat} {cur : Option Addr} {eq : Bool} (hb : BoxP w (some ⟨t, 0, none⟩)) (hn : BoxP w (some ⟨n, 0, none⟩)) (hc : w.cell? ⟨qb, 1, none⟩ = some (.pointer cur)) (hz : w.frozen? ⟨qb, 1, none⟩ = false) (hnh : ¬ held F ⟨qb, 1, none⟩) (hq : ∀ d, PtrEq Try.prog (w.at d) cur (some ⟨t, 0, none⟩) eq) {A : Array Value} (hA : Slots 56 A [(0, .pointer (some ⟨qb, 0, none⟩)), (1, .iface K.t (.pointer (some sa))), (6, .pointer (some ⟨h0, 0, none⟩)), (7, .pointer (some ⟨t, 0, none⟩)), (8, .pointer (some ⟨n, 0, none⟩))]) {cs : List Frame} {main : Bool} {Stop : Goroutine → World → Prop}
    (h : ∀ A, Slots 56 A [(0, .pointer (some ⟨qb, 0, none⟩)), (1, .iface K.t (.pointer (some sa)))] → Own Try.prog main F Stop (G (Frame.enter Try.prog K.f #[.pointer (some sa)] .normal) (stepFr K sa :: ((Go.Conc.base 26).at ⟨A, []⟩ [.inRegion tako3 [1], .code taks6, .inBlock 1, .inLoop takb1, .inBlock 0]) :: cs)) (if eq then w.setCell ⟨qb, 1, none⟩ (.pointer (some ⟨n, 0, none⟩)) else w)) :
    Own Try.prog main F Stop (G ((stepFr K sa).finish (.tuple #[])) (((Go.Conc.base 26).at ⟨A, []⟩ [.inRegion tako15 [1], .code takr16, .inBlock 2, .inBlock 1, .inLoop takb1, .inBlock 0]) :: cs)) w := by
  obtain ⟨hsz, h0, h1, h6, h7, h8, _⟩ := hA
  obtain ⟨s, rfl⟩ := takT_of hsz
  change s 0 = _ at h0
  change s 1 = _ at h1
  change s 6 = _ at h6
  change s 7 = _ at h7
  change s 8 = _ at h8
  clear hsz
  simp only [takT, h0, h1, h6, h7, h8]
  clear h0 h1 h6 h7 h8
  refine own_step_back ?_
  rw [Frame.finish_at]
  simp only [tako15, Code.opsOf, takr15, Code.piece, takBody, Try.f26, Option.getD_some, List.size_toArray, List.length_cons, List.length_nil, Nat.reduceAdd, Nat.zero_add, List.range, List.range.loop]
  walk_nrm
  refine ogE ?_
  rw [takr16_eq]
  refine ogR ?_
  simp only [tako16, Code.opsOf, takr16, Code.piece, takBody, Try.f26, Option.getD_some, List.size_toArray, List.length_cons, List.length_nil, Nat.reduceAdd, Nat.zero_add, List.range, List.range.loop]
  (refine oW fun dd K hK => ?_; go_simp; refine qT hK ?_; clear hK K)
  (refine oW fun dd K hK => ?_; go_simp; refine qT hK ?_; clear hK K)
  (refine oW fun dd K hK => ?_; go_simp; refine qT hK ?_; clear hK K)
  (refine oW fun dd K hK => ?_; go_simp; refine qT hK ?_; clear hK K)
  (refine oW fun dd K hK => ?_; go_simp; refine qT hK ?_; clear hK K)
  refine oc callable54 #[.pointer (some ⟨qb, 1, none⟩), .pointer (some ⟨t, 0, none⟩), .pointer (some ⟨n, 0, none⟩)] ?_
  refine own_cas hc rfl hz hnh hb hn hq ?_
  rw [Frame.finish_at]
  walk_nrm
  refine ogE ?_
  refine ogI ?_
  refine ogI ?_
  refine ogL ?_
  rw [takb1_eq]
  refine ogB ?_
  rw [taks5_eq]
  refine ogS ?_
  rw [takr3_eq]
  refine ogR ?_
  simp only [tako3, Code.opsOf, takr3, Code.piece, takBody, Try.f26, Option.getD_some, List.size_toArray, List.length_cons, List.length_nil, Nat.reduceAdd, Nat.zero_add, List.range, List.range.loop]
  (refine oW fun dd K hK => ?_; go_simp; refine qT hK ?_; clear hK K)
  refine oc callable53 #[.iface K.t (.pointer (some sa))] ?_
  refine own_step_call ?_
  refine h _ ?_
  exact ⟨rfl, rfl, rfl, trivial⟩
set_option maxRecDepth 100000 in
set_option maxHeartbeats 2000000 in
theorem tak_5a {K : StK} {sa : Addr} {qb : Nat} {h0 t n : Nat} {cur : Option Addr} (hb : BoxP w (some ⟨h0, 0, none⟩)) (hn : BoxP w (some ⟨n, 0, none⟩)) (hc : w.cell? ⟨qb, 0, none⟩ = some (.pointer cur)) (hz : w.frozen? ⟨qb, 0, none⟩ = false) (hnh : ¬ held F ⟨qb, 0, none⟩) (hq : ∀ d, PtrEq Try.prog (w.at d) cur (some ⟨h0, 0, none⟩) true) {v : Int} (hv : (w.setCell ⟨qb, 0, none⟩ (.pointer (some ⟨n, 0, none⟩))).cell? ⟨n, 0, none⟩ = some (.int .i64 v)) (hvz : (w.setCell ⟨qb, 0, none⟩ (.pointer (some ⟨n, 0, none⟩))).frozen? ⟨n, 0, none⟩ = false) {A : Array Value} (hA : Slots 56 A [(0, .pointer (some ⟨qb, 0, none⟩)), (1, .iface K.t (.pointer (some sa))), (6, .pointer (some ⟨h0, 0, none⟩)), (7, .pointer (some ⟨t, 0, none⟩)), (8, .pointer (some ⟨n, 0, none⟩))]) {c : Frame} {cs : List Frame} {main : Bool} {Stop : Goroutine → World → Prop}
    (h : Own Try.prog main F Stop (G (c.finish (.tuple #[.int .i64 v, .int .i64 0])) cs) (w.setCell ⟨qb, 0, none⟩ (.pointer (some ⟨n, 0, none⟩)))) :
    Own Try.prog main F Stop (G ((stepFr K sa).finish (.tuple #[])) (((Go.Conc.base 26).at ⟨A, []⟩ [.inRegion tako9 [1], .code taks16, .inBlock 2, .inBlock 1, .inLoop takb1, .inBlock 0]) :: c :: cs)) w := by
  obtain ⟨hsz, h0, h1, h6, h7, h8, _⟩ := hA
  obtain ⟨s, rfl⟩ := takT_of hsz
  change s 0 = _ at h0
  change s 1 = _ at h1
  change s 6 = _ at h6
  change s 7 = _ at h7
  change s 8 = _ at h8
  clear hsz
  simp only [takT, h0, h1, h6, h7, h8]
  clear h0 h1 h6 h7 h8
  refine own_step_back ?_
  rw [Frame.finish_at]
  simp only [tako9, Code.opsOf, takr9, Code.piece, takBody, Try.f26, Option.getD_some, List.size_toArray, List.length_cons, List.length_nil, Nat.reduceAdd, Nat.zero_add, List.range, List.range.loop]
  walk_nrm
  refine ogE ?_
  rw [taks16_eq]
  refine ogS ?_
  rw [takr10_eq]
  refine ogR ?_
  simp only [tako10, Code.opsOf, takr10, Code.piece, takBody, Try.f26, Option.getD_some, List.size_toArray, List.length_cons, List.length_nil, Nat.reduceAdd, Nat.zero_add, List.range, List.range.loop]
  (refine oW fun dd K hK => ?_; go_simp; refine qT hK ?_; clear hK K)
  (refine oW fun dd K hK => ?_; go_simp; refine qT hK ?_; clear hK K)
  (refine oW fun dd K hK => ?_; go_simp; refine qT hK ?_; clear hK K)
  (refine oW fun dd K hK => ?_; go_simp; refine qT hK ?_; clear hK K)
  (refine oW fun dd K hK => ?_; go_simp; refine qT hK ?_; clear hK K)
  refine oc callable54 #[.pointer (some ⟨qb, 0, none⟩), .pointer (some ⟨h0, 0, none⟩), .pointer (some ⟨n, 0, none⟩)] ?_
  refine own_cas (t := true) hc rfl hz hnh hb hn hq ?_
  rw [Frame.finish_at]
  walk_nrm
  simp only [if_true]
  refine ogE ?_
  rw [takc36_eq]
  refine ogT ?_
  simp only [if_true]
  rw [taks17_eq]
  refine ogS ?_
  rw [takr11_eq]
  refine ogR ?_
  simp only [tako11, Code.opsOf, takr11, Code.piece, takBody, Try.f26, Option.getD_some, List.size_toArray, List.length_cons, List.length_nil, Nat.reduceAdd, Nat.zero_add, List.range, List.range.loop]
  (refine oW fun dd K hK => ?_; go_simp; refine qT hK ?_; clear hK K)
  (refine oW fun dd K hK => ?_; go_simp; refine qT hK ?_; clear hK K)
  (refine oW fun dd K hK => ?_; go_simp; refine qT hK ?_; clear hK K)
  (refine oW fun dd K hK => ?_; go_simp; refine qL hK ?_; clear hK K)
  (refine oW fun dd K hK => ?_; go_simp; refine qT hK ?_; clear hK K)
  (refine oW fun dd K hK => ?_; go_simp; refine qT hK ?_; clear hK K)
  refine ogE ?_
  refine ogX ?_
  refine own_go rfl (fun d => stepG_leave (fn := Try.f26) (v := .tuple #[.int .i64 v, .int .i64 0]) rfl rfl Try.func26 (by simp [results, Try.f26]) (by simp [results, Try.f26, go_sem])) ?_
  exact h
set_option maxRecDepth 100000 in
set_option maxHeartbeats 2000000 in
theorem tak_5b {K : StK} {sa : Addr} {qb : Nat} {h0 t n : Nat} {cur : Option Addr} (hb : BoxP w (some ⟨h0, 0, none⟩)) (hn : BoxP w (some ⟨n, 0, none⟩)) (hc : w.cell? ⟨qb, 0, none⟩ = some (.pointer cur)) (hz : w.frozen? ⟨qb, 0, none⟩ = false) (hnh : ¬ held F ⟨qb, 0, none⟩) (hq : ∀ d, PtrEq Try.prog (w.at d) cur (some ⟨h0, 0, none⟩) false) {A : Array Value} (hA : Slots 56 A [(0, .pointer (some ⟨qb, 0, none⟩)), (1, .iface K.t (.pointer (some sa))), (6, .pointer (some ⟨h0, 0, none⟩)), (7, .pointer (some ⟨t, 0, none⟩)), (8, .pointer (some ⟨n, 0, none⟩))]) {cs : List Frame} {main : Bool} {Stop : Goroutine → World → Prop}
    (h : ∀ A, Slots 56 A [(0, .pointer (some ⟨qb, 0, none⟩)), (1, .iface K.t (.pointer (some sa)))] → Own Try.prog main F Stop (G (Frame.enter Try.prog K.f #[.pointer (some sa)] .normal) (stepFr K sa :: ((Go.Conc.base 26).at ⟨A, []⟩ [.inRegion tako3 [1], .code taks6, .inBlock 1, .inLoop takb1, .inBlock 0]) :: cs)) w) :
    Own Try.prog main F Stop (G ((stepFr K sa).finish (.tuple #[])) (((Go.Conc.base 26).at ⟨A, []⟩ [.inRegion tako9 [1], .code taks16, .inBlock 2, .inBlock 1, .inLoop takb1, .inBlock 0]) :: cs)) w := by
  obtain ⟨hsz, h0, h1, h6, h7, h8, _⟩ := hA
  obtain ⟨s, rfl⟩ := takT_of hsz
  change s 0 = _ at h0
  change s 1 = _ at h1
  change s 6 = _ at h6
  change s 7 = _ at h7
  change s 8 = _ at h8
  clear hsz
  simp only [takT, h0, h1, h6, h7, h8]
  clear h0 h1 h6 h7 h8
  refine own_step_back ?_
  rw [Frame.finish_at]
  simp only [tako9, Code.opsOf, takr9, Code.piece, takBody, Try.f26, Option.getD_some, List.size_toArray, List.length_cons, List.length_nil, Nat.reduceAdd, Nat.zero_add, List.range, List.range.loop]
  walk_nrm
  refine ogE ?_
  rw [taks16_eq]
  refine ogS ?_
  rw [takr10_eq]
  refine ogR ?_
  simp only [tako10, Code.opsOf, takr10, Code.piece, takBody, Try.f26, Option.getD_some, List.size_toArray, List.length_cons, List.length_nil, Nat.reduceAdd, Nat.zero_add, List.range, List.range.loop]
  (refine oW fun dd K hK => ?_; go_simp; refine qT hK ?_; clear hK K)
  (refine oW fun dd K hK => ?_; go_simp; refine qT hK ?_; clear hK K)
  (refine oW fun dd K hK => ?_; go_simp; refine qT hK ?_; clear hK K)
  (refine oW fun dd K hK => ?_; go_simp; refine qT hK ?_; clear hK K)
  (refine oW fun dd K hK => ?_; go_simp; refine qT hK ?_; clear hK K)
  refine oc callable54 #[.pointer (some ⟨qb, 0, none⟩), .pointer (some ⟨h0, 0, none⟩), .pointer (some ⟨n, 0, none⟩)] ?_
  refine own_cas (t := false) hc rfl hz hnh hb hn hq ?_
  rw [Frame.finish_at]
  walk_nrm
  simp only [Bool.false_eq_true, if_false]
  refine ogE ?_
  rw [takc36_eq]
  refine ogF ?_
  simp only [Bool.false_eq_true, if_false]
  refine ogK ?_
  refine ogI ?_
  refine ogI ?_
  refine ogL ?_
  rw [takb1_eq]
  refine ogB ?_
  rw [taks5_eq]
  refine ogS ?_
  rw [takr3_eq]
  refine ogR ?_
  simp only [tako3, Code.opsOf, takr3, Code.piece, takBody, Try.f26, Option.getD_some, List.size_toArray, List.length_cons, List.length_nil, Nat.reduceAdd, Nat.zero_add, List.range, List.range.loop]
  (refine oW fun dd K hK => ?_; go_simp; refine qT hK ?_; clear hK K)
  refine oc callable53 #[.iface K.t (.pointer (some sa))] ?_
  refine own_step_call ?_
  refine h _ ?_
  exact ⟨rfl, rfl, rfl, trivial⟩
set_option maxRecDepth 100000 in
set_option maxHeartbeats 2000000 in
theorem emp_0 {K : StK} {sa hd : Addr} {qb : Nat} (hbh : BoxP w (some hd)) (hch : w.cell? ⟨qb, 0, none⟩ = some (.pointer (some hd))) {cs : List Frame} {main : Bool} {Stop : Goroutine → World → Prop}
    (h : ∀ A, Slots 21 A [(0, .pointer (some ⟨qb, 0, none⟩)), (1, .iface K.t (.pointer (some sa)))] → Own Try.prog main F Stop (G (Frame.enter Try.prog K.f #[.pointer (some sa)] .normal) (stepFr K sa :: ((Go.Conc.base 27).at ⟨A, []⟩ [.inRegion empo3 [1], .code emps5]) :: cs)) w) :
    Own Try.prog main F Stop (G (Frame.enter Try.prog 27 #[.pointer (some ⟨qb, 0, none⟩), .iface K.t (.pointer (some sa))] .normal) cs) w := by
  rw [enter_emp]
  walk_nrm
  rw [emps0_eq]
  refine ogS ?_
  rw [empr0_eq]
  refine ogR ?_
  simp only [empo0, Code.opsOf, empr0, Code.piece, empBody, Try.f27, Option.getD_some, List.size_toArray, List.length_cons, List.length_nil, Nat.reduceAdd, Nat.zero_add, List.range, List.range.loop]
  (refine oW fun dd K hK => ?_; go_simp; refine qT hK ?_; clear hK K)
  refine ogE ?_
  rw [emps1_eq]
  refine ogS ?_
  rw [emps2_eq]
  refine ogS ?_
  rw [empr1_eq]
  refine ogR ?_
  simp only [empo1, Code.opsOf, empr1, Code.piece, empBody, Try.f27, Option.getD_some, List.size_toArray, List.length_cons, List.length_nil, Nat.reduceAdd, Nat.zero_add, List.range, List.range.loop]
  (refine oW fun dd K hK => ?_; go_simp; refine qT hK ?_; clear hK K)
  refine oc callable51 #[.pointer (some ⟨qb, 0, none⟩)] ?_
  refine own_no hbh hch ?_
  rw [Frame.finish_at]
  walk_nrm
  refine ogE ?_
  rw [empc7_eq]
  refine ogF ?_
  simp only [Bool.false_eq_true, if_false]
  refine ogK ?_
  rw [emps4_eq]
  refine ogS ?_
  rw [empr3_eq]
  refine ogR ?_
  simp only [empo3, Code.opsOf, empr3, Code.piece, empBody, Try.f27, Option.getD_some, List.size_toArray, List.length_cons, List.length_nil, Nat.reduceAdd, Nat.zero_add, List.range, List.range.loop]
  (refine oW fun dd K hK => ?_; go_simp; refine qT hK ?_; clear hK K)
  refine oc callable53 #[.iface K.t (.pointer (some sa))] ?_
  refine own_step_call ?_
  refine h _ ?_
  exact ⟨rfl, rfl, rfl, trivial⟩
set_option maxRecDepth 100000 in
set_option maxHeartbeats 2000000 in
theorem emp_1 {K : StK} {sa : Addr} {qb : Nat} {h0 : Nat} (hb : BoxP w (some ⟨h0, 0, none⟩)) (hc : w.cell? ⟨qb, 0, none⟩ = some (.pointer (some ⟨h0, 0, none⟩))) {A : Array Value} (hA : Slots 21 A [(0, .pointer (some ⟨qb, 0, none⟩)), (1, .iface K.t (.pointer (some sa)))]) {cs : List Frame} {main : Bool} {Stop : Goroutine → World → Prop}
    (h : ∀ A, Slots 21 A [(0, .pointer (some ⟨qb, 0, none⟩)), (1, .iface K.t (.pointer (some sa))), (5, .pointer (some ⟨h0, 0, none⟩))] → Own Try.prog main F Stop (G (Frame.enter Try.prog K.f #[.pointer (some sa)] .normal) (stepFr K sa :: ((Go.Conc.base 27).at ⟨A, []⟩ [.inRegion empo5 [1], .code emps7]) :: cs)) w) :
    Own Try.prog main F Stop (G ((stepFr K sa).finish (.tuple #[])) (((Go.Conc.base 27).at ⟨A, []⟩ [.inRegion empo3 [1], .code emps5]) :: cs)) w := by
  obtain ⟨hsz, h0, h1, _⟩ := hA
  obtain ⟨s, rfl⟩ := empT_of hsz
  change s 0 = _ at h0
  change s 1 = _ at h1
  clear hsz
  simp only [empT, h0, h1]
  clear h0 h1
  refine own_step_back ?_
  rw [Frame.finish_at]
  simp only [empo3, Code.opsOf, empr3, Code.piece, empBody, Try.f27, Option.getD_some, List.size_toArray, List.length_cons, List.length_nil, Nat.reduceAdd, Nat.zero_add, List.range, List.range.loop]
  walk_nrm
  refine ogE ?_
  rw [emps5_eq]
  refine ogS ?_
  rw [empr4_eq]
  refine ogR ?_
  simp only [empo4, Code.opsOf, empr4, Code.piece, empBody, Try.f27, Option.getD_some, List.size_toArray, List.length_cons, List.length_nil, Nat.reduceAdd, Nat.zero_add, List.range, List.range.loop]
  (refine oW fun dd K hK => ?_; go_simp; refine qT hK ?_; clear hK K)
  (refine oW fun dd K hK => ?_; go_simp; refine qT hK ?_; clear hK K)
  (refine oW fun dd K hK => ?_; go_simp; refine qT hK ?_; clear hK K)
  refine oc callable52 #[.pointer (some ⟨qb, 0, none⟩)] ?_
  refine own_load hb hc rfl ?_
  rw [Frame.finish_at]
  walk_nrm
  (refine oW fun dd K hK => ?_; go_simp; refine qT hK ?_; clear hK K)
  refine ogE ?_
  rw [emps6_eq]
  refine ogS ?_
  rw [empr5_eq]
  refine ogR ?_
  simp only [empo5, Code.opsOf, empr5, Code.piece, empBody, Try.f27, Option.getD_some, List.size_toArray, List.length_cons, List.length_nil, Nat.reduceAdd, Nat.zero_add, List.range, List.range.loop]
  (refine oW fun dd K hK => ?_; go_simp; refine qT hK ?_; clear hK K)
  refine oc callable53 #[.iface K.t (.pointer (some sa))] ?_
  refine own_step_call ?_
  refine h _ ?_
  exact ⟨rfl, rfl, rfl, rfl, trivial⟩
set_option maxRecDepth 100000 in
set_option maxHeartbeats 2000000 in
theorem emp_2 {K : StK} {sa : Addr} {qb : Nat} {h0 : Nat} {nx : Option Addr} (hb : BoxP w nx) (hc : w.cell? ⟨h0, 1, none⟩ = some (.pointer nx)) {A : Array Value} (hA : Slots 21 A [(0, .pointer (some ⟨qb, 0, none⟩)), (1, .iface K.t (.pointer (some sa))), (5, .pointer (some ⟨h0, 0, none⟩))]) {c : Frame} {cs : List Frame} {main : Bool} {Stop : Goroutine → World → Prop}
    (h : Own Try.prog main F Stop (G (c.finish (.bool nx.isNone)) cs) w) :
    Own Try.prog main F Stop (G ((stepFr K sa).finish (.tuple #[])) (((Go.Conc.base 27).at ⟨A, []⟩ [.inRegion empo5 [1], .code emps7]) :: c :: cs)) w := by
  obtain ⟨hsz, h0, h1, h5, _⟩ := hA
  obtain ⟨s, rfl⟩ := empT_of hsz
  change s 0 = _ at h0
  change s 1 = _ at h1
  change s 5 = _ at h5
  clear hsz
  simp only [empT, h0, h1, h5]
  clear h0 h1 h5
  refine own_step_back ?_
  rw [Frame.finish_at]
  simp only [empo5, Code.opsOf, empr5, Code.piece, empBody, Try.f27, Option.getD_some, List.size_toArray, List.length_cons, List.length_nil, Nat.reduceAdd, Nat.zero_add, List.range, List.range.loop]
  walk_nrm
  refine ogE ?_
  rw [emps7_eq]
  refine ogS ?_
  rw [empr6_eq]
  refine ogR ?_
  simp only [empo6, Code.opsOf, empr6, Code.piece, empBody, Try.f27, Option.getD_some, List.size_toArray, List.length_cons, List.length_nil, Nat.reduceAdd, Nat.zero_add, List.range, List.range.loop]
  (refine oW fun dd K hK => ?_; go_simp; refine qT hK ?_; clear hK K)
  (refine oW fun dd K hK => ?_; go_simp; refine qT hK ?_; clear hK K)
  (refine oW fun dd K hK => ?_; go_simp; refine qT hK ?_; clear hK K)
  refine oc callable52 #[.pointer (some ⟨h0, 1, none⟩)] ?_
  refine own_load hb hc rfl ?_
  rw [Frame.finish_at]
  walk_nrm
  (refine oW fun dd K hK => ?_; go_simp; refine qT hK ?_; clear hK K)
  (refine oW fun dd K hK => ?_; go_simp; refine qT hK ?_; clear hK K)
  refine ogE ?_
  refine ogX ?_
  refine own_go rfl (fun d => stepG_leave (fn := Try.f27) (v := .bool nx.isNone) rfl rfl Try.func27 (by simp [results, Try.f27]) (by simp [results, Try.f27, go_sem])) ?_
  exact h
end Go.Proofs.Ytcejbandeikdjaa
namespace Go.Proofs.Ytcejbandeikdjaa
open Go Go.Conc Go.RowKit Go.Proofs
variable {F : Fz} {w : World}
def ansW (w : World) (ab : Nat) (b : Bool) (n : Int) : World := ((w.setCell ⟨ab, 0, none⟩ (.bool b)).setCell ⟨ab, 1, none⟩ (.int .i64 n)).setCell ⟨ab, 2, none⟩ (.slice none 0 0)
theorem grew3 {ab : Nat} (h : ∀ k, ¬ held F ⟨ab, k, none⟩) (x y z : Value) : Grew F w (((w.setCell ⟨ab, 0, none⟩ x).setCell ⟨ab, 1, none⟩ y).setCell ⟨ab, 2, none⟩ z) 0 :=
  ((grew_setCell rfl (h 0) x).trans (grew_setCell rfl (h 1) y)).trans (grew_setCell rfl (h 2) z)
theorem ansW_new (X : World) (x y z : Value) (b : Bool) (n : Int) : (((X.alloc (.cells #[x, y, z] 46)).setCell ⟨X.heap.size, 0, none⟩ (.bool b)).setCell ⟨X.heap.size, 1, none⟩ (.int .i64 n)).setCell ⟨X.heap.size, 2, none⟩ (.slice none 0 0) = X.alloc (.cells #[.bool b, .int .i64 n, .slice none 0 0] 46) := by go_simp
structure Ans (w : World) (ab : Nat) : Prop where
  o : ∃ x y z, w.heap[ab]? = some (.cells #[x, y, z] 46 (0, 0))
theorem Ans.c {ab : Nat} (h : Ans w ab) : ∃ x y z, w.cell? ⟨ab, 0, none⟩ = some x ∧ w.cell? ⟨ab, 1, none⟩ = some y ∧ w.cell? ⟨ab, 2, none⟩ = some z := by
  obtain ⟨x, y, z, h⟩ := h.o
  exact ⟨x, y, z, by simp [World.cell?, h], by simp [World.cell?, h], by simp [World.cell?, h]⟩
theorem Ans.z {ab : Nat} (h : Ans w ab) (k : Nat) : w.frozen? ⟨ab, k, none⟩ = false := by
  obtain ⟨x, y, z, h⟩ := h.o
  simp [World.frozen?, h]
theorem built46 (b : Bool) : Try.prog.built 46 [(0, .bool b)] = some #[.bool b, .int .i64 0, .slice none 0 0] := by kernel_rfl
@[go_sem] theorem run_build46 (b : Bool) (w : World) : (Instr.build 46 #[(0, .bool b)]).run Try.prog w = .ok (.agg #[.bool b, .int .i64 0, .slice none 0 0]) w := run_build w _ _ _ (built46 b)
@[go_sem] theorem ev_build46 (b : Bool) (w : World) (es : Array Event) : (Instr.build 46 #[(0, .bool b)]).events Try.prog w es = es := ev_build w es _ _ _ _ Try.underlying46 (built46 b)
theorem built46n (b : Bool) (n : Int) : Try.prog.built 46 [(0, .bool b), (1, .int .i64 n)] = some #[.bool b, .int .i64 n, .slice none 0 0] := by kernel_rfl
@[go_sem] theorem run_build46n (b : Bool) (n : Int) (w : World) : (Instr.build 46 #[(0, .bool b), (1, .int .i64 n)]).run Try.prog w = .ok (.agg #[.bool b, .int .i64 n, .slice none 0 0]) w := run_build w _ _ _ (built46n b n)
@[go_sem] theorem ev_build46n (b : Bool) (n : Int) (w : World) (es : Array Event) : (Instr.build 46 #[(0, .bool b), (1, .int .i64 n)]).events Try.prog w es = es := ev_build w es _ _ _ _ Try.underlying46 (built46n b n)
theorem built46z : Try.prog.built 46 [] = some #[.bool false, .int .i64 0, .slice none 0 0] := by kernel_rfl
@[go_sem] theorem run_build46z (w : World) : (Instr.build 46 #[]).run Try.prog w = .ok (.agg #[.bool false, .int .i64 0, .slice none 0 0]) w := run_build w _ _ _ built46z
@[go_sem] theorem ev_build46z (w : World) (es : Array Event) : (Instr.build 46 #[]).events Try.prog w es = es := ev_build w es _ _ _ _ Try.underlying46 built46z
noncomputable def qdoBody : Code := Try.f38.body.getD .skip
noncomputable def qdos0 : Code := Code.piece [] qdoBody
noncomputable def qdor0 : Code := Code.piece [true] qdoBody
noncomputable def qdoo0 : Array Oper := Code.opsOf qdor0
noncomputable def qdos1 : Code := Code.piece [false] qdoBody
noncomputable def qdos2 : Code := Code.piece [false, true] qdoBody
noncomputable def qdor1 : Code := Code.piece [false, true, true] qdoBody
noncomputable def qdoo1 : Array Oper := Code.opsOf qdor1
noncomputable def qdob0 : Code := Code.piece [false, true, false] qdoBody
noncomputable def qdos3 : Code := Code.piece [false, true, false, true] qdoBody
noncomputable def qdor2 : Code := Code.piece [false, true, false, true, true] qdoBody
noncomputable def qdoo2 : Array Oper := Code.opsOf qdor2
noncomputable def qdoc14 : Code := Code.piece [false, true, false, true, false] qdoBody
noncomputable def qdos4 : Code := Code.piece [false, true, false, true, false, true] qdoBody
noncomputable def qdor3 : Code := Code.piece [false, true, false, true, false, true, true] qdoBody
noncomputable def qdoo3 : Array Oper := Code.opsOf qdor3
noncomputable def qdos5 : Code := Code.piece [false, true, false, true, false, true, false] qdoBody
noncomputable def qdor4 : Code := Code.piece [false, true, false, true, false, true, false, true] qdoBody
noncomputable def qdoo4 : Array Oper := Code.opsOf qdor4
noncomputable def qdos6 : Code := Code.piece [false, true, false, true, false, false] qdoBody
noncomputable def qdor5 : Code := Code.piece [false, true, false, true, false, false, true] qdoBody
noncomputable def qdoo5 : Array Oper := Code.opsOf qdor5
noncomputable def qdoc22 : Code := Code.piece [false, true, false, true, false, false, false] qdoBody
noncomputable def qdos7 : Code := Code.piece [false, true, false, true, false, false, false, true] qdoBody
noncomputable def qdor6 : Code := Code.piece [false, true, false, true, false, false, false, true, true] qdoBody
noncomputable def qdoo6 : Array Oper := Code.opsOf qdor6
noncomputable def qdos8 : Code := Code.piece [false, true, false, true, false, false, false, true, false] qdoBody
noncomputable def qdor7 : Code := Code.piece [false, true, false, true, false, false, false, true, false, true] qdoBody
noncomputable def qdoo7 : Array Oper := Code.opsOf qdor7
noncomputable def qdos9 : Code := Code.piece [false, true, false, true, false, false, false, false] qdoBody
noncomputable def qdor8 : Code := Code.piece [false, true, false, true, false, false, false, false, true] qdoBody
noncomputable def qdoo8 : Array Oper := Code.opsOf qdor8
noncomputable def qdoc34 : Code := Code.piece [false, true, false, true, false, false, false, false, false] qdoBody
noncomputable def qdos10 : Code := Code.piece [false, true, false, true, false, false, false, false, false, true] qdoBody
noncomputable def qdor9 : Code := Code.piece [false, true, false, true, false, false, false, false, false, true, true] qdoBody
noncomputable def qdoo9 : Array Oper := Code.opsOf qdor9
noncomputable def qdos11 : Code := Code.piece [false, true, false, true, false, false, false, false, false, true, false] qdoBody
noncomputable def qdos12 : Code := Code.piece [false, true, false, true, false, false, false, false, false, true, false, true] qdoBody
noncomputable def qdor10 : Code := Code.piece [false, true, false, true, false, false, false, false, false, true, false, true, true] qdoBody
noncomputable def qdoo10 : Array Oper := Code.opsOf qdor10
noncomputable def qdoc39 : Code := Code.piece [false, true, false, true, false, false, false, false, false, true, false, true, false] qdoBody
noncomputable def qdor11 : Code := Code.piece [false, true, false, true, false, false, false, false, false, true, false, true, false, true] qdoBody
noncomputable def qdoo11 : Array Oper := Code.opsOf qdor11
noncomputable def qdos13 : Code := Code.piece [false, true, false, true, false, false, false, false, false, true, false, false] qdoBody
noncomputable def qdor12 : Code := Code.piece [false, true, false, true, false, false, false, false, false, true, false, false, true] qdoBody
noncomputable def qdoo12 : Array Oper := Code.opsOf qdor12
noncomputable def qdos14 : Code := Code.piece [false, false] qdoBody
noncomputable def qdor13 : Code := Code.piece [false, false, true] qdoBody
noncomputable def qdoo13 : Array Oper := Code.opsOf qdor13
theorem qdos0_eq : qdos0 = .seq qdor0 qdos1 := by kernel_rfl
theorem qdor0_eq : qdor0 = .region 0 qdoo0 false := by kernel_rfl
theorem qdos1_eq : qdos1 = .seq qdos2 qdos14 := by kernel_rfl
theorem qdos2_eq : qdos2 = .seq qdor1 qdob0 := by kernel_rfl
theorem qdor1_eq : qdor1 = .region 1 qdoo1 false := by kernel_rfl
theorem qdob0_eq : qdob0 = .block 0 qdos3 := by kernel_rfl
theorem qdos3_eq : qdos3 = .seq qdor2 qdoc14 := by kernel_rfl
theorem qdor2_eq : qdor2 = .region 2 qdoo2 false := by kernel_rfl
theorem qdoc14_eq : qdoc14 = .cond (.tmp 14) qdos4 qdos6 := by kernel_rfl
theorem qdos4_eq : qdos4 = .seq qdor3 qdos5 := by kernel_rfl
theorem qdor3_eq : qdor3 = .region 3 qdoo3 false := by kernel_rfl
theorem qdos5_eq : qdos5 = .seq qdor4 .ret := by kernel_rfl
theorem qdor4_eq : qdor4 = .region 4 qdoo4 false := by kernel_rfl
theorem qdos6_eq : qdos6 = .seq qdor5 qdoc22 := by kernel_rfl
theorem qdor5_eq : qdor5 = .region 5 qdoo5 false := by kernel_rfl
theorem qdoc22_eq : qdoc22 = .cond (.tmp 22) qdos7 qdos9 := by kernel_rfl
theorem qdos7_eq : qdos7 = .seq qdor6 qdos8 := by kernel_rfl
theorem qdor6_eq : qdor6 = .region 6 qdoo6 false := by kernel_rfl
theorem qdos8_eq : qdos8 = .seq qdor7 .ret := by kernel_rfl
theorem qdor7_eq : qdor7 = .region 7 qdoo7 false := by kernel_rfl
theorem qdos9_eq : qdos9 = .seq qdor8 qdoc34 := by kernel_rfl
theorem qdor8_eq : qdor8 = .region 8 qdoo8 false := by kernel_rfl
theorem qdoc34_eq : qdoc34 = .cond (.tmp 34) qdos10 .skip := by kernel_rfl
theorem qdos10_eq : qdos10 = .seq qdor9 qdos11 := by kernel_rfl
theorem qdor9_eq : qdor9 = .region 9 qdoo9 false := by kernel_rfl
theorem qdos11_eq : qdos11 = .seq qdos12 qdos13 := by kernel_rfl
theorem qdos12_eq : qdos12 = .seq qdor10 qdoc39 := by kernel_rfl
theorem qdor10_eq : qdor10 = .region 10 qdoo10 false := by kernel_rfl
theorem qdoc39_eq : qdoc39 = .cond (.tmp 39) qdor11 .skip := by kernel_rfl
theorem qdor11_eq : qdor11 = .region 11 qdoo11 false := by kernel_rfl
theorem qdos13_eq : qdos13 = .seq qdor12 .ret := by kernel_rfl
theorem qdor12_eq : qdor12 = .region 12 qdoo12 false := by kernel_rfl
theorem qdos14_eq : qdos14 = .seq qdor13 .ret := by kernel_rfl
theorem qdor13_eq : qdor13 = .region 13 qdoo13 false := by kernel_rfl
theorem enter_qdo (args : Array Value) : Frame.enter Try.prog 38 args .normal = (Go.Conc.base 38).at { tmps := args ++ Array.replicate (43 - args.size) undef, defers := [] } [.code qdos0] := enter_at args Try.func38 rfl
theorem callable38 : Callable 38 := callable Try.func38 rfl rfl
def qdoT (s : Nat → Value) : Array Value := #[s 0, s 1, s 2, s 3, s 4, s 5, s 6, s 7, s 8, s 9, s 10, s 11, s 12, s 13, s 14, s 15, s 16, s 17, s 18, s 19, s 20, s 21, s 22, s 23, s 24, s 25, s 26, s 27, s 28, s 29, s 30, s 31, s 32, s 33, s 34, s 35, s 36, s 37, s 38, s 39, s 40, s 41, s 42]
theorem qdoT_of {A : Array Value} (h : A.size = 43) : ∃ s, A = qdoT s := by
  obtain ⟨s, hs, _⟩ := arr_lit A h
  exact ⟨s, hs⟩
set_option maxRecDepth 100000 in
set_option maxHeartbeats 2000000 in
theorem do_other {n : Nat} (hU : Under F n) (hn : n ≤ w.heap.size) {sa : Addr} {qb i : Nat} {kd a b c0 : Int} (k1 : (kd == 1) = false) (k2 : (kd == 2) = false) (k3 : (kd == 3) = false) {c : Frame} {cs : List Frame} {main : Bool} {Stop : Goroutine → World → Prop}
    (h : Own Try.prog main F Stop (G (c.finish (.agg #[.bool false, .int .i64 0, .slice none 0 0])) cs) (ansW ((w.alloc (.cells #[.int .i64 kd, .int .i64 a, .int .i64 b, .int .i64 c0] 44)).alloc (.cells #[.bool false, .int .i64 0, .slice none 0 0] 46)) (w.heap.size + 1) false 0)) :
    Own Try.prog main F Stop (G (Frame.enter Try.prog 38 #[.pointer (some ⟨qb, 0, none⟩), .iface 145 (.pointer (some sa)), .int .i64 i, .agg #[.int .i64 kd, .int .i64 a, .int .i64 b, .int .i64 c0]] .normal) (c :: cs)) w := by
  rw [enter_qdo]
  walk_nrm
  rw [qdos0_eq]
  refine ogS ?_
  rw [qdor0_eq]
  refine ogR ?_
  simp only [qdoo0, Code.opsOf, qdor0, Code.piece, qdoBody, Try.f38, Option.getD_some, List.size_toArray, List.length_cons, List.length_nil, Nat.reduceAdd, Nat.zero_add, List.range, List.range.loop]
  (refine oW fun dd K hK => ?_; go_simp; refine qA hK hU ?_; clear hK K)
  (refine oW fun dd K hK => ?_; go_simp; refine qA hK hU ?_; clear hK K)
  refine ogE ?_
  rw [qdos1_eq]
  refine ogS ?_
  rw [qdos2_eq]
  refine ogS ?_
  rw [qdor1_eq]
  refine ogR ?_
  simp only [qdoo1, Code.opsOf, qdor1, Code.piece, qdoBody, Try.f38, Option.getD_some, List.size_toArray, List.length_cons, List.length_nil, Nat.reduceAdd, Nat.zero_add, List.range, List.range.loop]
  (refine oW fun dd K hK => ?_; go_simp; refine qT hK ?_; clear hK K)
  (refine oW fun dd K hK => ?_; go_simp; refine qL hK ?_; clear hK K)
  refine ogE ?_
  rw [qdob0_eq]
  refine ogB ?_
  rw [qdos3_eq]
  refine ogS ?_
  rw [qdor2_eq]
  refine ogR ?_
  simp only [qdoo2, Code.opsOf, qdor2, Code.piece, qdoBody, Try.f38, Option.getD_some, List.size_toArray, List.length_cons, List.length_nil, Nat.reduceAdd, Nat.zero_add, List.range, List.range.loop]
  (refine oW fun dd K hK => ?_; go_simp; refine qT hK ?_; clear hK K)
  (refine oW fun dd K hK => ?_; go_simp; refine qT hK ?_; clear hK K)
  refine ogE ?_
  rw [qdoc14_eq]
  refine ogF ?_
  simp only [Bool.false_eq_true, if_false]
  rw [qdos6_eq]
  refine ogS ?_
  rw [qdor5_eq]
  refine ogR ?_
  simp only [qdoo5, Code.opsOf, qdor5, Code.piece, qdoBody, Try.f38, Option.getD_some, List.size_toArray, List.length_cons, List.length_nil, Nat.reduceAdd, Nat.zero_add, List.range, List.range.loop]
  (refine oW fun dd K hK => ?_; go_simp; refine qT hK ?_; clear hK K)
  (refine oW fun dd K hK => ?_; go_simp; refine qT hK ?_; clear hK K)
  refine ogE ?_
  rw [qdoc22_eq]
  refine ogF ?_
  simp only [Bool.false_eq_true, if_false]
  rw [qdos9_eq]
  refine ogS ?_
  rw [qdor8_eq]
  refine ogR ?_
  simp only [qdoo8, Code.opsOf, qdor8, Code.piece, qdoBody, Try.f38, Option.getD_some, List.size_toArray, List.length_cons, List.length_nil, Nat.reduceAdd, Nat.zero_add, List.range, List.range.loop]
  (refine oW fun dd K hK => ?_; go_simp; refine qT hK ?_; clear hK K)
  (refine oW fun dd K hK => ?_; go_simp; refine qT hK ?_; clear hK K)
  refine ogE ?_
  rw [qdoc34_eq]
  refine ogF ?_
  simp only [Bool.false_eq_true, if_false]
  refine ogK ?_
  refine ogI ?_
  rw [qdos14_eq]
  refine ogS ?_
  rw [qdor13_eq]
  refine ogR ?_
  simp only [qdoo13, Code.opsOf, qdor13, Code.piece, qdoBody, Try.f38, Option.getD_some, List.size_toArray, List.length_cons, List.length_nil, Nat.reduceAdd, Nat.zero_add, List.range, List.range.loop]
  (refine oW fun dd K hK => ?_; go_simp; refine qT hK ?_; clear hK K)
  (refine oW fun dd K hK => ?_; go_simp; refine hK _ _ ⟨⟨⟨0, grew3 (fun k => not_held hU (show n ≤ w.heap.size + 1 by omega)) _ _ _⟩, fun e he => by (have hm := mem_listed he; clear he hK; simp [go_sem, storedEv] at hm; rcases hm with rfl | rfl | rfl <;> exact evT_write _ _ ((fun k => not_held hU (show n ≤ w.heap.size + 1 by omega)) _))⟩, ?_⟩; clear hK K; simp only [setCell_at']; refine Own.at ?_ dd)
  refine ogE ?_
  refine ogX ?_
  refine own_leave (fn := Try.f38) (v := .agg #[.bool false, .int .i64 0, .slice none 0 0]) rfl rfl Try.func38 (fun d => by simp [results, Try.f38, go_sem]) (fun d e he => by (simp [results, Try.f38, go_sem] at he; rcases he with rfl | rfl | rfl <;> exact evT_read _ _)) ?_
  exact h
set_option maxRecDepth 100000 in
set_option maxHeartbeats 2000000 in
theorem do_put0 {n : Nat} (hU : Under F n) (hn : n ≤ w.heap.size) {sa : Addr} {qb i : Nat} {a b c0 : Int}  {cs : List Frame} {main : Bool} {Stop : Goroutine → World → Prop}
    (h : ∀ A, Slots 43 A [(8, .pointer (some ⟨w.heap.size + 1, 0, none⟩))] → Own Try.prog main F Stop (G (Frame.enter Try.prog 25 #[.pointer (some ⟨qb, 0, none⟩), .iface 145 (.pointer (some sa)), .int .i64 a] .normal) (((Go.Conc.base 38).at ⟨A, []⟩ [.inRegion qdoo3 [4], .code qdos5, .inBlock 0, .code qdos14]) :: cs)) ((w.alloc (.cells #[.int .i64 1, .int .i64 a, .int .i64 b, .int .i64 c0] 44)).alloc (.cells #[.bool false, .int .i64 0, .slice none 0 0] 46))) :
    Own Try.prog main F Stop (G (Frame.enter Try.prog 38 #[.pointer (some ⟨qb, 0, none⟩), .iface 145 (.pointer (some sa)), .int .i64 i, .agg #[.int .i64 1, .int .i64 a, .int .i64 b, .int .i64 c0]] .normal) cs) w := by
  rw [enter_qdo]
  walk_nrm
  rw [qdos0_eq]
  refine ogS ?_
  rw [qdor0_eq]
  refine ogR ?_
  simp only [qdoo0, Code.opsOf, qdor0, Code.piece, qdoBody, Try.f38, Option.getD_some, List.size_toArray, List.length_cons, List.length_nil, Nat.reduceAdd, Nat.zero_add, List.range, List.range.loop]
  (refine oW fun dd K hK => ?_; go_simp; refine qA hK hU ?_; clear hK K)
  (refine oW fun dd K hK => ?_; go_simp; refine qA hK hU ?_; clear hK K)
  refine ogE ?_
  rw [qdos1_eq]
  refine ogS ?_
  rw [qdos2_eq]
  refine ogS ?_
  rw [qdor1_eq]
  refine ogR ?_
  simp only [qdoo1, Code.opsOf, qdor1, Code.piece, qdoBody, Try.f38, Option.getD_some, List.size_toArray, List.length_cons, List.length_nil, Nat.reduceAdd, Nat.zero_add, List.range, List.range.loop]
  (refine oW fun dd K hK => ?_; go_simp; refine qT hK ?_; clear hK K)
  (refine oW fun dd K hK => ?_; go_simp; refine qL hK ?_; clear hK K)
  refine ogE ?_
  rw [qdob0_eq]
  refine ogB ?_
  rw [qdos3_eq]
  refine ogS ?_
  rw [qdor2_eq]
  refine ogR ?_
  simp only [qdoo2, Code.opsOf, qdor2, Code.piece, qdoBody, Try.f38, Option.getD_some, List.size_toArray, List.length_cons, List.length_nil, Nat.reduceAdd, Nat.zero_add, List.range, List.range.loop]
  (refine oW fun dd K hK => ?_; go_simp; refine qT hK ?_; clear hK K)
  (refine oW fun dd K hK => ?_; go_simp; refine qT hK ?_; clear hK K)
  refine ogE ?_
  rw [qdoc14_eq]
  refine ogT ?_
  simp only [if_true]
  rw [qdos4_eq]
  refine ogS ?_
  rw [qdor3_eq]
  refine ogR ?_
  simp only [qdoo3, Code.opsOf, qdor3, Code.piece, qdoBody, Try.f38, Option.getD_some, List.size_toArray, List.length_cons, List.length_nil, Nat.reduceAdd, Nat.zero_add, List.range, List.range.loop]
  (refine oW fun dd K hK => ?_; go_simp; refine qT hK ?_; clear hK K)
  (refine oW fun dd K hK => ?_; go_simp; refine qT hK ?_; clear hK K)
  (refine oW fun dd K hK => ?_; go_simp; refine qT hK ?_; clear hK K)
  (refine oW fun dd K hK => ?_; go_simp; refine qL hK ?_; clear hK K)
  refine oc callable25 #[.pointer (some ⟨qb, 0, none⟩), .iface 145 (.pointer (some sa)), .int .i64 a] ?_
  refine h _ ?_
  exact ⟨rfl, rfl, trivial⟩
set_option maxRecDepth 100000 in
set_option maxHeartbeats 2000000 in
theorem do_take0 {n : Nat} (hU : Under F n) (hn : n ≤ w.heap.size) {sa : Addr} {qb i : Nat} {a b c0 : Int}  {cs : List Frame} {main : Bool} {Stop : Goroutine → World → Prop}
    (h : ∀ A, Slots 43 A [(8, .pointer (some ⟨w.heap.size + 1, 0, none⟩))] → Own Try.prog main F Stop (G (Frame.enter Try.prog 26 #[.pointer (some ⟨qb, 0, none⟩), .iface 145 (.pointer (some sa))] .normal) (((Go.Conc.base 38).at ⟨A, []⟩ [.inRegion qdoo6 [2, 3, 4, 5, 6, 7], .code qdos8, .inBlock 0, .code qdos14]) :: cs)) ((w.alloc (.cells #[.int .i64 2, .int .i64 a, .int .i64 b, .int .i64 c0] 44)).alloc (.cells #[.bool false, .int .i64 0, .slice none 0 0] 46))) :
    Own Try.prog main F Stop (G (Frame.enter Try.prog 38 #[.pointer (some ⟨qb, 0, none⟩), .iface 145 (.pointer (some sa)), .int .i64 i, .agg #[.int .i64 2, .int .i64 a, .int .i64 b, .int .i64 c0]] .normal) cs) w := by
  rw [enter_qdo]
  walk_nrm
  rw [qdos0_eq]
  refine ogS ?_
  rw [qdor0_eq]
  refine ogR ?_
  simp only [qdoo0, Code.opsOf, qdor0, Code.piece, qdoBody, Try.f38, Option.getD_some, List.size_toArray, List.length_cons, List.length_nil, Nat.reduceAdd, Nat.zero_add, List.range, List.range.loop]
  (refine oW fun dd K hK => ?_; go_simp; refine qA hK hU ?_; clear hK K)
  (refine oW fun dd K hK => ?_; go_simp; refine qA hK hU ?_; clear hK K)
  refine ogE ?_
  rw [qdos1_eq]
  refine ogS ?_
  rw [qdos2_eq]
  refine ogS ?_
  rw [qdor1_eq]
  refine ogR ?_
  simp only [qdoo1, Code.opsOf, qdor1, Code.piece, qdoBody, Try.f38, Option.getD_some, List.size_toArray, List.length_cons, List.length_nil, Nat.reduceAdd, Nat.zero_add, List.range, List.range.loop]
  (refine oW fun dd K hK => ?_; go_simp; refine qT hK ?_; clear hK K)
  (refine oW fun dd K hK => ?_; go_simp; refine qL hK ?_; clear hK K)
  refine ogE ?_
  rw [qdob0_eq]
  refine ogB ?_
  rw [qdos3_eq]
  refine ogS ?_
  rw [qdor2_eq]
  refine ogR ?_
  simp only [qdoo2, Code.opsOf, qdor2, Code.piece, qdoBody, Try.f38, Option.getD_some, List.size_toArray, List.length_cons, List.length_nil, Nat.reduceAdd, Nat.zero_add, List.range, List.range.loop]
  (refine oW fun dd K hK => ?_; go_simp; refine qT hK ?_; clear hK K)
  (refine oW fun dd K hK => ?_; go_simp; refine qT hK ?_; clear hK K)
  refine ogE ?_
  rw [qdoc14_eq]
  refine ogF ?_
  simp only [Bool.false_eq_true, if_false]
  rw [qdos6_eq]
  refine ogS ?_
  rw [qdor5_eq]
  refine ogR ?_
  simp only [qdoo5, Code.opsOf, qdor5, Code.piece, qdoBody, Try.f38, Option.getD_some, List.size_toArray, List.length_cons, List.length_nil, Nat.reduceAdd, Nat.zero_add, List.range, List.range.loop]
  (refine oW fun dd K hK => ?_; go_simp; refine qT hK ?_; clear hK K)
  (refine oW fun dd K hK => ?_; go_simp; refine qT hK ?_; clear hK K)
  refine ogE ?_
  rw [qdoc22_eq]
  refine ogT ?_
  simp only [if_true]
  rw [qdos7_eq]
  refine ogS ?_
  rw [qdor6_eq]
  refine ogR ?_
  simp only [qdoo6, Code.opsOf, qdor6, Code.piece, qdoBody, Try.f38, Option.getD_some, List.size_toArray, List.length_cons, List.length_nil, Nat.reduceAdd, Nat.zero_add, List.range, List.range.loop]
  (refine oW fun dd K hK => ?_; go_simp; refine qT hK ?_; clear hK K)
  (refine oW fun dd K hK => ?_; go_simp; refine qT hK ?_; clear hK K)
  refine oc callable26 #[.pointer (some ⟨qb, 0, none⟩), .iface 145 (.pointer (some sa))] ?_
  refine h _ ?_
  exact ⟨rfl, rfl, trivial⟩
set_option maxRecDepth 100000 in
set_option maxHeartbeats 2000000 in
theorem do_put1 {ab : Nat} (ha : Ans w ab) (hnh : ∀ k, ¬ held F ⟨ab, k, none⟩) {A : Array Value} (hA : Slots 43 A [(8, .pointer (some ⟨ab, 0, none⟩))]) {c : Frame} {cs : List Frame} {main : Bool} {Stop : Goroutine → World → Prop}
    (h : Own Try.prog main F Stop (G (c.finish (.agg #[.bool true, .int .i64 0, .slice none 0 0])) cs) (ansW w ab true 0)) :
    Own Try.prog main F Stop (G (((Go.Conc.base 38).at ⟨A, []⟩ [.inRegion qdoo3 [4], .code qdos5, .inBlock 0, .code qdos14]).finish (.tuple #[])) (c :: cs)) w := by
  obtain ⟨hsz, h8, _⟩ := hA
  obtain ⟨s, rfl⟩ := qdoT_of hsz
  change s 8 = _ at h8
  clear hsz
  simp only [qdoT, h8]
  clear h8
  obtain ⟨x0, x1, x2, c0, c1, c2⟩ := ha.c
  have z0 := ha.z 0
  have z1 := ha.z 1
  have z2 := ha.z 2
  rw [Frame.finish_at]
  simp only [qdoo3, Code.opsOf, qdor3, Code.piece, qdoBody, Try.f38, Option.getD_some, List.size_toArray, List.length_cons, List.length_nil, Nat.reduceAdd, Nat.zero_add, List.range, List.range.loop]
  walk_nrm
  refine ogE ?_
  rw [qdos5_eq]
  refine ogS ?_
  rw [qdor4_eq]
  refine ogR ?_
  simp only [qdoo4, Code.opsOf, qdor4, Code.piece, qdoBody, Try.f38, Option.getD_some, List.size_toArray, List.length_cons, List.length_nil, Nat.reduceAdd, Nat.zero_add, List.range, List.range.loop]
  (refine oW fun dd K hK => ?_; go_simp; refine qT hK ?_; clear hK K)
  (refine oW fun dd K hK => ?_; go_simp; refine hK _ _ ⟨⟨⟨0, grew3 hnh _ _ _⟩, fun e he => by (have hm := mem_listed he; clear he hK; simp [go_sem, storedEv, c0, c1, c2, z0, z1, z2] at hm; rcases hm with rfl | rfl | rfl <;> exact evT_write _ _ (hnh _))⟩, ?_⟩; clear hK K; simp only [setCell_at']; refine Own.at ?_ dd)
  refine ogE ?_
  refine ogX ?_
  refine own_leave (fn := Try.f38) (v := .agg #[.bool true, .int .i64 0, .slice none 0 0]) rfl rfl Try.func38 (fun d => by simp [results, Try.f38, go_sem, c0, c1, c2, z0, z1, z2]) (fun d e he => by (simp [results, Try.f38, go_sem, c0, c1, c2, z0, z1, z2] at he; rcases he with rfl | rfl | rfl <;> exact evT_read _ _)) ?_
  exact h
set_option maxRecDepth 100000 in
set_option maxHeartbeats 2000000 in
theorem do_take1 {ab : Nat} (ha : Ans w ab) (hnh : ∀ k, ¬ held F ⟨ab, k, none⟩) {v er : Int} {A : Array Value} (hA : Slots 43 A [(8, .pointer (some ⟨ab, 0, none⟩))]) {c : Frame} {cs : List Frame} {main : Bool} {Stop : Goroutine → World → Prop}
    (h : Own Try.prog main F Stop (G (c.finish (.agg #[.bool (er == 0), .int .i64 v, .slice none 0 0])) cs) (ansW w ab (er == 0) v)) :
    Own Try.prog main F Stop (G (((Go.Conc.base 38).at ⟨A, []⟩ [.inRegion qdoo6 [2, 3, 4, 5, 6, 7], .code qdos8, .inBlock 0, .code qdos14]).finish (.tuple #[.int .i64 v, .int .i64 er])) (c :: cs)) w := by
  obtain ⟨hsz, h8, _⟩ := hA
  obtain ⟨s, rfl⟩ := qdoT_of hsz
  change s 8 = _ at h8
  clear hsz
  simp only [qdoT, h8]
  clear h8
  obtain ⟨x0, x1, x2, c0, c1, c2⟩ := ha.c
  have z0 := ha.z 0
  have z1 := ha.z 1
  have z2 := ha.z 2
  rw [Frame.finish_at]
  simp only [qdoo6, Code.opsOf, qdor6, Code.piece, qdoBody, Try.f38, Option.getD_some, List.size_toArray, List.length_cons, List.length_nil, Nat.reduceAdd, Nat.zero_add, List.range, List.range.loop]
  walk_nrm
  (refine oW fun dd K hK => ?_; go_simp; refine qT hK ?_; clear hK K)
  (refine oW fun dd K hK => ?_; go_simp; refine qT hK ?_; clear hK K)
  (refine oW fun dd K hK => ?_; go_simp; refine qT hK ?_; clear hK K)
  (refine oW fun dd K hK => ?_; go_simp; refine qT hK ?_; clear hK K)
  (refine oW fun dd K hK => ?_; go_simp; refine qT hK ?_; clear hK K)
  refine ogE ?_
  rw [qdos8_eq]
  refine ogS ?_
  rw [qdor7_eq]
  refine ogR ?_
  simp only [qdoo7, Code.opsOf, qdor7, Code.piece, qdoBody, Try.f38, Option.getD_some, List.size_toArray, List.length_cons, List.length_nil, Nat.reduceAdd, Nat.zero_add, List.range, List.range.loop]
  (refine oW fun dd K hK => ?_; go_simp; refine qT hK ?_; clear hK K)
  (refine oW fun dd K hK => ?_; go_simp; refine qT hK ?_; clear hK K)
  (refine oW fun dd K hK => ?_; go_simp; refine qT hK ?_; clear hK K)
  (refine oW fun dd K hK => ?_; go_simp; refine qT hK ?_; clear hK K)
  (refine oW fun dd K hK => ?_; go_simp; refine hK _ _ ⟨⟨⟨0, grew3 hnh _ _ _⟩, fun e he => by (have hm := mem_listed he; clear he hK; simp [go_sem, storedEv, c0, c1, c2, z0, z1, z2] at hm; rcases hm with rfl | rfl | rfl <;> exact evT_write _ _ (hnh _))⟩, ?_⟩; clear hK K; simp only [setCell_at']; refine Own.at ?_ dd)
  refine ogE ?_
  refine ogX ?_
  refine own_leave (fn := Try.f38) (v := .agg #[.bool (er == 0), .int .i64 v, .slice none 0 0]) rfl rfl Try.func38 (fun d => by simp [results, Try.f38, go_sem, c0, c1, c2, z0, z1, z2]) (fun d e he => by (simp [results, Try.f38, go_sem, c0, c1, c2, z0, z1, z2] at he; rcases he with rfl | rfl | rfl <;> exact evT_read _ _)) ?_
  exact h
set_option maxRecDepth 100000 in
set_option maxHeartbeats 2000000 in
theorem do_emp0 {n : Nat} (hU : Under F n) (hn : n ≤ w.heap.size) {sa : Addr} {qb i : Nat} {a b c0 : Int}  {cs : List Frame} {main : Bool} {Stop : Goroutine → World → Prop}
    (h : ∀ A, Slots 43 A [(8, .pointer (some ⟨w.heap.size + 1, 0, none⟩)), (11, .pointer (some ⟨w.heap.size + 2, 0, none⟩))] → Own Try.prog main F Stop (G (Frame.enter Try.prog 27 #[.pointer (some ⟨qb, 0, none⟩), .iface 145 (.pointer (some sa))] .normal) (((Go.Conc.base 38).at ⟨A, []⟩ [.inRegion qdoo10 [2], .code qdoc39, .code qdos13, .inBlock 0, .code qdos14]) :: cs)) (((w.alloc (.cells #[.int .i64 3, .int .i64 a, .int .i64 b, .int .i64 c0] 44)).alloc (.cells #[.bool false, .int .i64 0, .slice none 0 0] 46)).alloc (.cells #[.bool true, .int .i64 0, .slice none 0 0] 46))) :
    Own Try.prog main F Stop (G (Frame.enter Try.prog 38 #[.pointer (some ⟨qb, 0, none⟩), .iface 145 (.pointer (some sa)), .int .i64 i, .agg #[.int .i64 3, .int .i64 a, .int .i64 b, .int .i64 c0]] .normal) cs) w := by
  rw [enter_qdo]
  walk_nrm
  rw [qdos0_eq]
  refine ogS ?_
  rw [qdor0_eq]
  refine ogR ?_
  simp only [qdoo0, Code.opsOf, qdor0, Code.piece, qdoBody, Try.f38, Option.getD_some, List.size_toArray, List.length_cons, List.length_nil, Nat.reduceAdd, Nat.zero_add, List.range, List.range.loop]
  (refine oW fun dd K hK => ?_; go_simp; refine qA hK hU ?_; clear hK K)
  (refine oW fun dd K hK => ?_; go_simp; refine qA hK hU ?_; clear hK K)
  refine ogE ?_
  rw [qdos1_eq]
  refine ogS ?_
  rw [qdos2_eq]
  refine ogS ?_
  rw [qdor1_eq]
  refine ogR ?_
  simp only [qdoo1, Code.opsOf, qdor1, Code.piece, qdoBody, Try.f38, Option.getD_some, List.size_toArray, List.length_cons, List.length_nil, Nat.reduceAdd, Nat.zero_add, List.range, List.range.loop]
  (refine oW fun dd K hK => ?_; go_simp; refine qT hK ?_; clear hK K)
  (refine oW fun dd K hK => ?_; go_simp; refine qL hK ?_; clear hK K)
  refine ogE ?_
  rw [qdob0_eq]
  refine ogB ?_
  rw [qdos3_eq]
  refine ogS ?_
  rw [qdor2_eq]
  refine ogR ?_
  simp only [qdoo2, Code.opsOf, qdor2, Code.piece, qdoBody, Try.f38, Option.getD_some, List.size_toArray, List.length_cons, List.length_nil, Nat.reduceAdd, Nat.zero_add, List.range, List.range.loop]
  (refine oW fun dd K hK => ?_; go_simp; refine qT hK ?_; clear hK K)
  (refine oW fun dd K hK => ?_; go_simp; refine qT hK ?_; clear hK K)
  refine ogE ?_
  rw [qdoc14_eq]
  refine ogF ?_
  simp only [Bool.false_eq_true, if_false]
  rw [qdos6_eq]
  refine ogS ?_
  rw [qdor5_eq]
  refine ogR ?_
  simp only [qdoo5, Code.opsOf, qdor5, Code.piece, qdoBody, Try.f38, Option.getD_some, List.size_toArray, List.length_cons, List.length_nil, Nat.reduceAdd, Nat.zero_add, List.range, List.range.loop]
  (refine oW fun dd K hK => ?_; go_simp; refine qT hK ?_; clear hK K)
  (refine oW fun dd K hK => ?_; go_simp; refine qT hK ?_; clear hK K)
  refine ogE ?_
  rw [qdoc22_eq]
  refine ogF ?_
  simp only [Bool.false_eq_true, if_false]
  rw [qdos9_eq]
  refine ogS ?_
  rw [qdor8_eq]
  refine ogR ?_
  simp only [qdoo8, Code.opsOf, qdor8, Code.piece, qdoBody, Try.f38, Option.getD_some, List.size_toArray, List.length_cons, List.length_nil, Nat.reduceAdd, Nat.zero_add, List.range, List.range.loop]
  (refine oW fun dd K hK => ?_; go_simp; refine qT hK ?_; clear hK K)
  (refine oW fun dd K hK => ?_; go_simp; refine qT hK ?_; clear hK K)
  refine ogE ?_
  rw [qdoc34_eq]
  refine ogT ?_
  simp only [if_true]
  rw [qdos10_eq]
  refine ogS ?_
  rw [qdor9_eq]
  refine ogR ?_
  simp only [qdoo9, Code.opsOf, qdor9, Code.piece, qdoBody, Try.f38, Option.getD_some, List.size_toArray, List.length_cons, List.length_nil, Nat.reduceAdd, Nat.zero_add, List.range, List.range.loop]
  (refine oW fun dd K hK => ?_; go_simp; refine qT hK ?_; clear hK K)
  (refine oW fun dd K hK => ?_; go_simp; refine qA hK hU ?_; clear hK K)
  (refine oW fun dd K hK => ?_; go_simp; refine hK _ _ ⟨⟨⟨0, grew3 (fun k => not_held hU (show n ≤ w.heap.size + 1 + 1 by omega)) _ _ _⟩, fun e he => by (have hm := mem_listed he; clear he hK; simp [go_sem, storedEv] at hm; rcases hm with rfl | rfl | rfl <;> exact evT_write _ _ ((fun k => not_held hU (show n ≤ w.heap.size + 1 + 1 by omega)) _))⟩, ?_⟩; clear hK K; simp only [setCell_at']; refine Own.at ?_ dd)
  have e1 := ansW_new ((w.alloc (.cells #[.int .i64 3, .int .i64 a, .int .i64 b, .int .i64 c0] 44)).alloc (.cells #[.bool false, .int .i64 0, .slice none 0 0] 46)) (.bool false) (.int .i64 0) (.slice none 0 0) true 0
  simp only [World.size_alloc] at e1
  rw [e1]
  clear e1
  refine ogE ?_
  rw [qdos11_eq]
  refine ogS ?_
  rw [qdos12_eq]
  refine ogS ?_
  rw [qdor10_eq]
  refine ogR ?_
  simp only [qdoo10, Code.opsOf, qdor10, Code.piece, qdoBody, Try.f38, Option.getD_some, List.size_toArray, List.length_cons, List.length_nil, Nat.reduceAdd, Nat.zero_add, List.range, List.range.loop]
  (refine oW fun dd K hK => ?_; go_simp; refine qT hK ?_; clear hK K)
  (refine oW fun dd K hK => ?_; go_simp; refine qT hK ?_; clear hK K)
  refine oc callable27 #[.pointer (some ⟨qb, 0, none⟩), .iface 145 (.pointer (some sa))] ?_
  refine h _ ?_
  exact ⟨rfl, rfl, rfl, trivial⟩
set_option maxRecDepth 100000 in
set_option maxHeartbeats 2000000 in
theorem do_emp1f {ab eb : Nat} (ha : Ans w ab) (hnh : ∀ k, ¬ held F ⟨ab, k, none⟩) (he : w.heap[eb]? = some (.cells #[.bool true, .int .i64 0, .slice none 0 0] 46 (0, 0))) (hne : eb ≠ ab) {A : Array Value} (hA : Slots 43 A [(8, .pointer (some ⟨ab, 0, none⟩)), (11, .pointer (some ⟨eb, 0, none⟩))]) {c : Frame} {cs : List Frame} {main : Bool} {Stop : Goroutine → World → Prop}
    (h : Own Try.prog main F Stop (G (c.finish (.agg #[.bool true, .int .i64 0, .slice none 0 0])) cs) (ansW w ab true 0)) :
    Own Try.prog main F Stop (G (((Go.Conc.base 38).at ⟨A, []⟩ [.inRegion qdoo10 [2], .code qdoc39, .code qdos13, .inBlock 0, .code qdos14]).finish (.bool false)) (c :: cs)) w := by
  obtain ⟨hsz, h8, h11, _⟩ := hA
  obtain ⟨s, rfl⟩ := qdoT_of hsz
  change s 8 = _ at h8
  change s 11 = _ at h11
  clear hsz
  simp only [qdoT, h8, h11]
  clear h8 h11
  obtain ⟨x0, x1, x2, c0, c1, c2⟩ := ha.c
  have z0 := ha.z 0
  have z1 := ha.z 1
  have z2 := ha.z 2
  have e0 : w.cell? ⟨eb, 0, none⟩ = some (.bool true) := by simp [World.cell?, he]
  have e1 : w.cell? ⟨eb, 1, none⟩ = some (.int .i64 0) := by simp [World.cell?, he]
  have e2 : w.cell? ⟨eb, 2, none⟩ = some (.slice none 0 0) := by simp [World.cell?, he]
  have ez : ∀ k, w.frozen? ⟨eb, k, none⟩ = false := fun k => by simp [World.frozen?, he]
  have ez0 := ez 0
  have ez1 := ez 1
  have ez2 := ez 2
  rw [Frame.finish_at]
  simp only [qdoo10, Code.opsOf, qdor10, Code.piece, qdoBody, Try.f38, Option.getD_some, List.size_toArray, List.length_cons, List.length_nil, Nat.reduceAdd, Nat.zero_add, List.range, List.range.loop]
  walk_nrm
  refine ogE ?_
  rw [qdoc39_eq]
  refine ogF ?_
  simp only [Bool.false_eq_true, if_false]
  refine ogK ?_
  rw [qdos13_eq]
  refine ogS ?_
  rw [qdor12_eq]
  refine ogR ?_
  simp only [qdoo12, Code.opsOf, qdor12, Code.piece, qdoBody, Try.f38, Option.getD_some, List.size_toArray, List.length_cons, List.length_nil, Nat.reduceAdd, Nat.zero_add, List.range, List.range.loop]
  (refine oW fun dd K hK => ?_; go_simp; refine hK _ _ ⟨⟨⟨0, Grew.refl _ _⟩, fun e he => by (have hm := mem_listed he; clear he hK; simp [go_sem, e0, e1, e2, ez0, ez1, ez2] at hm; rcases hm with rfl | rfl | rfl <;> exact evT_read _ _)⟩, Own.at ?_ dd⟩; clear hK K)
  (refine oW fun dd K hK => ?_; go_simp; refine hK _ _ ⟨⟨⟨0, grew3 hnh _ _ _⟩, fun e he => by (have hm := mem_listed he; clear he hK; simp [go_sem, storedEv, c0, c1, c2, z0, z1, z2] at hm; rcases hm with rfl | rfl | rfl <;> exact evT_write _ _ (hnh _))⟩, ?_⟩; clear hK K; simp only [setCell_at']; refine Own.at ?_ dd)
  refine ogE ?_
  refine ogX ?_
  refine own_leave (fn := Try.f38) (v := .agg #[.bool true, .int .i64 0, .slice none 0 0]) rfl rfl Try.func38 (fun d => by simp [results, Try.f38, go_sem, c0, c1, c2, z0, z1, z2]) (fun d e he => by (simp [results, Try.f38, go_sem, c0, c1, c2, z0, z1, z2] at he; rcases he with rfl | rfl | rfl <;> exact evT_read _ _)) ?_
  exact h
set_option maxRecDepth 100000 in
set_option maxHeartbeats 2000000 in
theorem do_emp1t {ab eb : Nat} (ha : Ans w ab) (hnh : ∀ k, ¬ held F ⟨ab, k, none⟩) (he : w.heap[eb]? = some (.cells #[.bool true, .int .i64 0, .slice none 0 0] 46 (0, 0))) (hne : eb ≠ ab) (hne1 : ∀ k, ¬ held F ⟨eb, k, none⟩) {A : Array Value} (hA : Slots 43 A [(8, .pointer (some ⟨ab, 0, none⟩)), (11, .pointer (some ⟨eb, 0, none⟩))]) {c : Frame} {cs : List Frame} {main : Bool} {Stop : Goroutine → World → Prop}
    (h : Own Try.prog main F Stop (G (c.finish (.agg #[.bool true, .int .i64 1, .slice none 0 0])) cs) (ansW (w.setCell ⟨eb, 1, none⟩ (.int .i64 1)) ab true 1)) :
    Own Try.prog main F Stop (G (((Go.Conc.base 38).at ⟨A, []⟩ [.inRegion qdoo10 [2], .code qdoc39, .code qdos13, .inBlock 0, .code qdos14]).finish (.bool true)) (c :: cs)) w := by
  obtain ⟨hsz, h8, h11, _⟩ := hA
  obtain ⟨s, rfl⟩ := qdoT_of hsz
  change s 8 = _ at h8
  change s 11 = _ at h11
  clear hsz
  simp only [qdoT, h8, h11]
  clear h8 h11
  have e1 : w.cell? ⟨eb, 1, none⟩ = some (.int .i64 0) := by simp [World.cell?, he]
  have ez1 : w.frozen? ⟨eb, 1, none⟩ = false := by simp [World.frozen?, he]
  have he' : (w.setCell ⟨eb, 1, none⟩ (.int .i64 1)).heap[eb]? = some (.cells #[.bool true, .int .i64 1, .slice none 0 0] 46 (0, 0)) := by simp [World.setCell, Array.getElem?_modify, he]
  have f0 : (w.setCell ⟨eb, 1, none⟩ (.int .i64 1)).cell? ⟨eb, 0, none⟩ = some (.bool true) := by simp [World.cell?, he']
  have f1 : (w.setCell ⟨eb, 1, none⟩ (.int .i64 1)).cell? ⟨eb, 1, none⟩ = some (.int .i64 1) := by simp [World.cell?, he']
  have f2 : (w.setCell ⟨eb, 1, none⟩ (.int .i64 1)).cell? ⟨eb, 2, none⟩ = some (.slice none 0 0) := by simp [World.cell?, he']
  have fz : ∀ k, (w.setCell ⟨eb, 1, none⟩ (.int .i64 1)).frozen? ⟨eb, k, none⟩ = false := fun k => by simp [World.frozen?, he']
  have fz0 := fz 0
  have fz1 := fz 1
  have fz2 := fz 2
  have ha' : Ans (w.setCell ⟨eb, 1, none⟩ (.int .i64 1)) ab := by
    obtain ⟨x, y, z, h⟩ := ha.o
    exact ⟨x, y, z, (heap_setCell_ne _ _ _ (Ne.symm hne)).trans h⟩
  obtain ⟨x0, x1, x2, c0, c1, c2⟩ := ha'.c
  have z0 := ha'.z 0
  have z1 := ha'.z 1
  have z2 := ha'.z 2
  have hnh1 := hne1 1
  rw [Frame.finish_at]
  simp only [qdoo10, Code.opsOf, qdor10, Code.piece, qdoBody, Try.f38, Option.getD_some, List.size_toArray, List.length_cons, List.length_nil, Nat.reduceAdd, Nat.zero_add, List.range, List.range.loop]
  walk_nrm
  refine ogE ?_
  rw [qdoc39_eq]
  refine ogT ?_
  simp only [if_true]
  rw [qdor11_eq]
  refine ogR ?_
  simp only [qdoo11, Code.opsOf, qdor11, Code.piece, qdoBody, Try.f38, Option.getD_some, List.size_toArray, List.length_cons, List.length_nil, Nat.reduceAdd, Nat.zero_add, List.range, List.range.loop]
  (refine oW fun dd K hK => ?_; go_simp; refine qT hK ?_; clear hK K)
  (refine oW fun dd K hK => ?_; go_simp; refine hK _ _ ⟨⟨⟨0, grew_setCell rfl hnh1 _⟩, fun e he => by (have hm := mem_listed he; clear he hK; simp [go_sem, storedEv, e1, ez1] at hm; subst hm; exact evT_write _ _ hnh1)⟩, ?_⟩; clear hK K; rw [setCell_at']; refine Own.at ?_ dd)
  generalize hw1 : w.setCell ⟨eb, 1, none⟩ (.int .i64 1) = w1 at *
  refine ogE ?_
  rw [qdos13_eq]
  refine ogS ?_
  rw [qdor12_eq]
  refine ogR ?_
  simp only [qdoo12, Code.opsOf, qdor12, Code.piece, qdoBody, Try.f38, Option.getD_some, List.size_toArray, List.length_cons, List.length_nil, Nat.reduceAdd, Nat.zero_add, List.range, List.range.loop]
  (refine oW fun dd K hK => ?_; go_simp; refine hK _ _ ⟨⟨⟨0, Grew.refl _ _⟩, fun e he => by (have hm := mem_listed he; clear he hK; simp [go_sem, f0, f1, f2, fz0, fz1, fz2] at hm; rcases hm with rfl | rfl | rfl <;> exact evT_read _ _)⟩, Own.at ?_ dd⟩; clear hK K)
  (refine oW fun dd K hK => ?_; go_simp; refine hK _ _ ⟨⟨⟨0, grew3 hnh _ _ _⟩, fun e he => by (have hm := mem_listed he; clear he hK; simp [go_sem, storedEv, c0, c1, c2, z0, z1, z2] at hm; rcases hm with rfl | rfl | rfl <;> exact evT_write _ _ (hnh _))⟩, ?_⟩; clear hK K; simp only [setCell_at']; refine Own.at ?_ dd)
  refine ogE ?_
  refine ogX ?_
  refine own_leave (fn := Try.f38) (v := .agg #[.bool true, .int .i64 1, .slice none 0 0]) rfl rfl Try.func38 (fun d => by simp [results, Try.f38, go_sem, c0, c1, c2, z0, z1, z2]) (fun d e he => by (simp [results, Try.f38, go_sem, c0, c1, c2, z0, z1, z2] at he; rcases he with rfl | rfl | rfl <;> exact evT_read _ _)) ?_
  exact h
end Go.Proofs.Ytcejbandeikdjaa
namespace Go.Proofs.Ytcejbandeikdjaa
open Go Go.Conc Go.RowKit Go.Proofs
variable {F : Fz} {w : World}
theorem grew4 {ab : Nat} (h : ∀ k, ¬ held F ⟨ab, k, none⟩) (x y z u : Value) : Grew F w ((((w.setCell ⟨ab, 0, none⟩ x).setCell ⟨ab, 1, none⟩ y).setCell ⟨ab, 2, none⟩ z).setCell ⟨ab, 3, none⟩ u) 0 :=
  (grew3 h x y z).trans (grew_setCell rfl (h 3) u)
theorem opW_new (X : World) (x y z u x' y' z' u' : Value) : ((((X.alloc (.cells #[x, y, z, u] 44)).setCell ⟨X.heap.size, 0, none⟩ x').setCell ⟨X.heap.size, 1, none⟩ y').setCell ⟨X.heap.size, 2, none⟩ z').setCell ⟨X.heap.size, 3, none⟩ u' = X.alloc (.cells #[x', y', z', u'] 44) := by go_simp
@[go_sem] theorem neq_nilfE (f : Fn) (x c : Array Value) (w : World) (es : Array Event) : (binOp .neq 88 (.func f x c) .nilFunc).events Try.prog w es = es := by kernel_rfl
noncomputable def dgBody : Code := Try.f68.body.getD .skip
noncomputable def dgs0 : Code := Code.piece [] dgBody
noncomputable def dgr0 : Code := Code.piece [true] dgBody
noncomputable def dgo0 : Array Oper := Code.opsOf dgr0
noncomputable def dgb0 : Code := Code.piece [false] dgBody
noncomputable def dgl1 : Code := Code.piece [false, true] dgBody
noncomputable def dgs2 : Code := Code.piece [false, true, true] dgBody
noncomputable def dgr1 : Code := Code.piece [false, true, true, true] dgBody
noncomputable def dgo1 : Array Oper := Code.opsOf dgr1
noncomputable def dgs3 : Code := Code.piece [false, true, true, false] dgBody
noncomputable def dgc12 : Code := Code.piece [false, true, true, false, true] dgBody
noncomputable def dgs4 : Code := Code.piece [false, true, true, false, false] dgBody
noncomputable def dgb1 : Code := Code.piece [false, true, true, false, false, true] dgBody
noncomputable def dgs5 : Code := Code.piece [false, true, true, false, false, true, true] dgBody
noncomputable def dgr2 : Code := Code.piece [false, true, true, false, false, true, true, true] dgBody
noncomputable def dgo2 : Array Oper := Code.opsOf dgr2
noncomputable def dgs6 : Code := Code.piece [false, true, true, false, false, true, true, false] dgBody
noncomputable def dgr3 : Code := Code.piece [false, true, true, false, false, true, true, false, true] dgBody
noncomputable def dgo3 : Array Oper := Code.opsOf dgr3
noncomputable def dgs7 : Code := Code.piece [false, true, true, false, false, true, true, false, false] dgBody
noncomputable def dgs8 : Code := Code.piece [false, true, true, false, false, true, true, false, false, true] dgBody
noncomputable def dgr4 : Code := Code.piece [false, true, true, false, false, true, true, false, false, true, true] dgBody
noncomputable def dgo4 : Array Oper := Code.opsOf dgr4
noncomputable def dgc16 : Code := Code.piece [false, true, true, false, false, true, true, false, false, true, false] dgBody
noncomputable def dgr5 : Code := Code.piece [false, true, true, false, false, true, true, false, false, true, false, true] dgBody
noncomputable def dgo5 : Array Oper := Code.opsOf dgr5
noncomputable def dgr6 : Code := Code.piece [false, true, true, false, false, true, true, false, false, false] dgBody
noncomputable def dgo6 : Array Oper := Code.opsOf dgr6
noncomputable def dgr7 : Code := Code.piece [false, true, true, false, false, false] dgBody
noncomputable def dgo7 : Array Oper := Code.opsOf dgr7
theorem dgs0_eq : dgs0 = .seq dgr0 dgb0 := by kernel_rfl
theorem dgr0_eq : dgr0 = .region 0 dgo0 false := by kernel_rfl
theorem dgb0_eq : dgb0 = .block 0 dgl1 := by kernel_rfl
theorem dgl1_eq : dgl1 = .loop dgs2 := by kernel_rfl
theorem dgs2_eq : dgs2 = .seq dgr1 dgs3 := by kernel_rfl
theorem dgr1_eq : dgr1 = .region 1 dgo1 false := by kernel_rfl
theorem dgs3_eq : dgs3 = .seq dgc12 dgs4 := by kernel_rfl
theorem dgc12_eq : dgc12 = .cond (.tmp 12) .skip (.exit 0) := by kernel_rfl
theorem dgs4_eq : dgs4 = .seq dgb1 dgr7 := by kernel_rfl
theorem dgb1_eq : dgb1 = .block 1 dgs5 := by kernel_rfl
theorem dgs5_eq : dgs5 = .seq dgr2 dgs6 := by kernel_rfl
theorem dgr2_eq : dgr2 = .region 2 dgo2 false := by kernel_rfl
theorem dgs6_eq : dgs6 = .seq dgr3 dgs7 := by kernel_rfl
theorem dgr3_eq : dgr3 = .region 3 dgo3 false := by kernel_rfl
theorem dgs7_eq : dgs7 = .seq dgs8 dgr6 := by kernel_rfl
theorem dgs8_eq : dgs8 = .seq dgr4 dgc16 := by kernel_rfl
theorem dgr4_eq : dgr4 = .region 4 dgo4 false := by kernel_rfl
theorem dgc16_eq : dgc16 = .cond (.tmp 16) dgr5 .skip := by kernel_rfl
theorem dgr5_eq : dgr5 = .region 5 dgo5 false := by kernel_rfl
theorem dgr6_eq : dgr6 = .region 6 dgo6 true := by kernel_rfl
theorem dgr7_eq : dgr7 = .region 7 dgo7 false := by kernel_rfl
theorem enter_dg (args : Array Value) : Frame.enter Try.prog 68 args .normal = (Go.Conc.base 68).at { tmps := args ++ Array.replicate (33 - args.size) undef, defers := [] } [.code dgs0] := enter_at args Try.func68 rfl
theorem callable68 : Callable 68 := callable Try.func68 rfl rfl
def dgT (s : Nat → Value) : Array Value := #[s 0, s 1, s 2, s 3, s 4, s 5, s 6, s 7, s 8, s 9, s 10, s 11, s 12, s 13, s 14, s 15, s 16, s 17, s 18, s 19, s 20, s 21, s 22, s 23, s 24, s 25, s 26, s 27, s 28, s 29, s 30, s 31, s 32]
theorem dgT_of {A : Array Value} (h : A.size = 33) : ∃ s, A = dgT s := by
  obtain ⟨s, hs, _⟩ := arr_lit A h
  exact ⟨s, hs⟩
set_option maxRecDepth 100000 in
set_option maxHeartbeats 2000000 in
theorem dg_0 {sv : Value} {ob db ib av : Nat} {oa : Option Addr} {ol oc : Nat} (c1 : w.cell? ⟨ob, 0, none⟩ = some (.slice oa ol oc)) (z1 : w.frozen? ⟨ob, 0, none⟩ = false) {cs : List Frame} {main : Bool} {Stop : Goroutine → World → Prop}
    (h : ∀ A, Slots 33 A [(0, sv), (1, .pointer (some ⟨ob, 0, none⟩)), (2, .pointer (some ⟨db, 0, none⟩)), (3, .pointer (some ⟨ib, 0, none⟩)), (4, .pointer (some ⟨av, 0, none⟩)), (9, .slice oa ol oc), (10, .int .i64 ol), (11, .int .i64 (0 : Nat))] → Own Try.prog main F Stop (G ((Go.Conc.base 68).at ⟨A, []⟩ [.code dgs2, .inLoop dgs2, .inBlock 0]) cs) w) :
    Own Try.prog main F Stop (G (Frame.enter Try.prog 68 #[sv, .pointer (some ⟨ob, 0, none⟩), .pointer (some ⟨db, 0, none⟩), .pointer (some ⟨ib, 0, none⟩), .pointer (some ⟨av, 0, none⟩)] .normal) cs) w := by
  rw [enter_dg]
  walk_nrm
  rw [dgs0_eq]
  refine ogS ?_
  rw [dgr0_eq]
  refine ogR ?_
  simp only [dgo0, Code.opsOf, dgr0, Code.piece, dgBody, Try.f68, Option.getD_some, List.size_toArray, List.length_cons, List.length_nil, Nat.reduceAdd, Nat.zero_add, List.range, List.range.loop]
  (refine oW fun dd K hK => ?_; go_simp; refine qL hK ?_; clear hK K)
  (refine oW fun dd K hK => ?_; go_simp; refine qT hK ?_; clear hK K)
  (refine oW fun dd K hK => ?_; go_simp; refine qT hK ?_; clear hK K)
  refine ogE ?_
  rw [dgb0_eq]
  refine ogB ?_
  rw [dgl1_eq]
  refine ogP ?_
  refine h _ ?_
  exact ⟨rfl, rfl, rfl, rfl, rfl, rfl, rfl, rfl, rfl, trivial⟩
set_option maxRecDepth 100000 in
set_option maxHeartbeats 2000000 in
theorem dg_3 {sv : Value} {ob db ib av : Nat} {oa : Option Addr} {ol oc : Nat} {A : Array Value} (hA : Slots 33 A [(0, sv), (1, .pointer (some ⟨ob, 0, none⟩)), (2, .pointer (some ⟨db, 0, none⟩)), (3, .pointer (some ⟨ib, 0, none⟩)), (4, .pointer (some ⟨av, 0, none⟩)), (9, .slice oa ol oc), (10, .int .i64 ol), (11, .int .i64 ol)]) {c : Frame} {cs : List Frame} {main : Bool} {Stop : Goroutine → World → Prop}
    (h : Own Try.prog main F Stop (G (c.finish (.tuple #[])) cs) w) :
    Own Try.prog main F Stop (G ((Go.Conc.base 68).at ⟨A, []⟩ [.code dgs2, .inLoop dgs2, .inBlock 0]) (c :: cs)) w := by
  obtain ⟨hsz, h0, h1, h2, h3, h4, h9, h10, h11, _⟩ := hA
  obtain ⟨s, rfl⟩ := dgT_of hsz
  change s 0 = _ at h0
  change s 1 = _ at h1
  change s 2 = _ at h2
  change s 3 = _ at h3
  change s 4 = _ at h4
  change s 9 = _ at h9
  change s 10 = _ at h10
  change s 11 = _ at h11
  clear hsz
  simp only [dgT, h0, h1, h2, h3, h4, h9, h10, h11]
  clear h0 h1 h2 h3 h4 h9 h10 h11
  have hlt : decide ((ol : Int) < (ol : Int)) = false := by simp
  rw [dgs2_eq]
  refine ogS ?_
  rw [dgr1_eq]
  refine ogR ?_
  simp only [dgo1, Code.opsOf, dgr1, Code.piece, dgBody, Try.f68, Option.getD_some, List.size_toArray, List.length_cons, List.length_nil, Nat.reduceAdd, Nat.zero_add, List.range, List.range.loop]
  (refine oW fun dd K hK => ?_; go_simp; refine qT hK ?_; clear hK K)
  refine ogE ?_
  rw [dgs3_eq]
  refine ogS ?_
  rw [dgc12_eq]
  refine ogF ?_
  simp only [Bool.false_eq_true, if_false]
  refine own_go rfl (fun d => stepG_exit rfl) ?_
  refine own_go rfl (fun d => stepG_end) ?_
  refine own_go rfl (fun d => stepG_leave (fn := Try.f68) (v := .tuple #[]) rfl rfl Try.func68 (by simp [results, Try.f68]) (by simp [results, Try.f68, go_sem])) ?_
  exact h
set_option maxRecDepth 100000 in
set_option maxHeartbeats 2000000 in
theorem dg_1 {n : Nat} (hU : Under F n) (hn : n ≤ w.heap.size) {sv : Value} {ob db ib av : Nat} {opb oo ol oc k df : Nat} {i : Nat} {kd a b c0 : Int} {first capt : Array Value} (hdf : Callable df) (hkl : k < ol) (hol : ol ≤ 65536) (cd : w.cell? ⟨db, 0, none⟩ = some (.func (.func df) first capt)) (zd : w.frozen? ⟨db, 0, none⟩ = false) (ci : w.cell? ⟨ib, 0, none⟩ = some (.int .i64 i)) (zi : w.frozen? ⟨ib, 0, none⟩ = false) (ld : db < w.heap.size) (li : ib < w.heap.size) (f0 : w.cell? ⟨opb, oo + k * 4, none⟩ = some (.int .i64 kd)) (f1 : w.cell? ⟨opb, oo + k * 4 + 1, none⟩ = some (.int .i64 a)) (f2 : w.cell? ⟨opb, oo + k * 4 + 2, none⟩ = some (.int .i64 b)) (f3 : w.cell? ⟨opb, oo + k * 4 + 3, none⟩ = some (.int .i64 c0)) (g0 : w.frozen? ⟨opb, oo + k * 4, none⟩ = false) (g1 : w.frozen? ⟨opb, oo + k * 4 + 1, none⟩ = false) (g2 : w.frozen? ⟨opb, oo + k * 4 + 2, none⟩ = false) (g3 : w.frozen? ⟨opb, oo + k * 4 + 3, none⟩ = false) {A : Array Value} (hA : Slots 33 A [(0, sv), (1, .pointer (some ⟨ob, 0, none⟩)), (2, .pointer (some ⟨db, 0, none⟩)), (3, .pointer (some ⟨ib, 0, none⟩)), (4, .pointer (some ⟨av, 0, none⟩)), (9, .slice (some ⟨opb, oo, none⟩) ol oc), (10, .int .i64 ol), (11, .int .i64 k)]) {cs : List Frame} {main : Bool} {Stop : Goroutine → World → Prop}
    (h : ∀ A, Slots 33 A [(0, sv), (1, .pointer (some ⟨ob, 0, none⟩)), (2, .pointer (some ⟨db, 0, none⟩)), (3, .pointer (some ⟨ib, 0, none⟩)), (4, .pointer (some ⟨av, 0, none⟩)), (7, .pointer (some ⟨w.heap.size, 0, none⟩)), (8, .pointer (some ⟨w.heap.size + 1, 0, none⟩)), (9, .slice (some ⟨opb, oo, none⟩) ol oc), (10, .int .i64 ol), (11, .int .i64 k)] → Own Try.prog main F Stop (G (Frame.enter Try.prog df (first ++ #[sv, .int .i64 i, .agg #[.int .i64 kd, .int .i64 a, .int .i64 b, .int .i64 c0]] ++ capt) .normal) (((Go.Conc.base 68).at ⟨A, []⟩ [.inRegion dgo5 [4, 5], .code dgr6, .inBlock 1, .code dgr7, .inLoop dgs2, .inBlock 0]) :: cs)) ((w.alloc (.cells #[.int .i64 kd, .int .i64 a, .int .i64 b, .int .i64 c0] 44)).alloc (.cells #[.bool false, .int .i64 0, .slice none 0 0] 46))) :
    Own Try.prog main F Stop (G ((Go.Conc.base 68).at ⟨A, []⟩ [.code dgs2, .inLoop dgs2, .inBlock 0]) cs) w := by
  obtain ⟨hsz, h0, h1, h2, h3, h4, h9, h10, h11, _⟩ := hA
  obtain ⟨s, rfl⟩ := dgT_of hsz
  change s 0 = _ at h0
  change s 1 = _ at h1
  change s 2 = _ at h2
  change s 3 = _ at h3
  change s 4 = _ at h4
  change s 9 = _ at h9
  change s 10 = _ at h10
  change s 11 = _ at h11
  clear hsz
  simp only [dgT, h0, h1, h2, h3, h4, h9, h10, h11]
  clear h0 h1 h2 h3 h4 h9 h10 h11
  have hlt : decide ((k : Int) < (ol : Int)) = true := by simp; omega
  have hlt2 : decide (k < ol) = true := by simp; omega
  rw [dgs2_eq]
  refine ogS ?_
  rw [dgr1_eq]
  refine ogR ?_
  simp only [dgo1, Code.opsOf, dgr1, Code.piece, dgBody, Try.f68, Option.getD_some, List.size_toArray, List.length_cons, List.length_nil, Nat.reduceAdd, Nat.zero_add, List.range, List.range.loop]
  (refine oW fun dd K hK => ?_; go_simp; refine qT hK ?_; clear hK K)
  refine ogE ?_
  rw [dgs3_eq]
  refine ogS ?_
  rw [dgc12_eq]
  refine ogT ?_
  simp only [if_true]
  refine ogK ?_
  rw [dgs4_eq]
  refine ogS ?_
  rw [dgb1_eq]
  refine ogB ?_
  rw [dgs5_eq]
  refine ogS ?_
  rw [dgr2_eq]
  refine ogR ?_
  simp only [dgo2, Code.opsOf, dgr2, Code.piece, dgBody, Try.f68, Option.getD_some, List.size_toArray, List.length_cons, List.length_nil, Nat.reduceAdd, Nat.zero_add, List.range, List.range.loop]
  (refine oW fun dd K hK => ?_; go_simp; refine qX hK ?_; clear hK K)
  (refine oW fun dd K hK => ?_; go_simp; refine hK _ _ ⟨⟨⟨0, Grew.refl _ _⟩, fun e he => by (have hm := mem_listed he; clear he hK; simp [go_sem, f0, f1, f2, f3, g0, g1, g2, g3] at hm; rcases hm with rfl | rfl | rfl | rfl <;> exact evT_read _ _)⟩, Own.at ?_ dd⟩; clear hK K)
  (refine oW fun dd K hK => ?_; go_simp; refine qA hK hU ?_; clear hK K)
  (refine oW fun dd K hK => ?_; go_simp; refine hK _ _ ⟨⟨⟨0, grew4 (fun k => not_held hU (show n ≤ w.heap.size by omega)) _ _ _ _⟩, fun e he => by (have hm := mem_listed he; clear he hK; simp [go_sem, storedEv] at hm; rcases hm with rfl | rfl | rfl | rfl <;> exact evT_write _ _ ((fun k => not_held hU (show n ≤ w.heap.size by omega)) _))⟩, ?_⟩; clear hK K; simp only [setCell_at']; refine Own.at ?_ dd)
  have e1 := opW_new w (.int .i64 0) (.int .i64 0) (.int .i64 0) (.int .i64 0) (.int .i64 kd) (.int .i64 a) (.int .i64 b) (.int .i64 c0)
  rw [e1]
  clear e1
  refine ogE ?_
  rw [dgs6_eq]
  refine ogS ?_
  rw [dgr3_eq]
  refine ogR ?_
  simp only [dgo3, Code.opsOf, dgr3, Code.piece, dgBody, Try.f68, Option.getD_some, List.size_toArray, List.length_cons, List.length_nil, Nat.reduceAdd, Nat.zero_add, List.range, List.range.loop]
  (refine oW fun dd K hK => ?_; go_simp; refine qA hK hU ?_; clear hK K)
  refine ogE ?_
  rw [dgs7_eq]
  refine ogS ?_
  rw [dgs8_eq]
  refine ogS ?_
  rw [dgr4_eq]
  refine ogR ?_
  simp only [dgo4, Code.opsOf, dgr4, Code.piece, dgBody, Try.f68, Option.getD_some, List.size_toArray, List.length_cons, List.length_nil, Nat.reduceAdd, Nat.zero_add, List.range, List.range.loop]
  (refine oW fun dd K hK => ?_; go_simp; refine qL hK ?_; clear hK K)
  (refine oW fun dd K hK => ?_; go_simp; refine qT hK ?_; clear hK K)
  refine ogE ?_
  rw [dgc16_eq]
  refine ogT ?_
  simp only [if_true]
  rw [dgr5_eq]
  refine ogR ?_
  simp only [dgo5, Code.opsOf, dgr5, Code.piece, dgBody, Try.f68, Option.getD_some, List.size_toArray, List.length_cons, List.length_nil, Nat.reduceAdd, Nat.zero_add, List.range, List.range.loop]
  (refine oW fun dd K hK => ?_; go_simp; refine qL hK ?_; clear hK K)
  (refine oW fun dd K hK => ?_; go_simp; refine qT hK ?_; clear hK K)
  (refine oW fun dd K hK => ?_; go_simp; refine qL hK ?_; clear hK K)
  (refine oW fun dd K hK => ?_; go_simp; refine hK _ _ ⟨⟨⟨0, Grew.refl _ _⟩, fun e he => by (have hm := mem_listed he; clear he hK; simp [go_sem] at hm; rcases hm with rfl | rfl | rfl | rfl <;> exact evT_read _ _)⟩, Own.at ?_ dd⟩; clear hK K)
  refine own_call (f := df) (args := first ++ #[sv, .int .i64 i, .agg #[.int .i64 kd, .int .i64 a, .int .i64 b, .int .i64 c0]] ++ capt) rfl rfl (by decide) (fun w => by simp [execOp, Act.eval, resolve, invoke, Deferred.ofValue, hdf.run]) (fun w => by simp [execOp, Act.eval, resolve, invoke, Deferred.ofValue, hdf.run, hdf.quiet]) ?_
  refine h _ ?_
  exact ⟨rfl, rfl, rfl, rfl, rfl, rfl, rfl, rfl, rfl, rfl, rfl, trivial⟩
end Go.Proofs.Ytcejbandeikdjaa
namespace Go.Proofs.Ytcejbandeikdjaa
open Go Go.Conc Go.RowKit Go.Proofs
variable {F : Fz} {w w' : World}
theorem info46 : ∃ i, Try.prog.info? 46 = some i ∧ i.zero = some (.agg #[.bool false, .int .i64 0, .slice none 0 0]) ∧ i.size = 3 ∧ i.bytes = 40 := by
  have h : (Try.prog.info? 46).map (fun i => (i.size, i.bytes)) = some (3, 40) := by kernel_rfl
  have h0 : (Try.prog.info? 46).bind (·.zero) = some (.agg #[.bool false, .int .i64 0, .slice none 0 0]) := by kernel_rfl
  obtain ⟨i, hi, h1⟩ := Option.map_eq_some_iff.1 h
  rw [hi] at h0
  simp only [Prod.mk.injEq] at h1
  exact ⟨i, hi, h0, h1.1, h1.2⟩
theorem cell_three_new (w : World) (x y z : Value) (t : TypeId) : ∀ j u, [x, y, z][j]? = some u → (w.alloc (.cells #[x, y, z] t)).cell? ((⟨w.heap.size, 0, none⟩ : Addr).add j) = some u := by
  intro j u h
  have hb := heap_alloc_new w (.cells #[x, y, z] t)
  have e : (⟨w.heap.size, 0, none⟩ : Addr).add j = ⟨w.heap.size, j, none⟩ := by cases j <;> simp [Addr.add]
  rw [e]
  unfold World.cell?
  simp only
  rw [hb]
  simpa using h
theorem mask_same {j r : Nat} (hg : Grew F w w' j) (h : (mask F w').heap[r]? = (mask F w).heap[r]?) (hr : r < w.heap.size) : w'.heap[r]? = w.heap[r]? := by
  rw [mask_get, mask_get] at h
  obtain ⟨o, ho⟩ : ∃ o, w.heap[r]? = some o := ⟨_, Array.getElem?_eq_getElem hr⟩
  rcases hg.objs r o ho with ⟨c, e, z, c', rfl, h2, _⟩ | h2
  · rw [ho, h2] at h
    simp only [Option.map_some, maskObj, Option.some.injEq, Obj.cells.injEq, and_true] at h
    rw [ho, h2, h]
  · rw [ho, h2]
theorem own_weaken {P : Program} {main : Bool} {F2 : Fz} {Stop : Goroutine → World → Prop} {g : Goroutine} (hF : ∀ a, held F a → held F2 a) (h : Own P main F2 Stop g w) : Own P main F Stop g w := by
  induction h with
  | stop h => exact .stop h
  | step' hr g' w' es hs hg _ ih =>
    exact .step' hr g' w' es hs (fun d => by
      obtain ⟨⟨j, h1⟩, h2⟩ := hg d
      exact ⟨⟨j, h1.tape, h1.drawn, h1.os, h1.output, h1.size, h1.objs, fun a ha => h1.keep a (hF a ha)⟩, fun e he => ⟨fun hw => by obtain ⟨a, e1, e2⟩ := (h2 e he).1 hw; exact ⟨a, e1, fun x => e2 (hF a x)⟩, (h2 e he).2⟩⟩) ih
structure SG (F : Fz) (av ib aa ab n i : Nat) (v x y z : Value) (u : World) : Prop where
  wf : Wf F u
  la0 : Lies u ⟨av, 0, none⟩ (.slice (some ⟨aa, 0, none⟩) n n)
  li0 : Lies u ⟨ib, 0, none⟩ (.int .i64 i)
  arr : ∃ c, u.heap[aa]? = some (.cells c 84 (0, 0)) ∧ c[i]? = some v
  an : u.heap[ab]? = some (.cells #[x, y, z] 46 (0, 0))
section
variable {av ib aa ab n i : Nat} {v x y z : Value} {u : World}
theorem SG.at (h : SG F av ib aa ab n i v x y z u) (d : Nat) : SG F av ib aa ab n i v x y z (u.at d) := ⟨⟨h.wf.own⟩, h.la0.at d, h.li0.at d, h.arr, h.an⟩
theorem SG.la (h : SG F av ib aa ab n i v x y z u) : Lies u ⟨aa, i, none⟩ v := by obtain ⟨c, h1, h2⟩ := h.arr; exact ⟨⟨c, _, h1, h2⟩, rfl⟩
theorem SG.alloc {nn : Nat} (hU : Under F nn) (ht : nn ≤ u.heap.size) (h : SG F av ib aa ab n i v x y z u) (o : Obj) : SG F av ib aa ab n i v x y z (u.alloc o) :=
  ⟨h.wf.of_grew (grew_alloc hU ht o), h.la0.alloc o, h.li0.alloc o, by obtain ⟨c, h1, h2⟩ := h.arr; exact ⟨c, (heap_alloc_lt _ _ (Array.getElem?_eq_some_iff.1 h1).1).trans h1, h2⟩, (heap_alloc_lt _ _ (Array.getElem?_eq_some_iff.1 h.an).1).trans h.an⟩
theorem SG.ca (h : SG F av ib aa ab n i v x y z u) : u.cell? ⟨av, 0, none⟩ = some (.slice (some ⟨aa, 0, none⟩) n n) := h.la0.c
theorem SG.za (h : SG F av ib aa ab n i v x y z u) : u.frozen? ⟨av, 0, none⟩ = false := h.la0.z
theorem SG.ci (h : SG F av ib aa ab n i v x y z u) : u.cell? ⟨ib, 0, none⟩ = some (.int .i64 i) := h.li0.c
theorem SG.zi (h : SG F av ib aa ab n i v x y z u) : u.frozen? ⟨ib, 0, none⟩ = false := h.li0.z
theorem SG.cl (h : SG F av ib aa ab n i v x y z u) : u.cell? ⟨aa, i, none⟩ = some v := h.la.c
theorem SG.zl (h : SG F av ib aa ab n i v x y z u) : u.frozen? ⟨aa, i, none⟩ = false := h.la.z
theorem SG.c0 (h : SG F av ib aa ab n i v x y z u) : u.cell? ⟨ab, 0, none⟩ = some x := by simp [World.cell?, h.an]
theorem SG.c1 (h : SG F av ib aa ab n i v x y z u) : u.cell? ⟨ab, 1, none⟩ = some y := by simp [World.cell?, h.an]
theorem SG.c2 (h : SG F av ib aa ab n i v x y z u) : u.cell? ⟨ab, 2, none⟩ = some z := by simp [World.cell?, h.an]
theorem SG.zz (h : SG F av ib aa ab n i v x y z u) (k : Nat) : u.frozen? ⟨ab, k, none⟩ = false := by simp [World.frozen?, h.an]
end
structure NotedA (F : Fz) (aa ab i m : Nat) (v x y z : Value) (xs : List Value) (w w' : World) (v' : Value) : Prop where
  wf : Wf F w'
  row : w'.ownsRow 0 46 3 v' (m + 1) (xs ++ [x, y, z])
  arr : ∀ c, w.heap[aa]? = some (.cells c 84 (0, 0)) → w'.heap[aa]? = some (.cells (c.setIfInBounds i v') 84 (0, 0))
  size : w.heap.size ≤ w'.heap.size
  own : ∀ b, Value.ownBlock v' = some b → some b = Value.ownBlock v ∨ w.heap.size ≤ b
  old : ∀ r, r < w.heap.size → r ≠ aa → some r ≠ Value.ownBlock v → w'.heap[r]? = w.heap[r]?
set_option maxRecDepth 100000 in
set_option maxHeartbeats 2000000 in
theorem dg_2a {sv : Value} {ansb : Bool} {ansn : Int} {la : Option Addr} {ll lc : Nat} {ob db ib av ab k : Nat} {oa : Option Addr} {ol oc : Nat} (ha : Ans w ab) (hnh : ∀ k, ¬ held F ⟨ab, k, none⟩) {A : Array Value} (hA : Slots 33 A [(0, sv), (1, .pointer (some ⟨ob, 0, none⟩)), (2, .pointer (some ⟨db, 0, none⟩)), (3, .pointer (some ⟨ib, 0, none⟩)), (4, .pointer (some ⟨av, 0, none⟩)), (8, .pointer (some ⟨ab, 0, none⟩)), (9, .slice oa ol oc), (10, .int .i64 ol), (11, .int .i64 k)]) {cs : List Frame} {main : Bool} {Stop : Goroutine → World → Prop}
    (h : ∀ A, Slots 33 A [(0, sv), (1, .pointer (some ⟨ob, 0, none⟩)), (2, .pointer (some ⟨db, 0, none⟩)), (3, .pointer (some ⟨ib, 0, none⟩)), (4, .pointer (some ⟨av, 0, none⟩)), (8, .pointer (some ⟨ab, 0, none⟩)), (9, .slice oa ol oc), (10, .int .i64 ol), (11, .int .i64 k)] → Own Try.prog main F Stop (G ((Go.Conc.base 68).at ⟨A, []⟩ [.code dgr6, .inBlock 1, .code dgr7, .inLoop dgs2, .inBlock 0]) cs) (((w.setCell ⟨ab, 0, none⟩ (.bool ansb)).setCell ⟨ab, 1, none⟩ (.int .i64 ansn)).setCell ⟨ab, 2, none⟩ (.slice la ll lc))) :
    Own Try.prog main F Stop (G (((Go.Conc.base 68).at ⟨A, []⟩ [.inRegion dgo5 [4, 5], .code dgr6, .inBlock 1, .code dgr7, .inLoop dgs2, .inBlock 0]).finish (.agg #[.bool ansb, .int .i64 ansn, .slice la ll lc])) cs) w := by
  obtain ⟨hsz, h0, h1, h2, h3, h4, h8, h9, h10, h11, _⟩ := hA
  obtain ⟨s, rfl⟩ := dgT_of hsz
  change s 0 = _ at h0
  change s 1 = _ at h1
  change s 2 = _ at h2
  change s 3 = _ at h3
  change s 4 = _ at h4
  change s 8 = _ at h8
  change s 9 = _ at h9
  change s 10 = _ at h10
  change s 11 = _ at h11
  clear hsz
  simp only [dgT, h0, h1, h2, h3, h4, h8, h9, h10, h11]
  clear h0 h1 h2 h3 h4 h8 h9 h10 h11
  obtain ⟨x0, x1, x2, c0, c1, c2⟩ := ha.c
  have z0 := ha.z 0
  have z1 := ha.z 1
  have z2 := ha.z 2
  rw [Frame.finish_at]
  simp only [dgo5, Code.opsOf, dgr5, Code.piece, dgBody, Try.f68, Option.getD_some, List.size_toArray, List.length_cons, List.length_nil, Nat.reduceAdd, Nat.zero_add, List.range, List.range.loop]
  walk_nrm
  (refine oW fun dd K hK => ?_; go_simp; refine hK _ _ ⟨⟨⟨0, grew3 hnh _ _ _⟩, fun e he => by (have hm := mem_listed he; clear he hK; simp [go_sem, storedEv, c0, c1, c2, z0, z1, z2] at hm; rcases hm with rfl | rfl | rfl <;> exact evT_write _ _ (hnh _))⟩, ?_⟩; clear hK K; simp only [setCell_at']; refine Own.at ?_ dd)
  refine ogE ?_
  refine h _ ?_
  exact ⟨rfl, rfl, rfl, rfl, rfl, rfl, rfl, rfl, rfl, rfl, trivial⟩
set_option maxRecDepth 100000 in
set_option maxHeartbeats 8000000 in
theorem dg_2b {nn : Nat} (hU : Under F nn) (htop : nn ≤ w.heap.size) {sv x y z v : Value} {xs : List Value} (hx : x.oneCell' = true ∧ y.oneCell' = true ∧ z.oneCell' = true) {ob db ib av aa ab n i k m : Nat} {oa : Option Addr} {ol oc : Nat} (hin : i < n) (hm : m < 65536)
    (hs : SG F av ib aa ab n i v x y z w) (hrow : w.ownsRow 0 46 3 v m xs) (hFa : F aa = none) (hFv : ∀ b, Value.ownBlock v = some b → F b = none) (hne : some aa ≠ Value.ownBlock v ∧ some ab ≠ Value.ownBlock v ∧ some av ≠ Value.ownBlock v ∧ some ib ≠ Value.ownBlock v) (hall : ∀ r c e z0, w.heap[r]? = some (.cells c e z0) → r ≠ aa → some r ≠ Value.ownBlock v → 0 < c.size → ∃ z, F r = some z ∧ z ≠ (0, 0)) {A : Array Value} (hA : Slots 33 A [(0, sv), (1, .pointer (some ⟨ob, 0, none⟩)), (2, .pointer (some ⟨db, 0, none⟩)), (3, .pointer (some ⟨ib, 0, none⟩)), (4, .pointer (some ⟨av, 0, none⟩)), (8, .pointer (some ⟨ab, 0, none⟩)), (9, .slice oa ol oc), (10, .int .i64 ol), (11, .int .i64 k)]) {cs : List Frame} {main : Bool} {Stop : Goroutine → World → Prop} {kk : List Item}
    (h : ∀ (w' : World) (v' : Value) (A : Array Value), NotedA F aa ab i m v x y z xs w w' v' → Slots 33 A [(0, sv), (1, .pointer (some ⟨ob, 0, none⟩)), (2, .pointer (some ⟨db, 0, none⟩)), (3, .pointer (some ⟨ib, 0, none⟩)), (4, .pointer (some ⟨av, 0, none⟩)), (8, .pointer (some ⟨ab, 0, none⟩)), (9, .slice oa ol oc), (10, .int .i64 ol), (11, .int .i64 k)] → Own Try.prog main F Stop (G ((Go.Conc.base 68).at ⟨A, []⟩ kk) cs) w') :
    Own Try.prog main F Stop (G ((Go.Conc.base 68).at ⟨A, []⟩ (.code dgr6 :: kk)) cs) w := by
  obtain ⟨hsz, h0, h1, h2, h3, h4, h8, h9, h10, h11, _⟩ := hA
  obtain ⟨s, rfl⟩ := dgT_of hsz
  change s 0 = _ at h0
  change s 1 = _ at h1
  change s 2 = _ at h2
  change s 3 = _ at h3
  change s 4 = _ at h4
  change s 8 = _ at h8
  change s 9 = _ at h9
  change s 10 = _ at h10
  change s 11 = _ at h11
  clear hsz
  simp only [dgT, h0, h1, h2, h3, h4, h8, h9, h10, h11]
  clear h0 h1 h2 h3 h4 h8 h9 h10 h11
  have hS : ∀ u d, SG F av ib aa ab n i v x y z u → SG F av ib aa ab n i v x y z (World.at u d) := fun u d h => h.at d
  rw [dgr6_eq]
  refine own_drawnM (SG F av ib aa ab n i v x y z) (last := 10) run_mixed (ll_of (by kernel_rfl)) (by decide) ?_
  simp only [dgo6, Code.opsOf, dgr6, Code.piece, dgBody, Try.f68, Option.getD_some, List.size_toArray, List.length_cons, List.length_nil, Nat.reduceAdd, Nat.zero_add, List.range, List.range.loop]
  have hZ : ∀ a u d, Own Try.prog main F Stop (G ((Go.Conc.base 68).at a (.inRegion dgo6 [10] :: kk)) cs) u → Own Try.prog main F Stop (G ((Go.Conc.base 68).at a (.inRegion dgo6 [10] :: kk)) cs) (World.at u d) := fun a u d h => h.at d
  simp only [dgo6, Code.opsOf, dgr6, Code.piece, dgBody, Try.f68, Option.getD_some, List.size_toArray, List.length_cons, List.length_nil, Nat.reduceAdd, Nat.zero_add, List.range, List.range.loop] at hZ
  refine anyM_take hS hZ (i := 0) (v := .slice (some ⟨aa, 0, none⟩) n n) hs rfl rfl (by kernel_rfl) (by kernel_rfl) (by kernel_rfl) (fun u hu => .inl ⟨rfl, fun d => ⟨by simp [go_sem, execOp, Act.eval, hu.ca, hu.za], fun e he => by have hm := mem_listed he; simp [go_sem, execOp, Act.eval, hu.ca, hu.za] at hm; subst hm; exact evT_read _ _⟩⟩) ?_
  walk_nrm
  refine anyM_take hS hZ (i := 1) (v := .int .i64 i) hs rfl rfl (by kernel_rfl) (by kernel_rfl) (by kernel_rfl) (fun u hu => .inl ⟨rfl, fun d => ⟨by simp [go_sem, execOp, Act.eval, hu.ci, hu.zi], fun e he => by have hm := mem_listed he; simp [go_sem, execOp, Act.eval, hu.ci, hu.zi] at hm; subst hm; exact evT_read _ _⟩⟩) ?_
  walk_nrm
  refine anyM_take hS hZ (i := 2) (v := .slice (some ⟨aa, 0, none⟩) n n) hs rfl rfl (by kernel_rfl) (by kernel_rfl) (by kernel_rfl) (fun u hu => .inl ⟨rfl, fun d => ⟨by simp [go_sem, execOp, Act.eval, hu.ca, hu.za], fun e he => by have hm := mem_listed he; simp [go_sem, execOp, Act.eval, hu.ca, hu.za] at hm; subst hm; exact evT_read _ _⟩⟩) ?_
  walk_nrm
  refine anyM_take hS hZ (i := 3) (v := .int .i64 i) hs rfl rfl (by kernel_rfl) (by kernel_rfl) (by kernel_rfl) (fun u hu => .inl ⟨rfl, fun d => ⟨by simp [go_sem, execOp, Act.eval, hu.ci, hu.zi], fun e he => by have hm := mem_listed he; simp [go_sem, execOp, Act.eval, hu.ci, hu.zi] at hm; subst hm; exact evT_read _ _⟩⟩) ?_
  walk_nrm
  refine anyM_take hS hZ (i := 4) (v := .pointer (some ⟨aa, i, none⟩)) hs rfl rfl (by kernel_rfl) (by kernel_rfl) (by kernel_rfl) (fun u hu => .inl ⟨rfl, fun d => ⟨by simp [go_sem, execOp, Act.eval, hin], fun e he => by have hm := mem_listed he; simp [go_sem, execOp, Act.eval, hin] at hm⟩⟩) ?_
  walk_nrm
  refine anyM_take hS hZ (i := 5) (v := v) hs rfl rfl (by kernel_rfl) (by kernel_rfl) (by kernel_rfl) (fun u hu => .inl ⟨rfl, fun d => ⟨by simp [go_sem, execOp, Act.eval, hu.cl, hu.zl], fun e he => by have hm := mem_listed he; simp [go_sem, execOp, Act.eval, hu.cl, hu.zl] at hm; subst hm; exact evT_read _ _⟩⟩) ?_
  walk_nrm
  refine anyM_take hS hZ (i := 6) (v := .agg #[x, y, z]) hs rfl rfl (by kernel_rfl) (by kernel_rfl) (by kernel_rfl) (fun u hu => .inl ⟨rfl, fun d => ⟨by simp [go_sem, execOp, Act.eval, hu.c0, hu.c1, hu.c2, hu.zz], fun e he => by have hm := mem_listed he; simp [go_sem, execOp, Act.eval, hu.c0, hu.c1, hu.c2, hu.zz] at hm; rcases hm with rfl | rfl | rfl <;> exact evT_read _ _⟩⟩) ?_
  walk_nrm
  refine anyM_all (r := [7]) (by kernel_rfl) (by kernel_rfl) (fun i hi hil => ?_)
  simp only [List.mem_cons, List.not_mem_nil, or_false] at hi
  subst hi
  refine opm_k rfl rfl (fun d K' hK' => ?_)
  go_simp
  refine hK' _ _ ⟨⟨⟨0, grew_alloc hU (show nn ≤ (w.at d).heap.size from htop) _⟩, fun e he => by (have hm := mem_listed he; simp [go_sem] at hm)⟩, (hs.at d).alloc hU (show nn ≤ (w.at d).heap.size from htop) _, ?_⟩
  clear hK' K'
  rw [alloc_at']
  refine anyM_at hS hZ _ _ _ _ ?_ d
  have hn4 := cell_three_new w x y z 46
  have hb4 := heap_alloc_new w (.cells #[x, y, z] 46)
  have hW4 : ∀ r, r < w.heap.size → (w.alloc (.cells #[x, y, z] 46)).heap[r]? = w.heap[r]? := fun r hr => heap_alloc_lt _ _ hr
  have hsz4 : (w.alloc (.cells #[x, y, z] 46)).heap.size = w.heap.size + 1 := by simp
  replace hs := hs.alloc hU htop (.cells #[x, y, z] 46)
  generalize w.alloc (.cells #[x, y, z] 46) = W4 at *
  refine anyM_all (r := [8]) (by kernel_rfl) (by kernel_rfl) (fun i hi hil => ?_)
  simp only [List.mem_cons, List.not_mem_nil, or_false] at hi
  subst hi
  obtain ⟨i0, hi0, hz0, hz1, hz2⟩ := info46
  have hFn : ∀ b, nn ≤ b → F b = none := fun b hb => by
    cases e : F b with
    | none => rfl
    | some z => exact absurd (hU b z e) (by omega)
  have hvlt : ∀ b, Value.ownBlock v = some b → b < w.heap.size := fun b hb => (hrow.lt b hb).2
  refine opm_lift (S' := fun _ => false) (px := false) (ready0.shut false) (by simp) rfl rfl rfl hs.wf (fun d => ?_)
  have hrowm : (mask F (W4.at d)).ownsRow 0 46 3 v m xs := ownsRow_same2 hrow fun b hb hbn => by
    rw [mask_at_none (hFv b hb)]
    exact hW4 b (hvlt b hb)
  obtain ⟨v', u, hr, hown, hgrow, _⟩ := run_append_own (P := Try.prog) (mask F (W4.at d)) 0 84 84 46 i0 _ 3 40 Try.underlying84 hi0 hz0 hz1 hz2 rfl (by decide) v m xs hrowm ⟨w.heap.size, 0, none⟩ 1 1 [x, y, z] rfl
    (fun j u hu => (mask_at_cell _).trans (hn4 j u hu)) (fun q hq => by simp at hq; rcases hq with rfl | rfl | rfl; exact hx.1; exact hx.2.1; exact hx.2.2) (by unfold maxLen; omega) (by omega) (Nat.zero_le _)
  refine ⟨v', u, run_append_op (.tmp 27) (.tmp 29) 84 rfl rfl rfl hr, fun w' hu hg hwf' => ?_⟩
  subst hu
  obtain ⟨jj, hgr⟩ := hg
  have hkeep : ∀ r, r < w.heap.size + 1 → some r ≠ Value.ownBlock v → w'.heap[r]? = W4.heap[r]? := fun r h2 h3 => by
    have := hgrow.block r (by rw [mask_size]; show r < W4.heap.size; omega) h3
    have hlt : r < (W4.at d).heap.size := show r < W4.heap.size by omega
    exact mask_same (w := W4.at d) hgr this hlt
  have hsize : w.heap.size + 1 ≤ w'.heap.size := by
    have := hgrow.size
    rw [mask_size, mask_size] at this
    have h2 : (W4.at d).heap.size = w.heap.size + 1 := hsz4
    omega
  have hlav := hs.la0.lt
  have hlib := hs.li0.lt
  simp only at hlav hlib
  obtain ⟨ca, har1, har2⟩ := hs.arr
  have hlaa := (Array.getElem?_eq_some_iff.1 har1).1
  have hlab := (Array.getElem?_eq_some_iff.1 hs.an).1
  have hs' : SG F av ib aa ab n i v x y z w' := ⟨hwf', hs.la0.same (hkeep av (by omega) hne.2.2.1), hs.li0.same (hkeep ib (by omega) hne.2.2.2), ⟨ca, (hkeep aa (by omega) hne.1).trans har1, har2⟩, (hkeep ab (by omega) hne.2.1).trans hs.an⟩
  obtain ⟨b1, cap1, cur1, rfl, hb1, hb2⟩ := slice_form2 hown
  have hcur : 0 < cur1.size := by
    rcases hown.2 with ⟨_, h0⟩ | ⟨g3, cap3, cur3, h0, _, h3, h4, _, h5, _⟩
    · omega
    · cases h0
      rw [hb2] at h3
      cases h3
      omega
  have hb3 : F b1 = none ∧ w'.heap[b1]? = some (.cells cur1 46 (0, 0)) ∧ (some b1 = Value.ownBlock v ∨ w.heap.size ≤ b1) := by
    by_cases hlt : b1 < w.heap.size
    · by_cases hv : some b1 = Value.ownBlock v
      · have hf := hFv b1 hv.symm
        exact ⟨hf, by rw [mask_at_none hf] at hb2; exact hb2, .inl hv⟩
      · exfalso
        have hk := (hkeep b1 (by omega) hv).trans (hW4 b1 hlt)
        rw [mask_get] at hb2
        obtain ⟨o, ho⟩ : ∃ o, w.heap[b1]? = some o := ⟨_, Array.getElem?_eq_getElem hlt⟩
        rw [hk, ho] at hb2
        cases o with
        | cells c e z0 =>
          simp only [Option.map_some, maskObj, Option.some.injEq, Obj.cells.injEq] at hb2
          obtain ⟨rfl, rfl, hz⟩ := hb2
          by_cases ha : b1 = aa
          · subst ha
            have h1 := (hW4 b1 hlt).symm.trans har1
            rw [ho] at h1
            simp only [Option.some.injEq, Obj.cells.injEq] at h1
            exact absurd h1.2.1 (by decide)
          · obtain ⟨z, hz1, hz2⟩ := hall b1 _ _ _ ho ha hv hcur
            rw [hz1] at hz
            exact hz2 hz
        | _ => simp [maskObj] at hb2
    · have hf := hFn b1 (by omega)
      exact ⟨hf, by rw [mask_at_none hf] at hb2; exact hb2, .inr (by omega)⟩
  obtain ⟨hfb, hb3, hb4⟩ := hb3
  have hrow' : w'.ownsRow 0 46 3 (.slice (some ⟨b1, 0, none⟩) (m + 1) cap1) (m + 1) (xs ++ [x, y, z]) := ownsRow_same2 hown fun b hb hbn => by
    simp only [Value.ownBlock, Option.some.injEq] at hb
    subst hb
    exact (mask_at_none hfb).symm
  have nb1 : b1 ≠ aa := by
    rintro rfl
    have h1 := (hkeep b1 (by omega) hne.1).trans har1
    rw [hb3] at h1
    simp only [Option.some.injEq, Obj.cells.injEq] at h1
    exact absurd h1.2.1 (by decide)
  refine ⟨hs', ?_⟩
  clear hs
  have hs := hs'
  walk_nrm
  refine anyM_take hS hZ (i := 9) (v := .pointer (some ⟨aa, i, none⟩)) hs rfl rfl (by kernel_rfl) (by kernel_rfl) (by kernel_rfl) (fun u hu => .inl ⟨rfl, fun d => ⟨by simp [go_sem, execOp, Act.eval, hin], fun e he => by have hm := mem_listed he; simp [go_sem, execOp, Act.eval, hin] at hm⟩⟩) ?_
  walk_nrm
  refine anyM_end (by kernel_rfl) ?_ _
  have cl := hs'.cl
  have zl := hs'.zl
  have hnh : ¬ held F ⟨aa, i, none⟩ := not_held' hFa
  clear hZ hS hr hown hgrow hrowm hall
  (refine oW fun dd K hK => ?_; go_simp; refine hK _ _ ⟨⟨⟨0, grew_setCell rfl hnh _⟩, fun e he => by (have hm := mem_listed he; clear he hK; simp [go_sem, storedEv, cl, zl] at hm; subst hm; exact evT_write _ _ hnh)⟩, ?_⟩; clear hK K; rw [setCell_at']; refine Own.at ?_ dd)
  refine ogE ?_
  refine h _ (.slice (some ⟨b1, 0, none⟩) (m + 1) cap1) _ ?_ ⟨rfl, rfl, rfl, rfl, rfl, rfl, rfl, rfl, rfl, rfl, trivial⟩
  refine ⟨hwf'.of_grew (grew_setCell rfl hnh _), ownsRow_same2 hrow' fun b hb _ => heap_setCell_ne _ _ _ (by simp only [Value.ownBlock, Option.some.injEq] at hb; subst hb; exact nb1), fun c hc => ?_, by simp; omega, fun b hb => by simp only [Value.ownBlock, Option.some.injEq] at hb; subst hb; exact hb4, fun r h1 h2 h3 => ?_⟩
  · have h1 := (hkeep aa (by omega) hne.1).trans (hW4 aa (Array.getElem?_eq_some_iff.1 hc).1)
    rw [hc] at h1
    simp [World.setCell, Array.getElem?_modify, h1]
  · rw [heap_setCell_ne _ _ _ h2, hkeep r (by omega) h3, hW4 r h1]
set_option maxRecDepth 100000 in
set_option maxHeartbeats 2000000 in
theorem dg_2c {sv : Value} {ob db ib av ab k : Nat} {oa : Option Addr} {ol oc : Nat} (hk : k < 10000000) {A : Array Value} (hA : Slots 33 A [(0, sv), (1, .pointer (some ⟨ob, 0, none⟩)), (2, .pointer (some ⟨db, 0, none⟩)), (3, .pointer (some ⟨ib, 0, none⟩)), (4, .pointer (some ⟨av, 0, none⟩)), (8, .pointer (some ⟨ab, 0, none⟩)), (9, .slice oa ol oc), (10, .int .i64 ol), (11, .int .i64 k)]) {cs : List Frame} {main : Bool} {Stop : Goroutine → World → Prop}
    (h : ∀ A, Slots 33 A [(0, sv), (1, .pointer (some ⟨ob, 0, none⟩)), (2, .pointer (some ⟨db, 0, none⟩)), (3, .pointer (some ⟨ib, 0, none⟩)), (4, .pointer (some ⟨av, 0, none⟩)), (9, .slice oa ol oc), (10, .int .i64 ol), (11, .int .i64 (k + 1 : Nat))] → Own Try.prog main F Stop (G ((Go.Conc.base 68).at ⟨A, []⟩ [.code dgs2, .inLoop dgs2, .inBlock 0]) cs) w) :
    Own Try.prog main F Stop (G ((Go.Conc.base 68).at ⟨A, []⟩ [.inBlock 1, .code dgr7, .inLoop dgs2, .inBlock 0]) cs) w := by
  obtain ⟨hsz, h0, h1, h2, h3, h4, h8, h9, h10, h11, _⟩ := hA
  obtain ⟨s, rfl⟩ := dgT_of hsz
  change s 0 = _ at h0
  change s 1 = _ at h1
  change s 2 = _ at h2
  change s 3 = _ at h3
  change s 4 = _ at h4
  change s 8 = _ at h8
  change s 9 = _ at h9
  change s 10 = _ at h10
  change s 11 = _ at h11
  clear hsz
  simp only [dgT, h0, h1, h2, h3, h4, h8, h9, h10, h11]
  clear h0 h1 h2 h3 h4 h8 h9 h10 h11
  have hk64 : IntKind.i64.wrap ((k : Int) + 1) = (k : Int) + 1 := IntWalk.i64_in _ (by omega)
  refine ogI ?_
  rw [dgr7_eq]
  refine ogR ?_
  simp only [dgo7, Code.opsOf, dgr7, Code.piece, dgBody, Try.f68, Option.getD_some, List.size_toArray, List.length_cons, List.length_nil, Nat.reduceAdd, Nat.zero_add, List.range, List.range.loop]
  (refine oW fun dd K hK => ?_; go_simp; refine qT hK ?_; clear hK K)
  (refine oW fun dd K hK => ?_; go_simp; refine qT hK ?_; clear hK K)
  refine ogE ?_
  refine ogL ?_
  refine h _ ?_
  exact ⟨rfl, rfl, rfl, rfl, rfl, rfl, rfl, rfl, rfl, trivial⟩
end Go.Proofs.Ytcejbandeikdjaa
namespace Go.Proofs.Ytcejbandeikdjaa
open Go Go.Conc Go.RowKit Go.Proofs
variable {F : Fz} {w w' : World}
open Classical in
noncomputable def FU (F : Fz) (mine : Nat → Prop) (w : World) : Fz := fun r => if mine r then none else match w.heap[r]? with
  | some (.cells c _ z) => some (0, max (max c.size z.2) ((F r).getD (0, 0)).2)
  | _ => none
section
variable {mine : Nat → Prop}
theorem fu_mine {r : Nat} (h : mine r) : FU F mine w r = none := if_pos h
theorem fu_cells {r : Nat} {c : Array Value} {e : TypeId} {z : Nat × Nat} (h : ¬ mine r) (ho : w.heap[r]? = some (.cells c e z)) : FU F mine w r = some (0, max (max c.size z.2) ((F r).getD (0, 0)).2) := by
  unfold FU
  rw [if_neg h, ho]
theorem fu_some {r : Nat} {z : Nat × Nat} (h : FU F mine w r = some z) : ¬ mine r ∧ ∃ c e z0, w.heap[r]? = some (.cells c e z0) ∧ z = (0, max (max c.size z0.2) ((F r).getD (0, 0)).2) := by
  unfold FU at h
  split at h
  · cases h
  · rename_i hm
    split at h
    · rename_i c e z0 ho
      cases h
      exact ⟨hm, c, e, z0, ho, rfl⟩
    · cases h
theorem fu_wf : Wf (FU F mine w) w := by
  constructor
  intro r z h
  obtain ⟨_, c, e, z0, ho, rfl⟩ := fu_some h
  exact ⟨c, e, z0, ho, fun k h1 h2 => by simp only; omega⟩
theorem fu_under : Under (FU F mine w) w.heap.size := by
  intro r z h
  obtain ⟨_, c, e, z0, ho, _⟩ := fu_some h
  exact (Array.getElem?_eq_some_iff.1 ho).1
theorem fu_held (hw : Wf F w) (hm : ∀ r, mine r → F r = none) {a : Addr} (h : held F a) : held (FU F mine w) a := by
  obtain ⟨z, hz, h1, h2⟩ := h
  obtain ⟨c, e, z0, ho, _⟩ := hw.own _ _ hz
  have hn : ¬ mine a.block := fun h => by rw [hm _ h] at hz; cases hz
  refine ⟨_, fu_cells hn ho, Nat.zero_le _, ?_⟩
  rw [hz]
  simp only [Option.getD_some]
  omega
theorem fu_same (hg : Gd (FU F mine w) w w') {r : Nat} (hm : ¬ mine r) (hr : r < w.heap.size) : w'.heap[r]? = w.heap[r]? := by
  obtain ⟨o, ho⟩ : ∃ o, w.heap[r]? = some o := ⟨_, Array.getElem?_eq_getElem hr⟩
  rcases hg.objs r _ ho with ⟨c1, e2, z1, c', h1, h2, h3⟩ | h2
  · subst h1
    have : c' = c1 := by
      apply Array.ext h3
      intro j hj1 hj2
      have hh : held (FU F mine w) ⟨r, j, none⟩ := ⟨_, fu_cells hm ho, Nat.zero_le _, by simp only; omega⟩
      have := hg.keep _ hh
      simp only [World.cell?, h2] at this
      have e3 : (w.at w'.drawn).heap[r]? = some (.cells c1 e2 z1) := ho
      rw [e3] at this
      simpa [hj1, hj2] using this
    subst this
    rw [h2, ho]
  · rw [h2, ho]
end
theorem Wf.of_gd (h : Wf F w) (hg : Gd F w w') : Wf F w' := by
  constructor
  intro r z hz
  obtain ⟨c, e, z0, h1, h2⟩ := h.own r z hz
  rcases hg.objs r _ h1 with ⟨c1, e1, z1, c', h3, h4, _⟩ | h3
  · cases h3; exact ⟨c', e, z0, h4, h2⟩
  · exact ⟨c, e, z0, h3, h2⟩
structure AnsV where
  ok : Bool
  n : Int
  la : Option Addr
  ll : Nat
  lc : Nat
def AnsV.v (a : AnsV) : Value := .agg #[.bool a.ok, .int .i64 a.n, .slice a.la a.ll a.lc]
def AnsV.cells (a : AnsV) : List Value := [.bool a.ok, .int .i64 a.n, .slice a.la a.ll a.lc]
structure Lay where
  S : Type
  C : Type
  A : Type
  SU : S → World → Prop
  SR : S → Nat → Prop
  CU : C → World → Prop
  CR : C → Nat → Prop
  AV : A → AnsV
  AU : A → World → Prop
  AR : A → Nat → Prop
  cf : Nat → C → List Frame
  df : FuncId
  first : Array Value
  capt : Array Value
  beg : S → Nat → Op4 → S × (C ⊕ A) → Prop
  stp : S → C → S × (C ⊕ A) → Prop
  J : Nat → S → C → Prop
def stepperV (st : Nat) : Value := .iface 145 (.pointer (some ⟨st, 0, none⟩))
def Lay.Out (L : Lay) (st : Nat) (s : L.S) (R0 : Nat → Prop) (Rel : L.S × (L.C ⊕ L.A) → Prop) (w : World) (cs : List Frame) (a : Goroutine) (w' : World) : Prop :=
  ∃ s' r, Rel (s', r) ∧ L.SU s' w' ∧ (∀ q, L.SR s' q → L.SR s q ∨ R0 q ∨ w.heap.size ≤ q) ∧
    match r with
    | .inl c => L.J st s' c ∧ L.CU c w' ∧ (∀ q, L.CR c q → R0 q ∨ w.heap.size ≤ q) ∧ (∀ q, L.CR c q → ¬ L.SR s' q) ∧ a = G (Frame.enter Try.prog 119 #[.pointer (some ⟨st, 0, none⟩)] .normal) (L.cf st c ++ cs)
    | .inr an => L.AU an w' ∧ (∀ q, L.AR an q → R0 q ∨ w.heap.size ≤ q) ∧ (∀ q, L.AR an q → ¬ L.SR s' q) ∧ a = back (L.AV an).v cs
structure Lay.Ok (L : Lay) : Prop where
  call : Callable L.df
  jb : ∀ st s s' c i o r, L.J st s c → L.beg s i o (s', r) → L.J st s' c
  js : ∀ st s s' c c1 r, L.J st s c → L.stp s c1 (s', r) → L.J st s' c
  plain : ∀ st c, L.cf st c ≠ [] ∧ ∀ u ∈ L.cf st c, Plain u
  sS : ∀ s w w', L.SU s w → w.heap.size ≤ w'.heap.size → (∀ r, L.SR s r → w'.heap[r]? = w.heap[r]?) → L.SU s w'
  sC : ∀ c w w', L.CU c w → w.heap.size ≤ w'.heap.size → (∀ r, L.CR c r → w'.heap[r]? = w.heap[r]?) → L.CU c w'
  sA : ∀ a w w', L.AU a w → w.heap.size ≤ w'.heap.size → (∀ r, L.AR a r → w'.heap[r]? = w.heap[r]?) → L.AU a w'
  lS : ∀ s w r, L.SU s w → L.SR s r → r < w.heap.size
  lC : ∀ c w r, L.CU c w → L.CR c r → r < w.heap.size
  lA : ∀ a w r, L.AU a w → L.AR a r → r < w.heap.size
  beg : ∀ s i o st (F : Fz) (w : World) (c : Frame) (cs : List Frame), L.SU s w → Wf F w → (∀ r, L.SR s r → F r = none) →
    Own Try.prog false F (L.Out st s (fun _ => False) (L.beg s i o) w (c :: cs)) (G (Frame.enter Try.prog L.df (L.first ++ #[stepperV st, .int .i64 i, o.v] ++ L.capt) .normal) (c :: cs)) w
  stp : ∀ s c st (F : Fz) (w : World) (b : Frame) (cs : List Frame), L.J st s c → L.SU s w → L.CU c w → (∀ q, L.CR c q → ¬ L.SR s q) → Wf F w → (∀ r, L.SR s r ∨ L.CR c r → F r = none) →
    Own Try.prog false F (L.Out st s (L.CR c) (L.stp s c) w (b :: cs)) (back (.tuple #[]) (L.cf st c ++ b :: cs)) w
structure Thr (L : Lay) where
  k : Nat
  call : Option (L.C × Array Value × Nat)
  ans : List L.A
  row : Value
structure OX (L : Lay) where
  s : L.S
  th : Nat → Thr L
structure Par where
  n : Nat
  aa : Nat
  av : Nat
  db : Nat
  ib : Nat → Nat
  ob : Nat → Nat
  ops : Nat → List Op4
  oa : Nat → Option Addr
  oc : Nat → Nat
  I : Nat → Option Obj
def Fixed (I : Nat → Option Obj) (w : World) : Prop := ∀ r o, I r = some o → w.heap[r]? = some o
structure Par.Ok (p : Par) (L : Lay) : Prop where
  cells : ∀ r o, p.I r = some o → ∃ c e z, o = .cells c e z
  len : ∀ i, i < p.n → (p.ops i).length ≤ 65536
  inI : p.I p.av ≠ none ∧ ∀ i, i < p.n → p.I (p.ib i) ≠ none
  av : ∀ w, Fixed p.I w → Lies w ⟨p.av, 0, none⟩ (.slice (some ⟨p.aa, 0, none⟩) p.n p.n)
  db : ∀ w, Fixed p.I w → Lies w ⟨p.db, 0, none⟩ (.func (.func L.df) L.first L.capt)
  ib : ∀ w, Fixed p.I w → ∀ i, i < p.n → Lies w ⟨p.ib i, 0, none⟩ (.int .i64 i)
  ob : ∀ w, Fixed p.I w → ∀ i, i < p.n → Lies w ⟨p.ob i, 0, none⟩ (.slice (p.oa i) (p.ops i).length (p.oc i))
  op : ∀ w, Fixed p.I w → ∀ i, i < p.n → ∀ k o, (p.ops i)[k]? = some o → ∃ opb oo, p.oa i = some ⟨opb, oo, none⟩ ∧
    w.cell? ⟨opb, oo + k * 4, none⟩ = some (.int .i64 o.kd) ∧ w.cell? ⟨opb, oo + k * 4 + 1, none⟩ = some (.int .i64 o.a) ∧ w.cell? ⟨opb, oo + k * 4 + 2, none⟩ = some (.int .i64 o.b) ∧ w.cell? ⟨opb, oo + k * 4 + 3, none⟩ = some (.int .i64 o.c) ∧
    w.frozen? ⟨opb, oo + k * 4, none⟩ = false ∧ w.frozen? ⟨opb, oo + k * 4 + 1, none⟩ = false ∧ w.frozen? ⟨opb, oo + k * 4 + 2, none⟩ = false ∧ w.frozen? ⟨opb, oo + k * 4 + 3, none⟩ = false
variable {L : Lay} {p : Par} {g : Gate}
def TR (t : Thr L) (r : Nat) : Prop := Value.ownBlock t.row = some r ∨ (∃ a ∈ t.ans, L.AR a r) ∨ ∃ c A ab, t.call = some (c, A, ab) ∧ (r = ab ∨ L.CR c r)
def dgS (p : Par) (st i k : Nat) : List (Nat × Value) := [(0, stepperV st), (1, .pointer (some ⟨p.ob i, 0, none⟩)), (2, .pointer (some ⟨p.db, 0, none⟩)), (3, .pointer (some ⟨p.ib i, 0, none⟩)), (4, .pointer (some ⟨p.av, 0, none⟩)), (9, .slice (p.oa i) (p.ops i).length (p.oc i)), (10, .int .i64 (p.ops i).length), (11, .int .i64 k)]
def dgS8 (p : Par) (st i k ab : Nat) : List (Nat × Value) := [(0, stepperV st), (1, .pointer (some ⟨p.ob i, 0, none⟩)), (2, .pointer (some ⟨p.db, 0, none⟩)), (3, .pointer (some ⟨p.ib i, 0, none⟩)), (4, .pointer (some ⟨p.av, 0, none⟩)), (8, .pointer (some ⟨ab, 0, none⟩)), (9, .slice (p.oa i) (p.ops i).length (p.oc i)), (10, .int .i64 (p.ops i).length), (11, .int .i64 k)]
structure ThrU (L : Lay) (p : Par) (st i : Nat) (t : Thr L) (w : World) : Prop where
  row : w.ownsRow 0 46 3 t.row t.ans.length ((t.ans.map fun a => (L.AV a).cells).flatten)
  au : ∀ a ∈ t.ans, L.AU a w
  al : t.ans.length = t.k
  kl : t.k ≤ (p.ops i).length
  ar : ∀ a ∈ t.ans, ∀ r, L.AR a r → some r ≠ Value.ownBlock t.row
  call : ∀ c A ab, t.call = some (c, A, ab) → Slots 33 A (dgS8 p st i t.k ab) ∧ Ans w ab ∧ L.CU c w ∧ ¬ L.CR c ab ∧ some ab ≠ Value.ownBlock t.row ∧ (∀ r, L.CR c r → some r ≠ Value.ownBlock t.row) ∧ (∀ a ∈ t.ans, ∀ r, L.AR a r → r ≠ ab ∧ ¬ L.CR c r) ∧ t.k < (p.ops i).length
structure OU (L : Lay) (p : Par) (g : Gate) (x : OX L) (w : World) : Prop where
  fix : Fixed p.I w
  su : L.SU x.s w
  arr : ∃ c, w.heap[p.aa]? = some (.cells c 84 (0, 0)) ∧ c.size = p.n ∧ ∀ i, i < p.n → c[i]? = some (x.th i).row
  thr : ∀ i, i < p.n → ThrU L p (g.st i) i (x.th i) w
  ts : ∀ i, i < p.n → ∀ r, TR (x.th i) r → ¬ L.SR x.s r ∧ r ≠ p.aa
  sa : ¬ L.SR x.s p.aa
  jj : ∀ i, i < p.n → ∀ c A ab, (x.th i).call = some (c, A, ab) → L.J (g.st i) x.s c
  tt : ∀ i j, i < p.n → j < p.n → i ≠ j → ∀ r, TR (x.th i) r → ¬ TR (x.th j) r
  inone : ∀ r, (L.SR x.s r ∨ r = p.aa ∨ ∃ i, i < p.n ∧ TR (x.th i) r) → p.I r = none
def OR (L : Lay) (p : Par) (x : OX L) (r : Nat) : Prop := L.SR x.s r ∨ r = p.aa ∨ ∃ i, i < p.n ∧ TR (x.th i) r
noncomputable def dgFr (A : Array Value) : Frame := (Go.Conc.base 68).at ⟨A, []⟩ [.inRegion dgo5 [4, 5], .code dgr6, .inBlock 1, .code dgr7, .inLoop dgs2, .inBlock 0]
inductive Adv (L : Lay) (p : Par) (i : Nat) : L.S × Thr L → L.S × Thr L → Prop
  | done {s : L.S} {t : Thr L} : t.call = none → t.k = (p.ops i).length → Adv L p i (s, t) (s, t)
  | live {s s' : L.S} {t : Thr L} {o : Op4} {c : L.C} {A : Array Value} {ab : Nat} : (p.ops i)[t.k]? = some o → L.beg s i o (s', .inl c) → Adv L p i (s, t) (s', { t with call := some (c, A, ab) })
  | imm {s s' : L.S} {t : Thr L} {o : Op4} {an : L.A} {row : Value} {y : L.S × Thr L} : (p.ops i)[t.k]? = some o → L.beg s i o (s', .inr an) → Adv L p i (s', ⟨t.k + 1, none, t.ans ++ [an], row⟩) y → Adv L p i (s, t) y
inductive Stp (L : Lay) (p : Par) (i : Nat) : L.S × Thr L → L.S × Thr L → Prop
  | live {s s' : L.S} {t : Thr L} {c c' : L.C} {A : Array Value} {ab : Nat} : t.call = some (c, A, ab) → L.stp s c (s', .inl c') → Stp L p i (s, t) (s', { t with call := some (c', A, ab) })
  | ans {s s' : L.S} {t : Thr L} {c : L.C} {A : Array Value} {ab : Nat} {an : L.A} {row : Value} {y : L.S × Thr L} : t.call = some (c, A, ab) → L.stp s c (s', .inr an) → Adv L p i (s', ⟨t.k + 1, none, t.ans ++ [an], row⟩) y → Stp L p i (s, t) y
noncomputable def opsUsers (L : Lay) (p : Par) (g : Gate) : Users where
  X := OX L
  U := OU L p g
  R := OR L p
  I := p.I
  fr := fun x i => match (x.th i).call with
    | some (c, A, _) => L.cf (g.st i) c ++ [dgFr A]
    | none => []
  liv := fun x i => (x.th i).call.isSome
  stp := fun x i y => Stp L p i (x.s, x.th i) (y.s, y.th i) ∧ ∀ j, j ≠ i → y.th j = x.th j
  bor := fun x i y => Adv L p i (x.s, x.th i) (y.s, y.th i) ∧ ∀ j, j ≠ i → y.th j = x.th j
  nw := fun x i => (x.th i).call = none ∧ (x.th i).k = 0
  fid := 68
  cap := fun i => #[.pointer (some ⟨p.ob i, 0, none⟩), .pointer (some ⟨p.db, 0, none⟩), .pointer (some ⟨p.ib i, 0, none⟩), .pointer (some ⟨p.av, 0, none⟩)]
end Go.Proofs.Ytcejbandeikdjaa
namespace Go.Proofs.Ytcejbandeikdjaa
open Go Go.Conc Go.RowKit Go.Proofs
variable {F : Fz} {w w' : World} {L : Lay} {p : Par} {g : Gate} {x y : OX L} {i : Nat}
def upd (x : OX L) (i : Nat) (s : L.S) (t : Thr L) : OX L := ⟨s, fun j => if j = i then t else x.th j⟩
theorem upd_self {s : L.S} {t : Thr L} : (upd x i s t).th i = t := if_pos rfl
theorem upd_ne {s : L.S} {t : Thr L} {j : Nat} (h : j ≠ i) : (upd x i s t).th j = x.th j := if_neg h
def NF (L : Lay) (p : Par) (x : OX L) (r : Nat) : Prop := ¬ OR L p x r ∧ p.I r = none
theorem fixed_lt (h : Fixed p.I w) {r : Nat} (hr : p.I r ≠ none) : r < w.heap.size := by
  cases e : p.I r with
  | none => exact absurd e hr
  | some o => exact (Array.getElem?_eq_some_iff.1 (h r o e)).1
theorem fixed_stable (h : Fixed p.I w) (hs : ∀ r, p.I r ≠ none → w'.heap[r]? = w.heap[r]?) : Fixed p.I w' := by
  intro r o e
  rw [hs r (by rw [e]; simp)]
  exact h r o e
theorem ans_same {ab : Nat} (h : Ans w ab) (hs : w'.heap[ab]? = w.heap[ab]?) : Ans w' ab := by
  obtain ⟨x, y, z, h⟩ := h.o
  exact ⟨⟨x, y, z, hs.trans h⟩⟩
theorem ThrU.low {st : Nat} {t : Thr L} (hL : L.Ok) (h : ThrU L p st i t w) {r : Nat} (hr : TR t r) : r < w.heap.size := by
  rcases hr with h1 | ⟨a, ha, h1⟩ | ⟨c, A, ab, h1, h2⟩
  · rcases h.row.2 with h2 | ⟨b, cap, cur, h2, h3, h4, _⟩
    · rw [h2.1] at h1; simp [Value.ownBlock] at h1
    · rw [h2] at h1
      simp only [Value.ownBlock, Option.some.injEq] at h1
      subst h1
      exact (Array.getElem?_eq_some_iff.1 h4).1
  · exact hL.lA a w r (h.au a ha) h1
  · obtain ⟨_, h3, h4, _⟩ := h.call c A ab h1
    rcases h2 with rfl | h2
    · obtain ⟨_, _, _, h5⟩ := h3.o
      exact (Array.getElem?_eq_some_iff.1 h5).1
    · exact hL.lC c w r h4 h2
theorem ThrU.stable {st : Nat} {t : Thr L} (hL : L.Ok) (h : ThrU L p st i t w) (hsz : w.heap.size ≤ w'.heap.size) (hs : ∀ r, TR t r → w'.heap[r]? = w.heap[r]?) : ThrU L p st i t w' := by
  refine ⟨ownsRow_same2 h.row fun b hb _ => hs b (.inl hb), fun a ha => hL.sA a w w' (h.au a ha) hsz fun r hr => hs r (.inr (.inl ⟨a, ha, hr⟩)), h.al, h.kl, h.ar, ?_⟩
  intro c A ab hc
  obtain ⟨h1, h2, h3, h4⟩ := h.call c A ab hc
  exact ⟨h1, ans_same h2 (hs _ (.inr (.inr ⟨c, A, ab, hc, .inl rfl⟩))), hL.sC c w w' h3 hsz fun r hr => hs r (.inr (.inr ⟨c, A, ab, hc, .inr hr⟩)), h4⟩
theorem OU.aalt (h : OU L p g x w) : p.aa < w.heap.size := by
  obtain ⟨c, h1, _⟩ := h.arr
  exact (Array.getElem?_eq_some_iff.1 h1).1
theorem OU.low (hL : L.Ok) (h : OU L p g x w) {r : Nat} (hr : OR L p x r) : r < w.heap.size := by
  rcases hr with h1 | rfl | ⟨i, hi, h1⟩
  · exact hL.lS _ _ _ h.su h1
  · exact h.aalt
  · exact (h.thr i hi).low hL h1
theorem OU.stable (hL : L.Ok) (h : OU L p g x w) (hsz : w.heap.size ≤ w'.heap.size) (hs : ∀ r, OR L p x r ∨ p.I r ≠ none → w'.heap[r]? = w.heap[r]?) : OU L p g x w' := by
  refine ⟨fixed_stable h.fix fun r hr => hs r (.inr hr), hL.sS _ w w' h.su hsz fun r hr => hs r (.inl (.inl hr)), ?_, fun i hi => (h.thr i hi).stable hL hsz fun r hr => hs r (.inl (.inr (.inr ⟨i, hi, hr⟩))), h.ts, h.sa, h.jj, h.tt, h.inone⟩
  obtain ⟨c, h1, h2⟩ := h.arr
  exact ⟨c, (hs _ (.inl (.inr (.inl rfl)))).trans h1, h2⟩
theorem OU.inone' (h : OU L p g x w) {r : Nat} (hr : OR L p x r ∨ w.heap.size ≤ r) : p.I r = none := by
  rcases hr with h1 | h1
  · exact h.inone r h1
  · cases e : p.I r with
    | none => rfl
    | some o => exact absurd (fixed_lt (r := r) h.fix (by rw [e]; simp)) (by omega)
def MineC (L : Lay) (x : OX L) (i : Nat) (r : Nat) : Prop := L.SR x.s r ∨ ∃ c A ab, (x.th i).call = some (c, A, ab) ∧ L.CR c r
theorem mine_or (hi : i < p.n) {r : Nat} (h : MineC L x i r) : OR L p x r := by
  rcases h with h | ⟨c, A, ab, h1, h2⟩
  · exact .inl h
  · exact .inr (.inr ⟨i, hi, .inr (.inr ⟨c, A, ab, h1, .inr h2⟩)⟩)
theorem OU.other (h : OU L p g x w) (hi : i < p.n) {j r : Nat} (hj : j < p.n) (hne : j ≠ i) (hr : TR (x.th j) r) : ¬ MineC L x i r := by
  rintro (h1 | ⟨c, A, ab, h1, h2⟩)
  · exact (h.ts j hj r hr).1 h1
  · exact h.tt j i hj hi hne r hr (.inr (.inr ⟨c, A, ab, h1, .inr h2⟩))
theorem OU.aaM (h : OU L p g x w) (hi : i < p.n) : ¬ MineC L x i p.aa := by
  rintro (h1 | ⟨c, A, ab, h1, h2⟩)
  · exact h.sa h1
  · exact (h.ts i hi _ (.inr (.inr ⟨c, A, ab, h1, .inr h2⟩))).2 rfl
theorem OU.rowM (h : OU L p g x w) (hi : i < p.n) {r : Nat} (hr : Value.ownBlock (x.th i).row = some r) : ¬ MineC L x i r := by
  rintro (h1 | ⟨c, A, ab, h1, h2⟩)
  · exact (h.ts i hi r (.inl hr)).1 h1
  · exact ((h.thr i hi).call c A ab h1).2.2.2.2.2.1 r h2 hr.symm
theorem OU.ansM (h : OU L p g x w) (hi : i < p.n) {a : L.A} {r : Nat} (ha : a ∈ (x.th i).ans) (hr : L.AR a r) : ¬ MineC L x i r := by
  rintro (h1 | ⟨c, A, ab, h1, h2⟩)
  · exact (h.ts i hi r (.inr (.inl ⟨a, ha, hr⟩))).1 h1
  · exact (((h.thr i hi).call c A ab h1).2.2.2.2.2.2.1 a ha r hr).2 h2
theorem OU.abM (h : OU L p g x w) (hi : i < p.n) {c : L.C} {A : Array Value} {ab : Nat} (hc : (x.th i).call = some (c, A, ab)) : ¬ MineC L x i ab := by
  rintro (h1 | ⟨c1, A1, ab1, h1, h2⟩)
  · exact (h.ts i hi ab (.inr (.inr ⟨c, A, ab, hc, .inl rfl⟩))).1 h1
  · rw [hc] at h1
    cases h1
    exact ((h.thr i hi).call c A ab hc).2.2.2.1 h2
theorem ou_next (hL : L.Ok) (h : OU L p g x w) (hi : i < p.n) (hsz : w.heap.size ≤ w'.heap.size) (hsame : ∀ r, r < w.heap.size → ¬ MineC L x i r → w'.heap[r]? = w.heap[r]?) {s' : L.S} (hs : L.SU s' w') (hsr : ∀ q, L.SR s' q → MineC L x i q ∨ w.heap.size ≤ q) {call' : Option (L.C × Array Value × Nat)}
    (hJ : ∀ st c, L.J st x.s c → L.J st s' c)
    (hcall : ∀ c A ab, call' = some (c, A, ab) → L.J (g.st i) s' c ∧ Slots 33 A (dgS8 p (g.st i) i (x.th i).k ab) ∧ L.CU c w' ∧ (∀ q, L.CR c q → MineC L x i q ∨ w.heap.size ≤ q) ∧ (∀ q, L.CR c q → ¬ L.SR s' q) ∧ (x.th i).k < (p.ops i).length ∧ ((∃ c0 A0, (x.th i).call = some (c0, A0, ab)) ∨ (Ans w ab ∧ NF L p x ab))) :
    OU L p g (upd x i s' { x.th i with call := call' }) w' ∧ ∀ r, OR L p (upd x i s' { x.th i with call := call' }) r → OR L p x r ∨ w.heap.size ≤ r ∨ ∃ c A, call' = some (c, A, r) := by
  have hab : ∀ c A ab, call' = some (c, A, ab) → ¬ MineC L x i ab ∧ Ans w ab ∧ ab < w.heap.size ∧ some ab ≠ Value.ownBlock (x.th i).row ∧ (∀ a ∈ (x.th i).ans, ∀ r, L.AR a r → r ≠ ab) ∧ ab ≠ p.aa ∧ (∀ j, j < p.n → j ≠ i → ¬ TR (x.th j) ab) ∧ p.I ab = none := by
    intro c A ab hc
    obtain ⟨_, _, _, _, _, _, h6⟩ := hcall c A ab hc
    rcases h6 with ⟨c0, A0, h6⟩ | ⟨h6, h7⟩
    · obtain ⟨_, k2, _, k4, k5, _, k7, _⟩ := (h.thr i hi).call c0 A0 ab h6
      have hT : TR (x.th i) ab := .inr (.inr ⟨c0, A0, ab, h6, .inl rfl⟩)
      exact ⟨h.abM hi h6, k2, (h.thr i hi).low hL hT, k5, fun a ha r hr => (k7 a ha r hr).1, (h.ts i hi ab hT).2, fun j hj hne hh => h.tt j i hj hi hne ab hh hT, h.inone ab (.inr (.inr ⟨i, hi, hT⟩))⟩
    · refine ⟨fun hm => h7.1 (mine_or hi hm), h6, ?_, ?_, ?_, ?_, ?_, h7.2⟩
      · obtain ⟨_, _, _, h8⟩ := h6.o
        exact (Array.getElem?_eq_some_iff.1 h8).1
      · intro e
        exact h7.1 (.inr (.inr ⟨i, hi, .inl e.symm⟩))
      · rintro a ha r hr rfl
        exact h7.1 (.inr (.inr ⟨i, hi, .inr (.inl ⟨a, ha, hr⟩)⟩))
      · rintro rfl
        exact h7.1 (.inr (.inl rfl))
      · intro j hj _ hh
        exact h7.1 (.inr (.inr ⟨j, hj, hh⟩))
  have hT : ∀ r, TR { x.th i with call := call' } r → (TR (x.th i) r ∧ ¬ MineC L x i r) ∨ (∃ c A, call' = some (c, A, r)) ∨ ∃ c A ab, call' = some (c, A, ab) ∧ L.CR c r := by
    rintro r (h1 | ⟨a, ha, h1⟩ | ⟨c, A, ab, h1, h2⟩)
    · exact .inl ⟨.inl h1, h.rowM hi h1⟩
    · exact .inl ⟨.inr (.inl ⟨a, ha, h1⟩), h.ansM hi ha h1⟩
    · rcases h2 with rfl | h2
      · exact .inr (.inl ⟨c, A, h1⟩)
      · exact .inr (.inr ⟨c, A, ab, h1, h2⟩)
  have hO : ∀ r, OR L p (upd x i s' { x.th i with call := call' }) r → OR L p x r ∨ w.heap.size ≤ r ∨ ∃ c A, call' = some (c, A, r) := by
    rintro r (h1 | rfl | ⟨j, hj, h1⟩)
    · rcases hsr r h1 with h2 | h2
      · exact .inl (mine_or hi h2)
      · exact .inr (.inl h2)
    · exact .inl (.inr (.inl rfl))
    · by_cases e : j = i
      · subst e
        rw [upd_self] at h1
        rcases hT r h1 with h2 | h2 | ⟨c, A, ab, h2, h3⟩
        · exact .inl (.inr (.inr ⟨j, hj, h2.1⟩))
        · exact .inr (.inr h2)
        · rcases (hcall c A ab h2).2.2.2.1 r h3 with h4 | h4
          · exact .inl (mine_or hj h4)
          · exact .inr (.inl h4)
      · rw [upd_ne e] at h1
        exact .inl (.inr (.inr ⟨j, hj, h1⟩))
  have hAA : ¬ L.SR s' p.aa := by
    intro h1
    rcases hsr _ h1 with h2 | h2
    · exact h.aaM hi h2
    · have := h.aalt; omega
  have hX : ∀ r, TR { x.th i with call := call' } r → ∀ j, j < p.n → j ≠ i → ¬ TR (x.th j) r := by
    intro r hr j hj hne hh
    rcases hT r hr with h2 | ⟨c, A, h2⟩ | ⟨c, A, ab, h2, h3⟩
    · exact h.tt j i hj hi hne r hh h2.1
    · exact (hab c A r h2).2.2.2.2.2.2.1 j hj hne hh
    · rcases (hcall c A ab h2).2.2.2.1 r h3 with h4 | h4
      · exact h.other hi hj hne hh h4
      · have := (h.thr j hj).low hL hh; omega
  have hJJ : ∀ j, j < p.n → ∀ c A ab, ((upd x i s' { x.th i with call := call' }).th j).call = some (c, A, ab) → L.J (g.st j) s' c := by
    intro j hj c A ab hc
    by_cases e : j = i
    · subst e
      rw [upd_self] at hc
      exact (hcall c A ab hc).1
    · rw [upd_ne e] at hc
      exact hJ _ c (h.jj j hj c A ab hc)
  refine ⟨⟨?_, hs, ?_, ?_, ?_, hAA, hJJ, ?_, ?_⟩, hO⟩
  · refine fixed_stable h.fix fun r hr => hsame r (fixed_lt h.fix hr) fun hm => hr (h.inone r (mine_or hi hm))
  · obtain ⟨c, h1, h2, h3⟩ := h.arr
    refine ⟨c, (hsame _ h.aalt (h.aaM hi)).trans h1, h2, fun j hj => ?_⟩
    by_cases e : j = i
    · subst e; rw [upd_self]; exact h3 j hj
    · rw [upd_ne e]; exact h3 j hj
  · intro j hj
    by_cases e : j = i
    · subst e
      rw [upd_self]
      have ht := h.thr j hj
      refine ⟨ownsRow_same2 ht.row fun b hb _ => hsame b (ht.low hL (.inl hb)) (h.rowM hj hb), fun a ha => hL.sA a w w' (ht.au a ha) hsz fun r hr => hsame r (ht.low hL (.inr (.inl ⟨a, ha, hr⟩))) (h.ansM hj ha hr), ht.al, ht.kl, ht.ar, ?_⟩
      intro c A ab hc
      obtain ⟨_, k1, k2, k3, k4, k5, k6⟩ := hcall c A ab hc
      obtain ⟨m1, m2, m3, m4, m5, m6, m7, m8⟩ := hab c A ab hc
      refine ⟨k1, ans_same m2 (hsame ab m3 m1), k2, ?_, m4, ?_, ?_, k5⟩
      · intro hh
        rcases k3 ab hh with h4 | h4
        · exact m1 h4
        · omega
      · intro r hr e
        rcases k3 r hr with h4 | h4
        · exact h.rowM hj e.symm h4
        · have := ht.low hL (.inl e.symm); omega
      · intro a ha r hr
        refine ⟨m5 a ha r hr, fun hh => ?_⟩
        rcases k3 r hh with h4 | h4
        · exact h.ansM hj ha hr h4
        · have := ht.low hL (.inr (.inl ⟨a, ha, hr⟩)); omega
    · rw [upd_ne e]
      exact (h.thr j hj).stable hL hsz fun r hr => hsame r ((h.thr j hj).low hL hr) (h.other hi hj e hr)
  · intro j hj r hr
    by_cases e : j = i
    · subst e
      rw [upd_self] at hr
      rcases hT r hr with ⟨h2, h3⟩ | ⟨c, A, h2⟩ | ⟨c, A, ab, h2, h3⟩
      · refine ⟨fun hh => ?_, (h.ts j hj r h2).2⟩
        rcases hsr r hh with h4 | h4
        · exact h3 h4
        · have := (h.thr j hj).low hL h2; omega
      · obtain ⟨m1, m2, m3, m4, m5, m6, m7, m8⟩ := hab c A r h2
        refine ⟨fun hh => ?_, m6⟩
        rcases hsr r hh with h4 | h4
        · exact m1 h4
        · omega
      · obtain ⟨_, k1, k2, k3, k4, k5, k6⟩ := hcall c A ab h2
        refine ⟨k4 r h3, ?_⟩
        rintro rfl
        rcases k3 _ h3 with h4 | h4
        · exact h.aaM hj h4
        · have := h.aalt; omega
    · rw [upd_ne e] at hr
      refine ⟨fun hh => ?_, (h.ts j hj r hr).2⟩
      rcases hsr r hh with h4 | h4
      · exact h.other hi hj e hr h4
      · have := (h.thr j hj).low hL hr; omega
  · intro j k hj hk hne r h1 h2
    by_cases e : j = i
    · subst e
      rw [upd_self] at h1
      rw [upd_ne (fun e => hne e.symm)] at h2
      exact hX r h1 k hk (fun e => hne e.symm) h2
    · rw [upd_ne e] at h1
      by_cases e2 : k = i
      · subst e2
        rw [upd_self] at h2
        exact hX r h2 j hj e h1
      · rw [upd_ne e2] at h2
        exact h.tt j k hj hk hne r h1 h2
  · intro r hr
    rcases hO r hr with h1 | h1 | ⟨c, A, h1⟩
    · exact h.inone r h1
    · exact h.inone' (.inr h1)
    · exact (hab c A r h1).2.2.2.2.2.2.2
end Go.Proofs.Ytcejbandeikdjaa
namespace Go.Proofs.Ytcejbandeikdjaa
open Go Go.Conc Go.RowKit Go.Proofs
variable {F : Fz} {w w' : World} {L : Lay} {p : Par} {g : Gate} {x y : OX L} {i : Nat}
theorem NotedA.at {aa ab i m : Nat} {v a b c : Value} {xs : List Value} {v' : Value} (h : NotedA F aa ab i m v a b c xs w w' v') (d : Nat) : NotedA F aa ab i m v a b c xs w (w'.at d) v' :=
  ⟨⟨h.wf.own⟩, h.row, h.arr, h.size, h.own, h.old⟩
theorem ou_noted (hL : L.Ok) (hP : p.Ok L) (hi : i < p.n) {an : L.A} {ab : Nat} (h : OU L p g x w) (hc : (x.th i).call = none) (hk : (x.th i).k < (p.ops i).length) (hau : L.AU an w) (hna : ∀ r, L.AR an r → NF L p x r ∧ r ≠ ab) {F2 : Fz} {a b c : Value} (hac : (L.AV an).cells = [a, b, c]) {v' : Value}
    (hn : NotedA F2 p.aa ab i (x.th i).k (x.th i).row a b c (((x.th i).ans.map fun a => (L.AV a).cells).flatten) w w' v') :
    OU L p g (upd x i x.s ⟨(x.th i).k + 1, none, (x.th i).ans ++ [an], v'⟩) w' ∧ (∀ r, OR L p (upd x i x.s ⟨(x.th i).k + 1, none, (x.th i).ans ++ [an], v'⟩) r → OR L p x r ∨ L.AR an r ∨ w.heap.size ≤ r) := by
  have ht := h.thr i hi
  have hsame : ∀ r, r < w.heap.size → r ≠ p.aa → some r ≠ Value.ownBlock (x.th i).row → w'.heap[r]? = w.heap[r]? := hn.old
  have hT : ∀ r, TR (⟨(x.th i).k + 1, none, (x.th i).ans ++ [an], v'⟩ : Thr L) r → TR (x.th i) r ∨ L.AR an r ∨ w.heap.size ≤ r := by
    rintro r (h1 | ⟨a, ha, h1⟩ | ⟨c, A, ab, h1, h2⟩)
    · rcases hn.own r h1 with h2 | h2
      · exact .inl (.inl h2.symm)
      · exact .inr (.inr h2)
    · rcases List.mem_append.1 ha with ha | ha
      · exact .inl (.inr (.inl ⟨a, ha, h1⟩))
      · rw [List.mem_singleton] at ha
        subst ha
        exact .inr (.inl h1)
    · cases h1
  have hO : ∀ r, OR L p (upd x i x.s ⟨(x.th i).k + 1, none, (x.th i).ans ++ [an], v'⟩) r → OR L p x r ∨ L.AR an r ∨ w.heap.size ≤ r := by
    rintro r (h1 | rfl | ⟨j, hj, h1⟩)
    · exact .inl (.inl h1)
    · exact .inl (.inr (.inl rfl))
    · by_cases e : j = i
      · subst e
        rw [upd_self] at h1
        rcases hT r h1 with h2 | h2 | h2
        · exact .inl (.inr (.inr ⟨j, hj, h2⟩))
        · exact .inr (.inl h2)
        · exact .inr (.inr h2)
      · rw [upd_ne e] at h1
        exact .inl (.inr (.inr ⟨j, hj, h1⟩))
  have hrow : ∀ r, some r = Value.ownBlock (x.th i).row → TR (x.th i) r := fun r hr => .inl hr.symm
  have hrowI : ∀ r, p.I r ≠ none → some r ≠ Value.ownBlock (x.th i).row := fun r hr e => hr (h.inone r (.inr (.inr ⟨i, hi, hrow r e⟩)))
  have haaI : ∀ r, p.I r ≠ none → r ≠ p.aa := fun r hr e => hr (h.inone r (.inr (.inl e)))
  have hX : ∀ r, TR (⟨(x.th i).k + 1, none, (x.th i).ans ++ [an], v'⟩ : Thr L) r → ∀ j, j < p.n → j ≠ i → ¬ TR (x.th j) r := by
    intro r hr j hj hne hh
    rcases hT r hr with h2 | h2 | h2
    · exact h.tt j i hj hi hne r hh h2
    · exact (hna r h2).1.1 (.inr (.inr ⟨j, hj, hh⟩))
    · have := (h.thr j hj).low hL hh; omega
  refine ⟨⟨fixed_stable h.fix fun r hr => hsame r (fixed_lt h.fix hr) (haaI r hr) (hrowI r hr), hL.sS _ w w' h.su hn.size fun r hr => hsame r (hL.lS _ _ _ h.su hr) (by rintro rfl; exact h.sa hr) fun e => (h.ts i hi r (hrow r e)).1 hr, ?_, ?_, ?_, h.sa, ?_, ?_, ?_⟩, hO⟩
  · obtain ⟨c, h1, h2, h3⟩ := h.arr
    refine ⟨_, hn.arr c h1, by simpa using h2, fun j hj => ?_⟩
    by_cases e : j = i
    · subst e
      rw [upd_self, Array.getElem?_setIfInBounds_self_of_lt (by omega)]
    · rw [upd_ne e, Array.getElem?_setIfInBounds_ne (fun e1 => e e1.symm)]
      exact h3 j hj
  · intro j hj
    by_cases e : j = i
    · subst e
      rw [upd_self]
      refine ⟨?_, ?_, ?_, ?_, ?_, fun c A ab h1 => by cases h1⟩
      · have := hn.row
        simp only [List.map_append, List.map_cons, List.map_nil, List.flatten_append, List.flatten_cons, List.flatten_nil, List.append_nil, List.length_append, List.length_cons, List.length_nil, hac, ht.al]
        exact this
      · intro a ha
        rcases List.mem_append.1 ha with ha | ha
        · exact hL.sA a w w' (ht.au a ha) hn.size fun r hr => hsame r (ht.low hL (.inr (.inl ⟨a, ha, hr⟩))) (h.ts j hj r (.inr (.inl ⟨a, ha, hr⟩))).2 (ht.ar a ha r hr)
        · rw [List.mem_singleton] at ha
          subst ha
          exact hL.sA a w w' hau hn.size fun r hr => hsame r (hL.lA a w r hau hr) (fun e => (hna r hr).1.1 (.inr (.inl e))) (fun e => (hna r hr).1.1 (.inr (.inr ⟨j, hj, hrow r e⟩)))
      · simp [ht.al]
      · exact hk
      · intro a ha r hr e
        rcases hn.own r e.symm with h2 | h2
        · rcases List.mem_append.1 ha with ha | ha
          · exact ht.ar a ha r hr h2
          · rw [List.mem_singleton] at ha
            subst ha
            exact (hna r hr).1.1 (.inr (.inr ⟨j, hj, hrow r h2⟩))
        · rcases List.mem_append.1 ha with ha | ha
          · have := ht.low hL (.inr (.inl ⟨a, ha, hr⟩)); omega
          · rw [List.mem_singleton] at ha
            subst ha
            have := hL.lA a w r hau hr; omega
    · rw [upd_ne e]
      exact (h.thr j hj).stable hL hn.size fun r hr => hsame r ((h.thr j hj).low hL hr) (h.ts j hj r hr).2 fun e1 => h.tt j i hj hi e r hr (hrow r e1)
  · intro j hj r hr
    by_cases e : j = i
    · subst e
      rw [upd_self] at hr
      rcases hT r hr with h2 | h2 | h2
      · exact h.ts j hj r h2
      · exact ⟨fun hh => (hna r h2).1.1 (.inl hh), fun e => (hna r h2).1.1 (.inr (.inl e))⟩
      · refine ⟨fun hh => ?_, ?_⟩
        · have := hL.lS _ _ _ h.su hh; omega
        · rintro rfl
          have := h.aalt; omega
    · rw [upd_ne e] at hr
      exact h.ts j hj r hr
  · intro j hj c A ab hc
    by_cases e : j = i
    · subst e
      rw [upd_self] at hc
      cases hc
    · rw [upd_ne e] at hc
      exact h.jj j hj c A ab hc
  · intro j k hj hk2 hne r h1 h2
    by_cases e : j = i
    · subst e
      rw [upd_self] at h1
      rw [upd_ne (fun e => hne e.symm)] at h2
      exact hX r h1 k hk2 (fun e => hne e.symm) h2
    · rw [upd_ne e] at h1
      by_cases e2 : k = i
      · subst e2
        rw [upd_self] at h2
        exact hX r h2 j hj e h1
      · rw [upd_ne e2] at h2
        exact h.tt j k hj hk2 hne r h1 h2
  · intro r hr
    rcases hO r hr with h1 | h1 | h1
    · exact h.inone r h1
    · exact (hna r h1).1.2
    · exact h.inone' (.inr h1)
theorem own_note (hL : L.Ok) (hP : p.Ok L) (hi : i < p.n) {an : L.A} {ab : Nat} {A0 : Array Value} (h : OU L p g x w) (hc : (x.th i).call = none) (hk : (x.th i).k < (p.ops i).length) (hau : L.AU an w) (hna : ∀ r, L.AR an r → NF L p x r ∧ r ≠ ab) (ha : Ans w ab) (hnb : NF L p x ab) (hwf : Wf F w) (hF : ∀ r, OR L p x r ∨ r = ab → F r = none) (hA : Slots 33 A0 (dgS8 p (g.st i) i (x.th i).k ab)) {cs : List Frame} {Stop : Goroutine → World → Prop}
    (K : ∀ w' A v', OU L p g (upd x i x.s ⟨(x.th i).k + 1, none, (x.th i).ans ++ [an], v'⟩) w' → (∀ r, OR L p (upd x i x.s ⟨(x.th i).k + 1, none, (x.th i).ans ++ [an], v'⟩) r → OR L p x r ∨ L.AR an r ∨ w.heap.size ≤ r) → w.heap.size ≤ w'.heap.size → Wf F w' → Slots 33 A (dgS p (g.st i) i ((x.th i).k + 1)) →
      Own Try.prog false F Stop (G ((Go.Conc.base 68).at ⟨A, []⟩ [.code dgs2, .inLoop dgs2, .inBlock 0]) cs) w') :
    Own Try.prog false F Stop (back (L.AV an).v (dgFr A0 :: cs)) w := by
  have hkl := hP.len i hi
  refine dg_2a (lc := (L.AV an).lc) ha (fun k hh => ?_) hA fun A1 hA1 => ?_
  · obtain ⟨z, hz, _⟩ := hh
    rw [hF ab (.inr rfl)] at hz
    cases hz
  have hsz : ((((w.setCell ⟨ab, 0, none⟩ (.bool (L.AV an).ok)).setCell ⟨ab, 1, none⟩ (.int .i64 (L.AV an).n)).setCell ⟨ab, 2, none⟩ (.slice (L.AV an).la (L.AV an).ll (L.AV an).lc))).heap.size = w.heap.size := by simp
  have hne : ∀ r, r ≠ ab → ((((w.setCell ⟨ab, 0, none⟩ (.bool (L.AV an).ok)).setCell ⟨ab, 1, none⟩ (.int .i64 (L.AV an).n)).setCell ⟨ab, 2, none⟩ (.slice (L.AV an).la (L.AV an).ll (L.AV an).lc))).heap[r]? = w.heap[r]? := by
    intro r hr
    rw [heap_setCell_ne _ _ _ hr, heap_setCell_ne _ _ _ hr, heap_setCell_ne _ _ _ hr]
  have hab : ((((w.setCell ⟨ab, 0, none⟩ (.bool (L.AV an).ok)).setCell ⟨ab, 1, none⟩ (.int .i64 (L.AV an).n)).setCell ⟨ab, 2, none⟩ (.slice (L.AV an).la (L.AV an).ll (L.AV an).lc))).heap[ab]? = some (.cells #[.bool (L.AV an).ok, .int .i64 (L.AV an).n, .slice (L.AV an).la (L.AV an).ll (L.AV an).lc] 46 (0, 0)) := by
    obtain ⟨a, b, c, h1⟩ := ha.o
    rw [heap_setCell_eq (heap_setCell_eq (heap_setCell_eq h1 _) _) _]
    rfl
  generalize (((w.setCell ⟨ab, 0, none⟩ (.bool (L.AV an).ok)).setCell ⟨ab, 1, none⟩ (.int .i64 (L.AV an).n)).setCell ⟨ab, 2, none⟩ (.slice (L.AV an).la (L.AV an).ll (L.AV an).lc)) = W at hsz hne hab ⊢
  have hU : OU L p g x W := h.stable hL (by omega) fun r hr => hne r (by
    rintro rfl
    rcases hr with hr | hr
    · exact hnb.1 hr
    · exact hr hnb.2)
  have hauW : L.AU an W := hL.sA an w W hau (by omega) fun r hr => hne r (hna r hr).2
  have hwfW : Wf F W := by
    constructor
    intro r z hz
    obtain ⟨c, e, z0, h1, h2⟩ := hwf.own r z hz
    refine ⟨c, e, z0, (hne r ?_).trans h1, h2⟩
    rintro rfl
    rw [hF r (.inr rfl)] at hz
    cases hz
  have ht := hU.thr i hi
  have hmF : ∀ r, (r = p.aa ∨ some r = Value.ownBlock (x.th i).row) → F r = none := by
    rintro r (rfl | hr)
    · exact hF _ (.inl (.inr (.inl rfl)))
    · exact hF _ (.inl (.inr (.inr ⟨i, hi, .inl hr.symm⟩)))
  obtain ⟨c0, harr, hcs, hci⟩ := hU.arr
  have hrI : ∀ r, p.I r ≠ none → some r ≠ Value.ownBlock (x.th i).row := fun r hr e => hr (h.inone r (.inr (.inr ⟨i, hi, .inl e.symm⟩)))
  have key := dg_2b (F := FU F (fun r => r = p.aa ∨ some r = Value.ownBlock (x.th i).row) W) (w := W) (nn := W.heap.size) (main := false) (cs := cs) (kk := [.inBlock 1, .code dgr7, .inLoop dgs2, .inBlock 0]) (Stop := fun a u => ∃ v' A, a = G ((Go.Conc.base 68).at ⟨A, []⟩ [.inBlock 1, .code dgr7, .inLoop dgs2, .inBlock 0]) cs ∧ NotedA (FU F (fun r => r = p.aa ∨ some r = Value.ownBlock (x.th i).row) W) p.aa ab i (x.th i).k (x.th i).row (.bool (L.AV an).ok) (.int .i64 (L.AV an).n) (.slice (L.AV an).la (L.AV an).ll (L.AV an).lc) (((x.th i).ans.map fun a => (L.AV a).cells).flatten) W u v' ∧ Slots 33 A (dgS8 p (g.st i) i (x.th i).k ab))
    fu_under (Nat.le_refl _) ⟨rfl, rfl, rfl⟩ hi (by omega) ⟨fu_wf, hP.av W hU.fix, hP.ib W hU.fix i hi, ⟨c0, harr, hci i hi⟩, hab⟩ (by rw [← ht.al]; exact ht.row) (fu_mine (.inl rfl)) (fun b hb => fu_mine (.inr hb.symm)) ⟨fun e => (h.ts i hi _ (.inl e.symm)).2 rfl, fun e => hnb.1 (.inr (.inr ⟨i, hi, .inl e.symm⟩)), hrI _ hP.inI.1, hrI _ (hP.inI.2 i hi)⟩
    (fun r c e z0 h1 h2 h3 h4 => ⟨_, fu_cells (fun hm => hm.elim h2 h3) h1, fun e => by simp only [Prod.mk.injEq] at e; omega⟩) hA1 fun w2 v' A2 hn hA2 => .stop fun d => ⟨v', A2, rfl, hn.at d, hA2⟩
  refine (own_weaken (fun a ha => fu_held hwfW hmF ha) key).bind fun a u hs => ?_
  obtain ⟨v', A2, rfl, hn, hA2⟩ := hs u.drawn
  have hn : NotedA _ p.aa ab i (x.th i).k (x.th i).row (.bool (L.AV an).ok) (.int .i64 (L.AV an).n) (.slice (L.AV an).la (L.AV an).ll (L.AV an).lc) (((x.th i).ans.map fun a => (L.AV a).cells).flatten) W u v' := hn
  refine dg_2c (by omega) hA2 fun A3 hA3 => ?_
  obtain ⟨q1, q2⟩ := ou_noted hL hP hi hU hc hk hauW hna rfl hn
  refine K u A3 v' q1 (fun r hr => ?_) (by have := hn.size; omega) ?_ hA3
  · rcases q2 r hr with h1 | h1 | h1
    · exact .inl h1
    · exact .inr (.inl h1)
    · exact .inr (.inr (by omega))
  · constructor
    intro r z hz
    obtain ⟨c, e, z0, h1, h2⟩ := hwfW.own r z hz
    refine ⟨c, e, z0, (hn.old r (Array.getElem?_eq_some_iff.1 h1).1 ?_ ?_).trans h1, h2⟩
    · rintro rfl
      rw [hmF _ (.inl rfl)] at hz
      cases hz
    · intro e
      rw [hmF _ (.inr e)] at hz
      cases hz
end Go.Proofs.Ytcejbandeikdjaa
namespace Go.Proofs.Ytcejbandeikdjaa
open Go Go.Conc Go.RowKit Go.Proofs
variable {F : Fz} {w w' w0 : World} {L : Lay} {p : Par} {g : Gate} {x y x0 : OX L} {i : Nat}
theorem OU.at (hL : L.Ok) (h : OU L p g x w) (d : Nat) : OU L p g x (w.at d) := h.stable hL (Nat.le_refl _) fun _ _ => rfl
theorem wf_none (hw0 : Wf F w0) {r : Nat} (h : w0.heap.size ≤ r) : F r = none := by
  cases e : F r with
  | none => rfl
  | some z =>
    obtain ⟨c, e1, z0, h1, _⟩ := hw0.own r z e
    have := (Array.getElem?_eq_some_iff.1 h1).1
    omega
theorem wf_under (hw0 : Wf F w0) : Under F w0.heap.size := by
  intro r z h
  obtain ⟨c, e1, z0, h1, _⟩ := hw0.own r z h
  exact (Array.getElem?_eq_some_iff.1 h1).1
theorem nf_after (hL : L.Ok) (h : OU L p g x w) (hi : i < p.n) {s' : L.S} {r : Nat} (hr : (∃ c A ab, (x.th i).call = some (c, A, ab) ∧ L.CR c r) ∨ w.heap.size ≤ r) (hs : ¬ L.SR s' r) : NF L p (upd x i s' { x.th i with call := none }) r := by
  have hM : ∀ q, (∃ c A ab, (x.th i).call = some (c, A, ab) ∧ L.CR c q) → MineC L x i q := fun q h => .inr h
  refine ⟨?_, ?_⟩
  · rintro (h1 | rfl | ⟨j, hj, h1⟩)
    · exact hs h1
    · rcases hr with hr | hr
      · exact h.aaM hi (hM _ hr)
      · have := h.aalt; omega
    · by_cases e : j = i
      · subst e
        rw [upd_self] at h1
        rcases h1 with h1 | ⟨a, ha, h1⟩ | ⟨c, A, ab, h1, _⟩
        · rcases hr with hr | hr
          · exact h.rowM hj h1 (hM _ hr)
          · have := (h.thr j hj).low hL (.inl h1); omega
        · rcases hr with hr | hr
          · exact h.ansM hj ha h1 (hM _ hr)
          · have := (h.thr j hj).low hL (.inr (.inl ⟨a, ha, h1⟩)); omega
        · cases h1
      · rw [upd_ne e] at h1
        rcases hr with hr | hr
        · exact h.other hi hj e h1 (hM _ hr)
        · have := (h.thr j hj).low hL h1; omega
  · rcases hr with hr | hr
    · exact h.inone r (mine_or hi (hM _ hr))
    · exact h.inone' (.inr hr)
theorem nf_ab (hL : L.Ok) (h : OU L p g x w) (hi : i < p.n) {s' : L.S} (hsr : ∀ q, L.SR s' q → MineC L x i q ∨ w.heap.size ≤ q) {c0 : L.C} {A0 : Array Value} {ab : Nat} (hc : (x.th i).call = some (c0, A0, ab)) : NF L p (upd x i s' { x.th i with call := none }) ab := by
  have hT : TR (x.th i) ab := .inr (.inr ⟨c0, A0, ab, hc, .inl rfl⟩)
  obtain ⟨_, k2, _, k4, k5, _, k7, _⟩ := (h.thr i hi).call c0 A0 ab hc
  refine ⟨?_, h.inone ab (.inr (.inr ⟨i, hi, hT⟩))⟩
  rintro (h1 | e1 | ⟨j, hj, h1⟩)
  · rcases hsr ab h1 with h2 | h2
    · exact h.abM hi hc h2
    · have := (h.thr i hi).low hL hT; omega
  · exact (h.ts i hi ab hT).2 e1
  · by_cases e : j = i
    · subst e
      rw [upd_self] at h1
      rcases h1 with h1 | ⟨a, ha, h1⟩ | ⟨c, A, ab, h1, _⟩
      · exact k5 h1.symm
      · exact (k7 a ha ab h1).1 rfl
      · cases h1
    · rw [upd_ne e] at h1
      exact h.tt j i hj hi e ab h1 hT
theorem nf_fresh (hL : L.Ok) (h : OU L p g x w) (hi : i < p.n) {s' : L.S} (hsr : ∀ q, L.SR s' q → MineC L x i q ∨ w.heap.size ≤ q) {ab : Nat} (hlt : ab < w.heap.size) (hn : NF L p x ab) (hc : (x.th i).call = none) : NF L p (upd x i s' { x.th i with call := none }) ab := by
  refine ⟨?_, hn.2⟩
  rintro (h1 | e1 | ⟨j, hj, h1⟩)
  · rcases hsr ab h1 with h2 | h2
    · exact hn.1 (mine_or hi h2)
    · omega
  · exact hn.1 (.inr (.inl e1))
  · by_cases e : j = i
    · subst e
      rw [upd_self] at h1
      have h2 : TR (x.th j) ab := by
        rcases h1 with h1 | h1 | ⟨c, A, ab, h1, _⟩
        · exact .inl h1
        · exact .inr (.inl h1)
        · cases h1
      exact hn.1 (.inr (.inr ⟨j, hj, h2⟩))
    · rw [upd_ne e] at h1
      exact hn.1 (.inr (.inr ⟨j, hj, h1⟩))
def TEnd (L : Lay) (p : Par) (g : Gate) (i : Nat) (y : OX L) (cs : List Frame) (a : Goroutine) : Prop :=
  ((opsUsers L p g).liv y i = true ∧ a = G (Frame.enter Try.prog 119 #[.pointer (some ⟨g.st i, 0, none⟩)] .normal) ((opsUsers L p g).fr y i ++ cs)) ∨ ((opsUsers L p g).liv y i = false ∧ ∃ v, a = back v cs)
def AdvTo (L : Lay) (p : Par) (g : Gate) (i : Nat) (x0 : OX L) (w0 : World) (S : OX L → Prop) (x : OX L) (cs : List Frame) (a : Goroutine) (u : World) : Prop :=
  ∃ y, S y ∧ (∀ j, j ≠ i → y.th j = x.th j) ∧ OU L p g y u ∧ (∀ r, OR L p y r → OR L p x0 r ∨ w0.heap.size ≤ r) ∧ TEnd L p g i y cs a
theorem own_adv (hL : L.Ok) (hP : p.Ok L) (hi : i < p.n) (hF0 : ∀ r, OR L p x0 r → F r = none) (hw0 : Wf F w0) (c : Frame) (cs : List Frame) : ∀ (m : Nat) (x : OX L) (w : World) (A : Array Value), (p.ops i).length - (x.th i).k = m → OU L p g x w → (x.th i).call = none → Wf F w → w0.heap.size ≤ w.heap.size → (∀ r, OR L p x r → OR L p x0 r ∨ w0.heap.size ≤ r) → Slots 33 A (dgS p (g.st i) i (x.th i).k) →
    Own Try.prog false F (AdvTo L p g i x0 w0 (fun y => Adv L p i (x.s, x.th i) (y.s, y.th i)) x (c :: cs)) (G ((Go.Conc.base 68).at ⟨A, []⟩ [.code dgs2, .inLoop dgs2, .inBlock 0]) (c :: cs)) w := by
  have hFn : ∀ r, OR L p x0 r ∨ w0.heap.size ≤ r → F r = none := fun r h => h.elim (hF0 r) (wf_none hw0)
  intro m
  induction m with
  | zero =>
    intro x w A hm h hc hwf hsz hO hA
    have hk : (x.th i).k = (p.ops i).length := by have := (h.thr i hi).kl; omega
    rw [hk] at hA
    refine dg_3 hA (.stop fun d => ⟨x, .done hc hk, fun j _ => rfl, h.at hL d, hO, .inr ⟨?_, _, rfl⟩⟩)
    show (x.th i).call.isSome = false
    rw [hc]
    rfl
  | succ m ih =>
    intro x w A hm h hc hwf hsz hO hA
    have hk : (x.th i).k < (p.ops i).length := by omega
    obtain ⟨o, ho⟩ : ∃ o, (p.ops i)[(x.th i).k]? = some o := ⟨_, List.getElem?_eq_getElem hk⟩
    obtain ⟨opb, oo, hoa, f0, f1, f2, f3, g0, g1, g2, g3⟩ := hP.op w h.fix i hi _ o ho
    have hdb := hP.db w h.fix
    have hib := hP.ib w h.fix i hi
    have hA' := hA
    unfold dgS at hA'
    rw [hoa] at hA'
    refine dg_1 (wf_under hwf) (Nat.le_refl _) hL.call hk (hP.len i hi) hdb.c hdb.z hib.c hib.z hdb.lt hib.lt f0 f1 f2 f3 g0 g1 g2 g3 hA' fun A1 hA1 => ?_
    have hA1' : Slots 33 A1 (dgS8 p (g.st i) i (x.th i).k (w.heap.size + 1)) := by
      unfold dgS8
      rw [hoa]
      obtain ⟨b0, b1, b2, b3, b4, b5, b6, b7, b8⟩ := hA1
      exact ⟨b0, b1, b2, b3, b4, b5, b7, b8⟩
    have e1 : ∀ r, r < w.heap.size → ((w.alloc (.cells #[.int .i64 o.kd, .int .i64 o.a, .int .i64 o.b, .int .i64 o.c] 44)).alloc (.cells #[.bool false, .int .i64 0, .slice none 0 0] 46)).heap[r]? = w.heap[r]? := fun r hr => by
      rw [heap_alloc_lt _ _ (by simp; omega), heap_alloc_lt _ _ hr]
    have e2 : ((w.alloc (.cells #[.int .i64 o.kd, .int .i64 o.a, .int .i64 o.b, .int .i64 o.c] 44)).alloc (.cells #[.bool false, .int .i64 0, .slice none 0 0] 46)).heap[w.heap.size + 1]? = some (.cells #[.bool false, .int .i64 0, .slice none 0 0] 46 (0, 0)) := by
      have := heap_alloc_new (w.alloc (.cells #[.int .i64 o.kd, .int .i64 o.a, .int .i64 o.b, .int .i64 o.c] 44)) (.cells #[.bool false, .int .i64 0, .slice none 0 0] 46)
      simpa using this
    have e3 : ((w.alloc (.cells #[.int .i64 o.kd, .int .i64 o.a, .int .i64 o.b, .int .i64 o.c] 44)).alloc (.cells #[.bool false, .int .i64 0, .slice none 0 0] 46)).heap.size = w.heap.size + 2 := by simp
    generalize (w.alloc (.cells #[.int .i64 o.kd, .int .i64 o.a, .int .i64 o.b, .int .i64 o.c] 44)).alloc (.cells #[.bool false, .int .i64 0, .slice none 0 0] 46) = W at e1 e2 e3 ⊢
    have hx : OU L p g x W := h.stable hL (by omega) fun r hr => e1 r (hr.elim (h.low hL) (fixed_lt h.fix))
    have hans : Ans W (w.heap.size + 1) := ⟨⟨_, _, _, e2⟩⟩
    have hnf : NF L p x (w.heap.size + 1) := ⟨fun hh => by have := h.low hL hh; omega, h.inone' (.inr (by omega))⟩
    have hwf1 : Wf F W := by
      constructor
      intro r z hz
      obtain ⟨c, e, z0, h1, h2⟩ := hwf.own r z hz
      exact ⟨c, e, z0, (e1 r (Array.getElem?_eq_some_iff.1 h1).1).trans h1, h2⟩
    have hSF : ∀ r, L.SR x.s r → F r = none := fun r hr => hFn r (hO r (.inl hr))
    have key := own_gd (hL.beg x.s i o (g.st i) (FU F (fun r => L.SR x.s r) W) W (dgFr A1) (c :: cs) hx.su fu_wf fun r hr => fu_mine hr)
    refine (own_weaken (fun a ha => fu_held hwf1 hSF ha) key).bind fun a u hs => ?_
    obtain ⟨hgd, s', res, hrel, hsu, hsr, hres⟩ := hs u.drawn
    have hgd : Gd (FU F (fun r => L.SR x.s r) W) W u := hgd
    have hsu : L.SU s' u := hsu
    have hus : W.heap.size ≤ u.heap.size := hgd.size
    have hsame : ∀ r, r < W.heap.size → ¬ MineC L x i r → u.heap[r]? = W.heap[r]? := fun r hr hm => fu_same hgd (fun hh => hm (.inl hh)) hr
    have hsr2 : ∀ q, L.SR s' q → MineC L x i q ∨ W.heap.size ≤ q := by
      intro q hq
      rcases hsr q hq with h1 | h1 | h1
      · exact .inl (.inl h1)
      · exact h1.elim
      · exact .inr h1
    have hwf2 : Wf F u := by
      constructor
      intro r z hz
      obtain ⟨c, e, z0, h1, h2⟩ := hwf1.own r z hz
      refine ⟨c, e, z0, (fu_same hgd (fun hh => ?_) (Array.getElem?_eq_some_iff.1 h1).1).trans h1, h2⟩
      rw [hSF r hh] at hz
      cases hz
    cases res with
    | inl c1 =>
      obtain ⟨hjj, hcu, hcr, hcs, rfl⟩ := hres
      have hcu : L.CU c1 u := hcu
      obtain ⟨q1, q2⟩ := ou_next hL hx hi hus hsame hsu hsr2 (call' := some (c1, A1, w.heap.size + 1)) (fun _ c2 h2 => hL.jb _ _ _ _ _ _ _ h2 hrel) (by
        intro c A ab e
        cases e
        exact ⟨hjj, hA1', hcu, fun q hq => (hcr q hq).elim False.elim .inr, hcs, hk, .inr ⟨hans, hnf⟩⟩)
      refine .stop fun d => ⟨_, ?_, fun j hj => upd_ne hj, q1.at hL d, fun r hr => ?_, .inl ⟨?_, ?_⟩⟩
      · show Adv L p i (x.s, x.th i) (s', (upd x i s' { x.th i with call := some (c1, A1, w.heap.size + 1) }).th i)
        rw [upd_self]
        exact .live ho hrel
      · rcases q2 r hr with h1 | h1 | ⟨c2, A2, h1⟩
        · exact hO r h1
        · exact .inr (by omega)
        · cases h1
          exact .inr (by omega)
      · show ((upd x i s' { x.th i with call := some (c1, A1, w.heap.size + 1) }).th i).call.isSome = true
        rw [upd_self]
        rfl
      · simp only [opsUsers, upd_self, List.append_assoc, List.cons_append, List.nil_append]
    | inr an =>
      obtain ⟨hau, har, has, rfl⟩ := hres
      have hau : L.AU an u := hau
      obtain ⟨q1, q2⟩ := ou_next hL hx hi hus hsame hsu hsr2 (call' := none) (fun _ c2 h2 => hL.jb _ _ _ _ _ _ _ h2 hrel) (by intro c A ab e; cases e)
      have hq2 : ∀ r, OR L p (upd x i s' { x.th i with call := none }) r → OR L p x0 r ∨ w0.heap.size ≤ r := by
        intro r hr
        rcases q2 r hr with h1 | h1 | ⟨c2, A2, h1⟩
        · exact hO r h1
        · exact .inr (by omega)
        · cases h1
      have hti : (upd x i s' { x.th i with call := none }).th i = { x.th i with call := none } := upd_self
      have hAn : ∀ q, L.AR an q → W.heap.size ≤ q := fun q hq => (har q hq).elim False.elim id
      refine own_note hL hP hi (ab := w.heap.size + 1) q1 (by rw [hti]) (by rw [hti]; exact hk) hau (fun r hr => ⟨nf_after hL hx hi (.inr (hAn r hr)) (has r hr), fun e => by have := hAn r hr; omega⟩) (ans_same hans (hsame _ (by omega) fun hm => hnf.1 (mine_or hi hm))) (nf_fresh hL hx hi hsr2 (by omega) hnf hc) hwf2 ?_ (by rw [hti]; exact hA1') ?_
      · rintro r (h1 | rfl)
        · exact hFn r (hq2 r h1)
        · exact hFn _ (.inr (by omega))
      · intro w' A2 v' r1 r2 r3 r4 r5
        rw [hti] at r1 r2 r5
        have hti2 : ∀ t : Thr L, (upd (upd x i s' { x.th i with call := none }) i (upd x i s' { x.th i with call := none }).s t).th i = t := fun t => upd_self
        refine (ih _ w' A2 (by rw [hti2]; simp only; omega) r1 (by rw [hti2]) r4 (by omega) ?_ (by rw [hti2]; exact r5)).bind fun a u hs => .stop fun d => ?_
        · intro r hr
          rcases r2 r hr with h1 | h1 | h1
          · exact hq2 r h1
          · exact .inr (by have := hAn r h1; omega)
          · exact .inr (by omega)
        · obtain ⟨y, k1, k2, k3, k4, k5⟩ := hs d
          refine ⟨y, ?_, fun j hj => ?_, k3, k4, k5⟩
          · rw [hti2] at k1
            exact .imm ho hrel k1
          · rw [k2 j hj, upd_ne hj, upd_ne hj]
end Go.Proofs.Ytcejbandeikdjaa
namespace Go.Proofs.Ytcejbandeikdjaa
open Go Go.Conc Go.RowKit Go.Proofs
variable {F : Fz} {w w' w0 : World} {L : Lay} {p : Par} {g : Gate} {x y x0 : OX L} {i : Nat}
theorem plain_dg (A : Array Value) : Plain (dgFr A) := ⟨rfl, rfl, ⟨_, Try.func68⟩⟩
theorem own_stp (hL : L.Ok) (hP : p.Ok L) (hi : i < p.n) (h : OU L p g x w) {c0 : L.C} {A : Array Value} {ab : Nat} (hc : (x.th i).call = some (c0, A, ab)) (hwf : Wf F w) (hF : ∀ r, OR L p x r → F r = none) (c : Frame) (cs : List Frame) :
    Own Try.prog false F (AdvTo L p g i x w (fun y => Stp L p i (x.s, x.th i) (y.s, y.th i)) x (c :: cs)) (back (.tuple #[]) (L.cf (g.st i) c0 ++ dgFr A :: c :: cs)) w := by
  obtain ⟨hA, hans, hcu0, k4, k5, k6, k7, hk⟩ := (h.thr i hi).call c0 A ab hc
  have hT : TR (x.th i) ab := .inr (.inr ⟨c0, A, ab, hc, .inl rfl⟩)
  have hablt : ab < w.heap.size := (h.thr i hi).low hL hT
  have hdis : ∀ q, L.CR c0 q → ¬ L.SR x.s q := fun q hq => (h.ts i hi q (.inr (.inr ⟨c0, A, ab, hc, .inr hq⟩))).1
  have hMF : ∀ r, (L.SR x.s r ∨ L.CR c0 r) → F r = none := fun r hr => hF r (hr.elim .inl fun hr => .inr (.inr ⟨i, hi, .inr (.inr ⟨c0, A, ab, hc, .inr hr⟩)⟩))
  have key := own_gd (hL.stp x.s c0 (g.st i) (FU F (fun r => L.SR x.s r ∨ L.CR c0 r) w) w (dgFr A) (c :: cs) (h.jj i hi c0 A ab hc) h.su hcu0 hdis fu_wf fun r hr => fu_mine hr)
  refine (own_weaken (fun a ha => fu_held hwf hMF ha) key).bind fun a u hs => ?_
  obtain ⟨hgd, s', res, hrel, hsu, hsr, hres⟩ := hs u.drawn
  have hgd : Gd (FU F (fun r => L.SR x.s r ∨ L.CR c0 r) w) w u := hgd
  have hsu : L.SU s' u := hsu
  have hus : w.heap.size ≤ u.heap.size := hgd.size
  have hCM : ∀ q, L.CR c0 q → MineC L x i q := fun q hq => .inr ⟨c0, A, ab, hc, hq⟩
  have hsame : ∀ r, r < w.heap.size → ¬ MineC L x i r → u.heap[r]? = w.heap[r]? := fun r hr hm => fu_same hgd (fun hh => hm (hh.elim .inl (hCM r))) hr
  have hsr2 : ∀ q, L.SR s' q → MineC L x i q ∨ w.heap.size ≤ q := by
    intro q hq
    rcases hsr q hq with h1 | h1 | h1
    · exact .inl (.inl h1)
    · exact .inl (hCM q h1)
    · exact .inr h1
  have hwf2 : Wf F u := by
    constructor
    intro r z hz
    obtain ⟨c, e, z0, h1, h2⟩ := hwf.own r z hz
    refine ⟨c, e, z0, (fu_same hgd (fun hh => ?_) (Array.getElem?_eq_some_iff.1 h1).1).trans h1, h2⟩
    rw [hMF r hh] at hz
    cases hz
  cases res with
  | inl c1 =>
    obtain ⟨hjj, hcu, hcr, hcs, rfl⟩ := hres
    have hcu : L.CU c1 u := hcu
    obtain ⟨q1, q2⟩ := ou_next hL h hi hus hsame hsu hsr2 (call' := some (c1, A, ab)) (fun _ c2 h2 => hL.js _ _ _ _ _ _ h2 hrel) (by
      intro c A1 ab1 e
      cases e
      exact ⟨hjj, hA, hcu, fun q hq => (hcr q hq).elim (fun h1 => .inl (hCM q h1)) .inr, hcs, hk, .inl ⟨c0, A, hc⟩⟩)
    refine .stop fun d => ⟨_, ?_, fun j hj => upd_ne hj, q1.at hL d, fun r hr => ?_, .inl ⟨?_, ?_⟩⟩
    · show Stp L p i (x.s, x.th i) (s', (upd x i s' { x.th i with call := some (c1, A, ab) }).th i)
      rw [upd_self]
      exact .live hc hrel
    · rcases q2 r hr with h1 | h1 | ⟨c2, A2, h1⟩
      · exact .inl h1
      · exact .inr h1
      · cases h1
        exact .inl (.inr (.inr ⟨i, hi, hT⟩))
    · show ((upd x i s' { x.th i with call := some (c1, A, ab) }).th i).call.isSome = true
      rw [upd_self]
      rfl
    · simp only [opsUsers, upd_self, List.append_assoc, List.cons_append, List.nil_append]
  | inr an =>
    obtain ⟨hau, har, has, rfl⟩ := hres
    have hau : L.AU an u := hau
    obtain ⟨q1, q2⟩ := ou_next hL h hi hus hsame hsu hsr2 (call' := none) (fun _ c2 h2 => hL.js _ _ _ _ _ _ h2 hrel) (by intro c A ab e; cases e)
    have hFn : ∀ r, OR L p x r ∨ w.heap.size ≤ r → F r = none := fun r h => h.elim (hF r) (wf_none hwf)
    have hq2 : ∀ r, OR L p (upd x i s' { x.th i with call := none }) r → OR L p x r ∨ w.heap.size ≤ r := by
      intro r hr
      rcases q2 r hr with h1 | h1 | ⟨c2, A2, h1⟩
      · exact .inl h1
      · exact .inr h1
      · cases h1
    have hti : (upd x i s' { x.th i with call := none }).th i = { x.th i with call := none } := upd_self
    have hOA : ∀ q, L.AR an q → OR L p x q ∨ w.heap.size ≤ q := fun q hq => (har q hq).elim (fun h1 => .inl (mine_or hi (hCM q h1))) .inr
    refine own_note hL hP hi (ab := ab) q1 (by rw [hti]) (by rw [hti]; exact hk) hau (fun r hr => ⟨nf_after hL h hi ((har r hr).elim (fun h1 => .inl ⟨c0, A, ab, hc, h1⟩) .inr) (has r hr), ?_⟩) (ans_same hans (hsame _ hablt (h.abM hi hc))) (nf_ab hL h hi hsr2 hc) hwf2 ?_ (by rw [hti]; exact hA) ?_
    · rintro rfl
      rcases har _ hr with h1 | h1
      · exact k4 h1
      · omega
    · rintro r (h1 | rfl)
      · exact hFn r (hq2 r h1)
      · exact hFn _ (.inl (.inr (.inr ⟨i, hi, hT⟩)))
    · intro w' A2 v' r1 r2 r3 r4 r5
      rw [hti] at r1 r2 r5
      have hti2 : ∀ t : Thr L, (upd (upd x i s' { x.th i with call := none }) i (upd x i s' { x.th i with call := none }).s t).th i = t := fun t => upd_self
      refine (own_adv hL hP hi hF hwf c cs _ _ w' A2 rfl r1 (by rw [hti2]) r4 (by omega) ?_ (by rw [hti2]; exact r5)).bind fun a u hs => .stop fun d => ?_
      · intro r hr
        rcases r2 r hr with h1 | h1 | h1
        · exact hq2 r h1
        · exact hOA r h1
        · exact .inr (by omega)
      · obtain ⟨y, k1, k2, k3, k4, k5⟩ := hs d
        refine ⟨y, ?_, fun j hj => ?_, k3, k4, k5⟩
        · rw [hti2] at k1
          exact .ans hc hrel k1
        · rw [k2 j hj, upd_ne hj, upd_ne hj]
theorem ops_ok (hL : L.Ok) (hP : p.Ok L) (hn : g.n = p.n) : (opsUsers L p g).Ok g where
  call := callable68
  plain := by
    intro x i hl
    have hl : (x.th i).call.isSome = true := hl
    obtain ⟨⟨c0, A, ab⟩, hc⟩ := Option.isSome_iff_exists.1 hl
    have e : (opsUsers L p g).fr x i = L.cf (g.st i) c0 ++ [dgFr A] := by simp only [opsUsers, hc]
    rw [e]
    refine ⟨by simp, fun u hu => ?_⟩
    rcases List.mem_append.1 hu with hu | hu
    · exact (hL.plain _ _).2 u hu
    · rw [List.mem_singleton] at hu
      subst hu
      exact plain_dg A
  stable := fun x w w' h hsz hs => OU.stable hL h hsz hs
  fix := fun x w r o h hr => ⟨OU.fix h r o hr, hP.cells r o hr⟩
  low := fun x w r h hr => OU.low hL h hr
  stpO := by
    intro x i y j h hj
    have e := h.2 j hj
    exact ⟨by simp only [opsUsers, e], by simp only [opsUsers, e]⟩
  borO := by
    intro x i y j h hj
    have e := h.2 j hj
    exact ⟨by simp only [opsUsers, e], by simp only [opsUsers, e]⟩
  nwO := by
    intro x i y j h hj hnw
    have e := h.2 j hj
    simp only [opsUsers, e] at hnw ⊢
    exact hnw
  go := by
    intro x i hi hl F w c cs h hwf hF
    have hl : (x.th i).call.isSome = true := hl
    obtain ⟨⟨c0, A, ab⟩, hc⟩ := Option.isSome_iff_exists.1 hl
    have e : (opsUsers L p g).fr x i ++ c :: cs = L.cf (g.st i) c0 ++ dgFr A :: c :: cs := by simp only [opsUsers, hc, List.append_assoc, List.cons_append, List.nil_append]
    rw [e]
    refine (own_stp hL hP (by omega) h hc hwf hF c cs).bind fun a u hs => .stop fun d => ?_
    obtain ⟨y, k1, k2, k3, k4, k5⟩ := hs d
    exact ⟨y, ⟨k1, k2⟩, k3, k4, k5⟩
  born := by
    intro x i hi hnw F w c cs h hwf hF
    have h : OU L p g x w := h
    have hob := hP.ob w h.fix i (by omega)
    have hF : ∀ r, OR L p x r → F r = none := hF
    refine dg_0 (sv := stepperV (g.st i)) (ob := p.ob i) (db := p.db) (ib := p.ib i) (av := p.av) hob.c hob.z fun A hA => ?_
    refine (own_adv hL hP (by omega) hF hwf c cs _ x w A rfl h hnw.1 hwf (Nat.le_refl _) (fun r hr => .inl hr) (by rw [hnw.2]; exact hA)).bind fun a u hs => .stop fun d => ?_
    obtain ⟨y, k1, k2, k3, k4, k5⟩ := hs d
    exact ⟨y, ⟨k1, k2⟩, k3, k4, k5⟩
end Go.Proofs.Ytcejbandeikdjaa
namespace Go.Proofs.Ytcejbandeikdjaa
open Go Go.Conc Go.RowKit Go.Proofs
variable {F : Fz} {w w' : World}
structure QS where
  q : RQ
  bl : List Nat
def QS.bk (s : QS) (k : Nat) : Nat := s.bl.getD k 0
def QS.pt (s : QS) (k : Nat) : Value := .pointer (some ⟨s.bk k, 0, none⟩)
def QS.nv (s : QS) (n : Option Nat) : Value := .pointer (n.map fun n => ⟨s.bk n, 0, none⟩)
structure QU (qb : Nat) (s : QS) (w : World) : Prop where
  len : s.bl.length = s.q.B.length
  hd : s.q.hd < s.q.B.length
  tl : s.q.tl < s.q.B.length
  nx : ∀ (k : Nat) (v : Int) (n : Nat), s.q.B[k]? = some (v, some n) → n < s.q.B.length
  bx : ∀ (k : Nat) (v : Int) (n : Option Nat), s.q.B[k]? = some (v, n) → w.heap[s.bk k]? = some (.cells #[.int .i64 v, s.nv n] 106 (0, 0))
  q0 : w.heap[qb]? = some (.cells #[s.pt s.q.hd, s.pt s.q.tl] 62 (0, 0))
  nd : ∀ j k, j < s.q.B.length → k < s.q.B.length → s.bk j = s.bk k → j = k
def QR (qb : Nat) (s : QS) (r : Nat) : Prop := r = qb ∨ ∃ k, k < s.q.B.length ∧ r = s.bk k
section
variable {qb : Nat} {s : QS}
theorem QU.get (h : QU qb s w) {k : Nat} (hk : k < s.q.B.length) : ∃ v n, s.q.B[k]? = some (v, n) ∧ s.q.nx k = n ∧ s.q.vl k = v ∧ (∀ m, n = some m → m < s.q.B.length) := by
  have e : s.q.B[k]? = some ((s.q.B[k]).1, (s.q.B[k]).2) := by rw [List.getElem?_eq_getElem hk]
  refine ⟨_, _, e, by simp [RQ.nx, e], by simp [RQ.vl, e], fun m hm => h.nx k (s.q.B[k]).1 m (by rw [e, hm])⟩
theorem QU.box (h : QU qb s w) {k : Nat} (hk : k < s.q.B.length) : w.heap[s.bk k]? = some (.cells #[.int .i64 (s.q.vl k), s.nv (s.q.nx k)] 106 (0, 0)) := by
  obtain ⟨v, n, h1, h2, h3, _⟩ := h.get hk
  rw [h2, h3]
  exact h.bx k v n h1
theorem QU.boxP (h : QU qb s w) {k : Nat} (hk : k < s.q.B.length) : BoxP w (some ⟨s.bk k, 0, none⟩) := .inr ⟨_, _, _, rfl, h.box hk, rfl⟩
theorem QU.nxlt (h : QU qb s w) {k m : Nat} (hm : s.q.nx k = some m) : m < s.q.B.length := by
  unfold RQ.nx at hm
  cases e : s.q.B[k]? with
  | none => rw [e] at hm; cases hm
  | some x =>
    rw [e] at hm
    obtain ⟨v, n⟩ := x
    have hm : n = some m := hm
    subst hm
    exact h.nx k v m e
theorem QU.apart (h : QU qb s w) {k : Nat} (hk : k < s.q.B.length) : s.bk k ≠ qb := by
  intro e
  have h1 := h.box hk
  rw [e, h.q0] at h1
  injection h1 with h1
  injection h1 with _ h1
  exact absurd h1 (by decide)
theorem QU.hc (h : QU qb s w) : w.cell? ⟨qb, 0, none⟩ = some (s.pt s.q.hd) := by simp [World.cell?, h.q0]
theorem QU.tc (h : QU qb s w) : w.cell? ⟨qb, 1, none⟩ = some (s.pt s.q.tl) := by simp [World.cell?, h.q0]
theorem QU.qz (h : QU qb s w) (k : Nat) : w.frozen? ⟨qb, k, none⟩ = false := by simp [World.frozen?, h.q0]
theorem QU.nc (h : QU qb s w) {k : Nat} (hk : k < s.q.B.length) : w.cell? ⟨s.bk k, 1, none⟩ = some (s.nv (s.q.nx k)) := by simp [World.cell?, h.box hk]
theorem QU.vc (h : QU qb s w) {k : Nat} (hk : k < s.q.B.length) : w.cell? ⟨s.bk k, 0, none⟩ = some (.int .i64 (s.q.vl k)) := by simp [World.cell?, h.box hk]
theorem QU.bz (h : QU qb s w) {k : Nat} (hk : k < s.q.B.length) (j : Nat) : w.frozen? ⟨s.bk k, j, none⟩ = false := by simp [World.frozen?, h.box hk]
theorem QU.same (h : QU qb s w) (hs : ∀ r, QR qb s r → w'.heap[r]? = w.heap[r]?) : QU qb s w' :=
  ⟨h.len, h.hd, h.tl, h.nx, fun k v n hk => (hs _ (.inr ⟨k, (List.getElem?_eq_some_iff.1 hk).1, rfl⟩)).trans (h.bx k v n hk), (hs _ (.inl rfl)).trans h.q0, h.nd⟩
theorem QU.low (h : QU qb s w) {r : Nat} (hr : QR qb s r) : r < w.heap.size := by
  rcases hr with rfl | ⟨k, hk, rfl⟩
  · exact (Array.getElem?_eq_some_iff.1 h.q0).1
  · exact (Array.getElem?_eq_some_iff.1 (h.box hk)).1
theorem QU.eq (h : QU qb s w) {j k : Nat} (hj : j < s.q.B.length) (hk : k < s.q.B.length) (d : Nat) : PtrEq Try.prog (w.at d) (some ⟨s.bk j, 0, none⟩) (some ⟨s.bk k, 0, none⟩) (decide (j = k)) := by
  by_cases e : j = k
  · subst e
    have := ptrEq_block (P := Try.prog) (w.at d) ⟨s.bk j, 0, none⟩ ⟨s.bk j, 0, none⟩ rfl
    simpa using this
  · rw [decide_eq_false e]
    exact ptrEq_apart (a := ⟨s.bk j, 0, none⟩) (b := ⟨s.bk k, 0, none⟩) (fun e1 => e (h.nd j k hj hk e1)) (h.box hj) (h.box hk)
theorem QU.setTl (h : QU qb s w) {n : Nat} (hn : n < s.q.B.length) : QU qb { s with q := { s.q with tl := n } } (w.setCell ⟨qb, 1, none⟩ (s.pt n)) :=
  ⟨h.len, h.hd, hn, h.nx, fun k v m hk => (heap_setCell_ne _ _ _ (h.apart (List.getElem?_eq_some_iff.1 hk).1)).trans (h.bx k v m hk), by rw [heap_setCell_eq h.q0]; rfl, h.nd⟩
theorem QU.setHd (h : QU qb s w) {n : Nat} (hn : n < s.q.B.length) : QU qb { s with q := { s.q with hd := n } } (w.setCell ⟨qb, 0, none⟩ (s.pt n)) :=
  ⟨h.len, hn, h.tl, h.nx, fun k v m hk => (heap_setCell_ne _ _ _ (h.apart (List.getElem?_eq_some_iff.1 hk).1)).trans (h.bx k v m hk), by rw [heap_setCell_eq h.q0]; rfl, h.nd⟩
theorem QU.help (h : QU qb s w) {t n : Nat} (hn : n < s.q.B.length) : QU qb { s with q := s.q.help t n } (if decide (s.q.tl = t) then w.setCell ⟨qb, 1, none⟩ (s.pt n) else w) := by
  unfold RQ.help
  by_cases e : s.q.tl = t
  · rw [if_pos e, if_pos (by simpa using e)]
    exact h.setTl hn
  · rw [if_neg e, if_neg (by simpa using e)]
    exact h
theorem QU.link (h : QU qb s w) {t n : Nat} (ht : t < s.q.B.length) (hn : n < s.q.B.length) : QU qb { s with q := s.q.link t n } (w.setCell ⟨s.bk t, 1, none⟩ (s.pt n)) := by
  have hl : (s.q.link t n).B.length = s.q.B.length := by simp [RQ.link]
  refine ⟨by rw [hl]; exact h.len, by rw [hl]; exact h.hd, by rw [hl]; exact h.tl, ?_, ?_, ?_, by rw [hl]; exact h.nd⟩
  · intro k v m hk
    rw [hl]
    simp only [RQ.link, List.getElem?_modify] at hk
    cases e : s.q.B[k]? with
    | none => rw [e] at hk; cases hk
    | some x =>
      rw [e] at hk
      change some ((fun a : Int × Option Nat => if t = k then (a.1, some n) else a) x) = _ at hk
      by_cases e1 : t = k
      · simp only [if_pos e1] at hk
        simp only [Option.map_some, Option.some.injEq, Prod.mk.injEq] at hk
        omega
      · simp only [if_neg e1] at hk
        simp only [Option.map_some, Option.some.injEq] at hk
        exact h.nx k v m (by rw [e]; exact congrArg some hk)
  · intro k v m hk
    simp only [RQ.link, List.getElem?_modify] at hk
    cases e : s.q.B[k]? with
    | none => rw [e] at hk; cases hk
    | some x =>
      have hkl := (List.getElem?_eq_some_iff.1 e).1
      rw [e] at hk
      change some ((fun a : Int × Option Nat => if t = k then (a.1, some n) else a) x) = _ at hk
      by_cases e1 : t = k
      · subst e1
        simp only [if_true] at hk
        simp only [Option.map_some, Option.some.injEq, Prod.mk.injEq] at hk
        obtain ⟨rfl, rfl⟩ := hk
        show (w.setCell ⟨s.bk t, 1, none⟩ (s.pt n)).heap[s.bk t]? = _
        rw [heap_setCell_eq (h.bx t x.1 x.2 e)]
        rfl
      · simp only [if_neg e1] at hk
        simp only [Option.map_some, Option.some.injEq] at hk
        refine (heap_setCell_ne _ _ _ ?_).trans (h.bx k v m (by rw [e]; exact congrArg some hk))
        intro e2
        exact e1 (h.nd t k ht hkl e2.symm)
  · exact (heap_setCell_ne _ _ _ (fun e => h.apart ht e.symm)).trans h.q0
theorem bk_app {b k : Nat} (hk : k < s.bl.length) {q : RQ} : QS.bk ⟨q, s.bl ++ [b]⟩ k = s.bk k := by
  simp only [QS.bk, List.getD_eq_getElem?_getD, List.getElem?_append_left hk]
theorem QU.new (h : QU qb s w) (v : Int) : QU qb ⟨{ s.q with B := s.q.B ++ [(v, none)] }, s.bl ++ [w.heap.size]⟩ (w.alloc (.cells #[.int .i64 v, .pointer none] 106)) := by
  have hl := h.len
  have hnew : QS.bk ⟨{ s.q with B := s.q.B ++ [(v, none)] }, s.bl ++ [w.heap.size]⟩ s.q.B.length = w.heap.size := by
    simp [QS.bk, List.getD_eq_getElem?_getD, ← hl]
  have hold : ∀ k, k < s.q.B.length → QS.bk ⟨{ s.q with B := s.q.B ++ [(v, none)] }, s.bl ++ [w.heap.size]⟩ k = s.bk k := fun k hk => bk_app (by omega)
  have hlt : ∀ k, k < s.q.B.length → s.bk k < w.heap.size := fun k hk => h.low (.inr ⟨k, hk, rfl⟩)
  have hhd := h.hd
  have htl := h.tl
  refine ⟨by simp [hl], by simp; omega, by simp; omega, ?_, ?_, ?_, ?_⟩
  · intro k v1 n hk
    simp only [List.length_append, List.length_cons, List.length_nil]
    simp only [List.getElem?_append] at hk
    split at hk
    · have := h.nx k v1 n hk; omega
    · rename_i h1
      have : k - s.q.B.length = 0 := by
        rcases Nat.eq_zero_or_pos (k - s.q.B.length) with h2 | h2
        · exact h2
        · rw [List.getElem?_eq_none (by simp; omega)] at hk
          cases hk
      rw [this] at hk
      simp at hk
  · intro k v1 n hk
    simp only [List.getElem?_append] at hk
    split at hk
    · rename_i h1
      rw [hold k h1, heap_alloc_lt _ _ (hlt k h1), h.bx k v1 n hk]
      have e : QS.nv ⟨{ s.q with B := s.q.B ++ [(v, none)] }, s.bl ++ [w.heap.size]⟩ n = s.nv n := by
        unfold QS.nv
        cases n with
        | none => rfl
        | some n => simp only [Option.map_some]; rw [hold n (h.nx k v1 n hk)]
      rw [e]
    · rename_i h1
      have : k - s.q.B.length = 0 := by
        rcases Nat.eq_zero_or_pos (k - s.q.B.length) with h2 | h2
        · exact h2
        · rw [List.getElem?_eq_none (by simp; omega)] at hk
          cases hk
      rw [this] at hk
      simp only [List.getElem?_cons_zero, Option.some.injEq, Prod.mk.injEq] at hk
      obtain ⟨rfl, rfl⟩ := hk
      obtain rfl : k = s.q.B.length := by omega
      rw [hnew]
      exact heap_alloc_new _ _
  · rw [heap_alloc_lt _ _ (h.low (.inl rfl)), h.q0]
    unfold QS.pt
    rw [hold _ h.hd, hold _ h.tl]
  · intro j k hj hk e
    simp only [List.length_append, List.length_cons, List.length_nil] at hj hk
    by_cases ej : j < s.q.B.length
    · by_cases ek : k < s.q.B.length
      · rw [hold j ej, hold k ek] at e
        exact h.nd j k ej ek e
      · obtain rfl : k = s.q.B.length := by omega
        rw [hold j ej, hnew] at e
        have := hlt j ej; omega
    · obtain rfl : j = s.q.B.length := by omega
      by_cases ek : k < s.q.B.length
      · rw [hold k ek, hnew] at e
        have := hlt k ek; omega
      · omega
end
end Go.Proofs.Ytcejbandeikdjaa
namespace Go.Proofs.Ytcejbandeikdjaa
open Go Go.Conc Go.RowKit Go.Proofs
variable {F : Fz} {w w' : World} {qb st : Nat}
structure QC where
  c : RC
  v : Int
  A : Array Value
  A2 : Array Value
  ab : Nat
  eb : Nat
noncomputable def putIt (ph : Nat) : List Item := match ph with
  | 1 => [.inRegion puto2 [1], .code puts5, .inBlock 1, .inLoop putb1, .inBlock 0]
  | 2 => [.inRegion puto4 [1], .code puts7, .inBlock 1, .inLoop putb1, .inBlock 0]
  | 3 => [.inRegion puto7 [1], .code puts11, .code puts12, .inBlock 1, .inLoop putb1, .inBlock 0]
  | 4 => [.inRegion puto9 [1], .code puts13, .inBlock 1, .inLoop putb1, .inBlock 0]
  | _ => [.inRegion puto11 [1], .code puts15, .inBlock 1, .inLoop putb1, .inBlock 0]
noncomputable def takIt (ph : Nat) : List Item := match ph with
  | 1 => [.inRegion tako3 [1], .code taks6, .inBlock 1, .inLoop takb1, .inBlock 0]
  | 2 => [.inRegion tako5 [1], .code taks8, .inBlock 1, .inLoop takb1, .inBlock 0]
  | 3 => [.inRegion tako7 [1], .code taks10, .inBlock 1, .inLoop takb1, .inBlock 0]
  | 4 => [.inRegion tako15 [1], .code takr16, .inBlock 2, .inBlock 1, .inLoop takb1, .inBlock 0]
  | _ => [.inRegion tako9 [1], .code taks16, .inBlock 2, .inBlock 1, .inLoop takb1, .inBlock 0]
noncomputable def empIt (ph : Nat) : List Item := match ph with
  | 1 => [.inRegion empo3 [1], .code emps5]
  | _ => [.inRegion empo5 [1], .code emps7]
noncomputable def QC.fr (c : QC) : List Frame := match c.c.kd with
  | 1 => [(Go.Conc.base 25).at ⟨c.A, []⟩ (putIt c.c.ph), (Go.Conc.base 38).at ⟨c.A2, []⟩ [.inRegion qdoo3 [4], .code qdos5, .inBlock 0, .code qdos14]]
  | 2 => [(Go.Conc.base 26).at ⟨c.A, []⟩ (takIt c.c.ph), (Go.Conc.base 38).at ⟨c.A2, []⟩ [.inRegion qdoo6 [2, 3, 4, 5, 6, 7], .code qdos8, .inBlock 0, .code qdos14]]
  | _ => [(Go.Conc.base 27).at ⟨c.A, []⟩ (empIt c.c.ph), (Go.Conc.base 38).at ⟨c.A2, []⟩ [.inRegion qdoo10 [2], .code qdoc39, .code qdos13, .inBlock 0, .code qdos14]]
def putSl (qb st : Nat) (s : QS) (c : QC) : List (Nat × Value) := (0, .pointer (some ⟨qb, 0, none⟩)) :: (1, stepperV st) :: (2, .int .i64 c.v) :: (6, s.pt c.c.new) :: (match c.c.ph with
  | 1 => []
  | 2 => [(7, s.pt c.c.T)]
  | 3 => [(7, s.pt c.c.T), (8, s.pt c.c.n)]
  | 4 => [(7, s.pt c.c.T), (8, .pointer none)]
  | _ => [(7, s.pt c.c.T)])
def takSl (qb st : Nat) (s : QS) (c : QC) : List (Nat × Value) := (0, .pointer (some ⟨qb, 0, none⟩)) :: (1, stepperV st) :: (match c.c.ph with
  | 1 => []
  | 2 => [(6, s.pt c.c.H)]
  | 3 => [(6, s.pt c.c.H), (7, s.pt c.c.T)]
  | 4 => [(6, s.pt c.c.H), (7, s.pt c.c.T), (8, s.pt c.c.n)]
  | _ => [(6, s.pt c.c.H), (7, s.pt c.c.T), (8, s.pt c.c.n)])
def empSl (qb st : Nat) (s : QS) (c : QC) : List (Nat × Value) := (0, .pointer (some ⟨qb, 0, none⟩)) :: (1, stepperV st) :: (match c.c.ph with
  | 1 => []
  | _ => [(5, s.pt c.c.H)])
structure QJ (qb st : Nat) (s : QS) (c : QC) : Prop where
  H : c.c.H < s.q.B.length
  T : c.c.T < s.q.B.length
  n : c.c.n < s.q.B.length
  new : c.c.new < s.q.B.length
  kd : c.c.kd = 1 ∨ c.c.kd = 2 ∨ c.c.kd = 3
  ph : 1 ≤ c.c.ph ∧ c.c.ph ≤ if c.c.kd = 3 then 2 else 5
  A : match c.c.kd with
    | 1 => Slots 51 c.A (putSl qb st s c)
    | 2 => Slots 56 c.A (takSl qb st s c)
    | _ => Slots 21 c.A (empSl qb st s c)
  A2 : match c.c.kd with
    | 1 => Slots 43 c.A2 [(8, .pointer (some ⟨c.ab, 0, none⟩))]
    | 2 => Slots 43 c.A2 [(8, .pointer (some ⟨c.ab, 0, none⟩))]
    | _ => Slots 43 c.A2 [(8, .pointer (some ⟨c.ab, 0, none⟩)), (11, .pointer (some ⟨c.eb, 0, none⟩))]
def QExt (s s' : QS) : Prop := s.q.B.length ≤ s'.q.B.length ∧ ∀ k, k < s.q.B.length → s'.bk k = s.bk k
theorem QJ.ext {s s' : QS} {c : QC} (h : QJ qb st s c) (he : QExt s s') : QJ qb st s' c := by
  obtain ⟨he1, he2⟩ := he
  have e : ∀ k, k < s.q.B.length → s'.pt k = s.pt k := fun k hk => by unfold QS.pt; rw [he2 k hk]
  have hH := h.H
  have hT := h.T
  have hn := h.n
  have hnew := h.new
  refine ⟨by omega, by omega, by omega, by omega, h.kd, h.ph, ?_, h.A2⟩
  have := h.A
  simpa only [putSl, takSl, empSl, e _ hH, e _ hT, e _ hn, e _ hnew] using this
def absR : QC ⊕ (Bool × Int) → RR
  | .inl c => .inl c.c
  | .inr a => .inr a
def QCR (c : QC) (r : Nat) : Prop := r = c.ab ∨ (c.c.kd = 3 ∧ r = c.eb)
def QCU (c : QC) (w : World) : Prop := Ans w c.ab ∧ (c.c.kd = 3 → w.heap[c.eb]? = some (.cells #[.bool true, .int .i64 0, .slice none 0 0] 46 (0, 0)) ∧ c.eb ≠ c.ab)
noncomputable def QLay (qb : Nat) : Lay where
  S := QS
  C := QC
  A := Bool × Int
  SU := QU qb
  SR := QR qb
  CU := QCU
  CR := QCR
  AV := fun a => ⟨a.1, a.2, none, 0, 0⟩
  AU := fun _ _ => True
  AR := fun _ _ => False
  cf := fun st c => stepFr stK ⟨st, 0, none⟩ :: c.fr
  df := 38
  first := #[.pointer (some ⟨qb, 0, none⟩)]
  capt := #[]
  beg := fun s _ o y => QExt s y.1 ∧ (y.1.q, absR y.2) = s.q.begin o
  stp := fun s c y => QExt s y.1 ∧ (y.1.q, absR y.2) = s.q.step c.c
  J := fun st s c => QJ qb st s c
theorem QCU.same {c : QC} (h : QCU c w) (hs : ∀ r, QCR c r → w'.heap[r]? = w.heap[r]?) : QCU c w' :=
  ⟨ans_same h.1 (hs _ (.inl rfl)), fun hk => ⟨(hs _ (.inr ⟨hk, rfl⟩)).trans (h.2 hk).1, (h.2 hk).2⟩⟩
theorem qr_same {s : QS} {q' : RQ} (hl : q'.B.length = s.q.B.length) {r : Nat} (h : QR qb ⟨q', s.bl⟩ r) : QR qb s r := by
  rcases h with h | ⟨k, hk, h⟩
  · exact .inl h
  · exact .inr ⟨k, by simp only at hk; omega, h⟩
theorem q_live {s : QS} {c : QC} {q' : RQ} {rc' : RC} {A' : Array Value} {cs : List Frame} (hQ : QU qb ⟨q', s.bl⟩ w') (hl : q'.B.length = s.q.B.length) (hr : (q', .inl rc') = s.q.step c.c) (hk : rc'.kd = c.c.kd) (hJ : QJ qb st ⟨q', s.bl⟩ { c with c := rc', A := A' }) (hcu : QCU c w) (hdis : ∀ q, QCR c q → ¬ QR qb s q) (hsame : ∀ r, ¬ QR qb s r → w'.heap[r]? = w.heap[r]?) (d : Nat) :
    (QLay qb).Out st s (QCR c) ((QLay qb).stp s c) w cs (G (Frame.enter Try.prog 119 #[.pointer (some ⟨st, 0, none⟩)] .normal) ((QLay qb).cf st { c with c := rc', A := A' } ++ cs)) (w'.at d) := by
  have hcr : ∀ q, QCR { c with c := rc', A := A' } q → QCR c q := by
    rintro q (h | ⟨h1, h2⟩)
    · exact .inl h
    · exact .inr ⟨hk ▸ h1, h2⟩
  refine ⟨⟨q', s.bl⟩, .inl { c with c := rc', A := A' }, ⟨⟨by simp only; omega, fun k _ => rfl⟩, hr⟩, hQ.same fun _ _ => rfl, fun q h => .inl (qr_same hl h), hJ, ?_, fun q h => .inl (hcr q h), fun q h h2 => hdis q (hcr q h) (qr_same hl h2), rfl⟩
  have : QCU { c with c := rc', A := A' } w := ⟨hcu.1, fun h => hcu.2 (hk ▸ h)⟩
  exact this.same fun r hr => hsame r (hdis r (hcr r hr))
theorem q_ans {s : QS} {c : QC} {q' : RQ} {an : Bool × Int} {cs : List Frame} (hQ : QU qb ⟨q', s.bl⟩ w') (hl : q'.B.length = s.q.B.length) (hr : (q', .inr an) = s.q.step c.c) (d : Nat) :
    (QLay qb).Out st s (QCR c) ((QLay qb).stp s c) w cs (back (.agg #[.bool an.1, .int .i64 an.2, .slice none 0 0]) cs) (w'.at d) :=
  ⟨⟨q', s.bl⟩, .inr an, ⟨⟨by simp only; omega, fun k _ => rfl⟩, hr⟩, hQ.same fun _ _ => rfl, fun q h => .inl (qr_same hl h), trivial, fun q h => h.elim, fun q h => h.elim, rfl⟩
theorem help_same {s : QS} {t : Nat} {v : Value} (r : Nat) (hr : ¬ QR qb s r) : (if decide (s.q.tl = t) then w.setCell ⟨qb, 1, none⟩ v else w).heap[r]? = w.heap[r]? := by
  split
  · exact heap_setCell_ne _ _ _ (fun e => hr (.inl e))
  · rfl
theorem not_heldB {b : Nat} (h : F b = none) (k : Nat) : ¬ held F ⟨b, k, none⟩ := by
  rintro ⟨z, hz, _⟩
  rw [h] at hz
  cases hz
theorem ansW_same {ab : Nat} {b : Bool} {n : Int} {r : Nat} (hr : r ≠ ab) : (ansW w ab b n).heap[r]? = w.heap[r]? := by
  unfold ansW
  rw [heap_setCell_ne _ _ _ hr, heap_setCell_ne _ _ _ hr, heap_setCell_ne _ _ _ hr]
theorem stp_put {s : QS} {T : Nat} {H ph new : Nat} {N : Option Nat} {v : Int} {A A2 : Array Value} {ab eb : Nat} (hJ : QJ qb st s ⟨⟨1, ph, H, T, N, new⟩, v, A, A2, ab, eb⟩) (hs : QU qb s w) (hc : QCU ⟨⟨1, ph, H, T, N, new⟩, v, A, A2, ab, eb⟩ w) (hdis : ∀ q, QCR ⟨⟨1, ph, H, T, N, new⟩, v, A, A2, ab, eb⟩ q → ¬ QR qb s q) (hF : ∀ r, QR qb s r ∨ QCR ⟨⟨1, ph, H, T, N, new⟩, v, A, A2, ab, eb⟩ r → F r = none) (b : Frame) (cs : List Frame) :
    Own Try.prog false F ((QLay qb).Out st s (QCR ⟨⟨1, ph, H, T, N, new⟩, v, A, A2, ab, eb⟩) ((QLay qb).stp s ⟨⟨1, ph, H, T, N, new⟩, v, A, A2, ab, eb⟩) w (b :: cs)) (back (.tuple #[]) ((QLay qb).cf st ⟨⟨1, ph, H, T, N, new⟩, v, A, A2, ab, eb⟩ ++ b :: cs)) w := by
  have hA := hJ.A
  have hA2 := hJ.A2
  have hq : F qb = none := hF qb (.inl (.inl rfl))
  have hbF : ∀ k, k < s.q.B.length → F (s.bk k) = none := fun k hk => hF _ (.inl (.inr ⟨k, hk, rfl⟩))
  have hT : T < s.q.B.length := hJ.T
  have hnew : new < s.q.B.length := hJ.new
  have hH : H < s.q.B.length := hJ.H
  have hn : N.getD 0 < s.q.B.length := hJ.n
  have hp := hJ.ph
  simp only at hp
  have hph : ph = 1 ∨ ph = 2 ∨ ph = 3 ∨ ph = 4 ∨ ph = 5 := by
    rw [if_neg (by decide)] at hp
    omega
  rcases hph with rfl | rfl | rfl | rfl | rfl
  · refine put_1 (K := stK) (t := s.bk s.q.tl) (hs.boxP hs.tl) hs.tc hA fun A' hA' => .stop fun d => q_live (rc' := ⟨1, 2, H, s.q.tl, N, new⟩) (A' := A') hs rfl rfl rfl ⟨hH, hs.tl, hn, hnew, .inl rfl, ⟨by simp, by simp⟩, hA', hA2⟩ hc hdis (fun r _ => rfl) d
  · cases e : s.q.nx T with
    | none =>
      refine put_2b (K := stK) (t := s.bk T) (n := 0) (.inl rfl) ((hs.nc hT).trans (by rw [e]; rfl)) hA fun A' hA' => .stop fun d => q_live (rc' := ⟨1, 4, H, T, none, new⟩) (A' := A') hs rfl (by simp [RQ.step, RQ.put, e]) rfl ⟨hH, hT, by simp only [RC.n, Option.getD_none]; omega, hnew, .inl rfl, ⟨by simp, by simp⟩, hA', hA2⟩ hc hdis (fun r _ => rfl) d
    | some n =>
      have hnl := hs.nxlt e
      refine put_2a (K := stK) (t := s.bk T) (n := s.bk n) (hs.boxP hnl) ((hs.nc hT).trans (by rw [e]; rfl)) hA fun A' hA' => .stop fun d => q_live (rc' := ⟨1, 3, H, T, some n, new⟩) (A' := A') hs rfl (by simp [RQ.step, RQ.put, e]) rfl ⟨hH, hT, hnl, hnew, .inl rfl, ⟨by simp, by simp⟩, hA', hA2⟩ hc hdis (fun r _ => rfl) d
  · refine put_3 (K := stK) (t := s.bk T) (n := s.bk (N.getD 0)) (eq := decide (s.q.tl = T)) (hs.boxP hT) (hs.boxP hn) hs.tc (hs.qz 1) (not_heldB hq 1) (fun d => hs.eq hs.tl hT d) hA fun A' hA' => .stop fun d => q_live (q' := s.q.help T (N.getD 0)) (rc' := ⟨1, 1, H, T, N, new⟩) (A' := A') (hs.help hn) (help_len _ _ _) rfl rfl ⟨by simp only [help_len]; exact hH, by simp only [help_len]; exact hT, by simp only [help_len]; exact hn, by simp only [help_len]; exact hnew, .inl rfl, ⟨by simp, by simp⟩, hA', hA2⟩ hc hdis help_same d
  · cases e : s.q.nx T with
    | none =>
      have hll : (s.q.link T new).B.length = s.q.B.length := by simp [RQ.link]
      refine put_4a (K := stK) (t := s.bk T) (bx := s.bk new) (hs.boxP hnew) ((hs.nc hT).trans (by rw [e]; rfl)) (hs.bz hT 1) (not_heldB (hbF T hT) 1) hA fun A' hA' => .stop fun d => q_live (q' := s.q.link T new) (rc' := ⟨1, 5, H, T, N, new⟩) (A' := A') (hs.link hT hnew) hll (by simp [RQ.step, RQ.put, e]) rfl ⟨by simp only [hll]; exact hH, by simp only [hll]; exact hT, by simp only [hll]; exact hn, by simp only [hll]; exact hnew, .inl rfl, ⟨by simp, by simp⟩, hA', hA2⟩ hc hdis (fun r hr => heap_setCell_ne _ _ _ (fun e => hr (.inr ⟨T, hT, e⟩))) d
    | some n =>
      have hnl := hs.nxlt e
      refine put_4b (K := stK) (t := s.bk T) (bx := s.bk new) (cur := ⟨s.bk n, 0, none⟩) (hs.boxP hnew) ((hs.nc hT).trans (by rw [e]; rfl)) (hs.bz hT 1) (not_heldB (hbF T hT) 1) hA fun A' hA' => .stop fun d => q_live (rc' := ⟨1, 1, H, T, N, new⟩) (A' := A') hs rfl (by simp [RQ.step, RQ.put, e]) rfl ⟨hH, hT, hn, hnew, .inl rfl, ⟨by simp, by simp⟩, hA', hA2⟩ hc hdis (fun r _ => rfl) d
  · refine put_5 (K := stK) (t := s.bk T) (n := 0) (bx := s.bk new) (eq := decide (s.q.tl = T)) (hs.boxP hT) (hs.boxP hnew) hs.tc (hs.qz 1) (not_heldB hq 1) (fun d => hs.eq hs.tl hT d) hA ?_
    have hab : ∀ r, QR qb s r → r ≠ ab := fun r hr e => hdis r (.inl e) hr
    have hans : Ans (if decide (s.q.tl = T) then w.setCell ⟨qb, 1, none⟩ (s.pt new) else w) ab := ans_same hc.1 (help_same ab (hdis ab (.inl rfl)))
    refine do_put1 hans (fun k => not_heldB (hF ab (.inr (.inl rfl))) k) hA2 (.stop fun d => q_ans (an := (true, 0)) (q' := s.q.help T new) ?_ (help_len _ _ _) rfl d)
    exact (hs.help hnew).same fun r hr => ansW_same (hab r (qr_same (s := s) (help_len _ _ _) hr))
end Go.Proofs.Ytcejbandeikdjaa
