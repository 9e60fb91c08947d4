/-
  StackNone: a nil stack and the zero one
  Part 4 of 5.
-/
import Derived.Test.YtlcgkpapnpdfpaaZC
set_option linter.unusedSimpArgs false
set_option linter.unusedVariables false
namespace Go.Proofs.Ytlcgkpapnpdfpaa
open Go Go.Conc Go.RowKit Go.Proofs
variable {P : Program} {main : Bool} {F : Fz} {fn : FuncId} {ops : Array Oper} {S : World → Prop} {last : Nat} {Z : Act → World → Prop}
def Callee (P : Program) (main : Bool) (F : Fz) (f : FuncId) (args : Array Value) (Post : Value → World → Prop) (w : World) : Prop :=
  ∀ (c : Frame) (cs : List Frame) (Stop : Goroutine → World → Prop), (∀ v w', Post v w' → Own P main F Stop (G (c.finish v) cs) w') → Own P main F Stop (G (Frame.enter P f args .normal) (c :: cs)) w
def OpC (P : Program) (main : Bool) (F : Fz) (fn : FuncId) (ops : Array Oper) (i : Nat) (K : Act → World → Prop) (a : Act) (w : World) : Prop :=
  ∃ o, ops[i]? = some o ∧ ((Region.wanted o (yielded ops a.tmps) = true ∧ ∀ d, uponK o a (fun a' w' => GuarE F (w.at d) w' (listed P fn a o (w.at d)) ∧ K a' w') ((execOp a.eval o).run P (w.at d))) ∨
    (Region.wanted o (yielded ops a.tmps) = false ∧ K (a.put o.dst undef) w) ∨
    (Region.wanted o (yielded ops a.tmps) = true ∧ ∃ f args Post, (∀ w, (execOp a.eval o).run P w = .ok (.enter f args) w) ∧ (∀ w, (execOp a.eval o).events P w #[] = #[]) ∧ Callee P main F f args Post w ∧ ∀ v w', Post v w' → K (a.put o.dst v) w'))
def AnyC (P : Program) (main : Bool) (F : Fz) (fn : FuncId) (ops : Array Oper) (S : World → Prop) (last : Nat) (Z : Act → World → Prop) : Nat → Array Bool → Act → World → Prop
  | 0, listed, a, w => ((∀ j ∈ Region.ready .any ops listed, j = last) → Z a w) ∧ ∀ j ∈ Region.ready .any ops listed, j = last
  | fuel + 1, listed, a, w => ((∀ j ∈ Region.ready .any ops listed, j = last) → Z a w) ∧ ∀ i ∈ Region.ready .any ops listed, i ≠ last → OpC P main F fn ops i (fun a w => S w ∧ AnyC P main F fn ops S last Z fuel (listed.setIfInBounds i true) a w) a w
theorem OpC_mono {i : Nat} {a : Act} {w : World} {K K' : Act → World → Prop} (h : ∀ a w, K a w → K' a w) (hh : OpC P main F fn ops i K a w) : OpC P main F fn ops i K' a w := by
  obtain ⟨o, h1, ⟨h2, h3⟩ | ⟨h2, h3⟩ | ⟨h2, f, args, Post, r1, r2, r3, r4⟩⟩ := hh
  · exact ⟨o, h1, .inl ⟨h2, fun d => uponK_mono (fun u w ⟨x, y⟩ => ⟨x, h _ _ y⟩) (h3 d)⟩⟩
  · exact ⟨o, h1, .inr (.inl ⟨h2, h _ _ h3⟩)⟩
  · exact ⟨o, h1, .inr (.inr ⟨h2, f, args, Post, r1, r2, r3, fun v w' hp => h _ _ (r4 v w' hp)⟩)⟩
theorem OpC_at {i : Nat} {a : Act} {w : World} {K : Act → World → Prop} (hK : ∀ a w d, K a w → K a (World.at w d)) (h : OpC P main F fn ops i K a w) (d : Nat) : OpC P main F fn ops i K a (w.at d) := by
  obtain ⟨o, h1, ⟨h2, h3⟩ | ⟨h2, h3⟩ | ⟨h2, f, args, Post, r1, r2, r3, r4⟩⟩ := h
  · exact ⟨o, h1, .inl ⟨h2, fun d' => by rw [at_at']; exact h3 d'⟩⟩
  · exact ⟨o, h1, .inr (.inl ⟨h2, hK _ _ _ h3⟩)⟩
  · exact ⟨o, h1, .inr (.inr ⟨h2, f, args, Post, r1, r2, fun c cs Stop k => (r3 c cs Stop k).at d, r4⟩)⟩
theorem anyC_at (hS : ∀ w d, S w → S (World.at w d)) (hZ : ∀ a w d, Z a w → Z a (World.at w d)) : ∀ (fuel : Nat) (listed : Array Bool) (a : Act) (w : World), AnyC P main F fn ops S last Z fuel listed a w → ∀ d, AnyC P main F fn ops S last Z fuel listed a (w.at d) := by
  intro fuel
  induction fuel with
  | zero => exact fun listed a w h d => ⟨fun x => hZ _ _ _ (h.1 x), h.2⟩
  | succ fuel ih => exact fun listed a w h d => ⟨fun x => hZ _ _ _ (h.1 x), fun i hi hl => OpC_at (fun a w d ⟨x, y⟩ => ⟨hS _ _ x, ih _ _ _ y d⟩) (h.2 i hi hl) d⟩
theorem OpC_put {i j : Nat} {oi oj : Oper} {v : Value} (hj : ops[j]? = some oj) (hap : oi.apart ops oj = true) (hsj : ∀ cs b, oj.op ≠ .select cs b) {K : Act → World → Prop} {a : Act} {w : World}
    (h : OpC P main F fn ops j K (a.put oi.dst v) w) : OpC P main F fn ops j (fun a' w' => ∃ u, a' = a.put oj.dst u ∧ K (a'.put oi.dst v) w') a w := by
  obtain ⟨h1, h2, h3⟩ := Oper.apart_spec hap
  obtain ⟨o, ho, hh⟩ := h
  rw [hj] at ho
  cases ho
  have e1 : execOp (a.put oi.dst v).eval oj = execOp a.eval oj := execOp_put oj hsj a oi.dst v h1
  have e2 := wanted_put oj a oi.dst v h1
  refine ⟨oj, hj, ?_⟩
  unfold listed at *
  rw [e1, e2] at hh
  rcases hh with ⟨hw, hh⟩ | ⟨hw, hh⟩ | ⟨hw, f, args, Post, r1, r2, r3, r4⟩
  · refine .inl ⟨hw, fun d => ?_⟩
    have := hh d
    cases hr : (execOp a.eval oj).run P (w.at d) with
    | halt _ _ => rw [hr] at this; exact this
    | ok x w' =>
      rw [hr] at this
      cases x with
      | value u => exact ⟨this.1, u, rfl, by rw [← Act.put_comm a v u h2]; exact this.2⟩
      | skip => exact ⟨this.1, undef, rfl, by rw [← Act.put_comm a v undef h2]; exact this.2⟩
      | _ => exact this
  · exact .inr (.inl ⟨hw, undef, rfl, by rw [← Act.put_comm a v undef h2]; exact hh⟩)
  · exact .inr (.inr ⟨hw, f, args, Post, r1, r2, r3, fun u w' hp => ⟨u, rfl, by rw [← Act.put_comm a v u h2]; exact r4 u w' hp⟩⟩)
theorem anyC_first (hS : ∀ w d, S w → S (World.at w d)) (hZ : ∀ a w d, Z a w → Z a (World.at w d)) {i : Nat} {oi : Oper} {v : Value} (hi : ops[i]? = some oi) (hil : i ≠ last) (hsel : ∀ (j : Nat) (o : Oper) cs b, ops[j]? = some o → o.op ≠ .select cs b) :
    ∀ (fuel : Nat) (listed : Array Bool) (a : Act) (w : World), S w →
      (∀ j oj, ops[j]? = some oj → j ≠ i → listed.getD j true = false → (∀ e ∈ oj.after, Region.binds .any e = true → e.on ≠ i) → oi.apart ops oj = true) →
      i ∈ Region.ready .any ops listed → (∀ w, S w → YQ P F fn ops w oi v a) →
      AnyC P main F fn ops S last Z fuel (listed.setIfInBounds i true) (a.put oi.dst v) w → AnyC P main F fn ops S last Z (fuel + 1) listed a w := by
  have self : ∀ (fuel : Nat) (listed : Array Bool) (a : Act) (w : World), S w → (∀ w, S w → YQ P F fn ops w oi v a) → AnyC P main F fn ops S last Z fuel (listed.setIfInBounds i true) (a.put oi.dst v) w →
      OpC P main F fn ops i (fun a w => S w ∧ AnyC P main F fn ops S last Z fuel (listed.setIfInBounds i true) a w) a w := by
    intro fuel listed a w hw hy H
    rcases hy w hw with ⟨h1, h2⟩ | ⟨h1, rfl⟩
    · exact ⟨oi, hi, .inl ⟨h1, fun d => by rw [(h2 d).1]; exact ⟨⟨⟨0, Grew.refl F _⟩, (h2 d).2⟩, hS _ _ hw, anyC_at hS hZ _ _ _ _ H d⟩⟩⟩
    · exact ⟨oi, hi, .inr (.inl ⟨h1, hw, H⟩)⟩
  intro fuel
  induction fuel with
  | zero =>
    intro listed a w hw _ hr hy H
    refine ⟨fun h => absurd (h i hr) hil, fun j hj hjl => ?_⟩
    by_cases hji : j = i
    · subst hji; exact self _ _ _ _ hw hy H
    · exact absurd (H.2 j (ready_mono hj hji)) hjl
  | succ fuel ih =>
    intro listed a w hw hfree hr hy H
    refine ⟨fun h => absurd (h i hr) hil, fun j hj hjl => ?_⟩
    by_cases hji : j = i
    · subst hji; exact self _ _ _ _ hw hy H
    · have h1 := H.2 j (ready_mono hj hji) hjl
      obtain ⟨hjun, oj, hoj, hall⟩ := mem_ready.1 hj
      have hnot : ∀ e ∈ oj.after, Region.binds .any e = true → e.on ≠ i := fun e he hb heq => by
        have h1 := hall e he hb
        have h0 := (mem_ready.1 hr).1
        rw [heq] at h1
        rcases Nat.lt_or_ge i listed.size with h' | h'
        · simp [h'] at h0 h1; rw [h0] at h1; cases h1
        · simp [Array.getElem?_eq_none h'] at h1
      have hap := hfree j oj hoj hji hjun hnot
      obtain ⟨p1, p2, p3⟩ := Oper.apart_spec hap
      have h2 := OpC_put (i := i) (oi := oi) hoj hap (fun cs b => hsel j oj cs b hoj) h1
      have hfree' : ∀ k ok, ops[k]? = some ok → k ≠ i → (listed.setIfInBounds j true).getD k true = false →
          (∀ e ∈ ok.after, Region.binds .any e = true → e.on ≠ i) → oi.apart ops ok = true := fun k ok hk hki hun hno => by
        refine hfree k ok hk hki ?_ hno
        by_cases hjk : j = k
        · subst hjk; exact hjun
        · rw [getD_set_ne true hjk] at hun; exact hun
      refine OpC_mono (fun a' w' h3 => ?_) h2
      obtain ⟨u, rfl, hw', h4⟩ := h3
      refine ⟨hw', ih (listed.setIfInBounds j true) _ _ hw' hfree' (ready_mono hr (Ne.symm hji)) (fun w hw => (hy w hw).of_same (execOp_put oi (fun cs b => hsel i oi cs b hi) a oj.dst u p3) (wanted_put oi a oj.dst u p3)) ?_⟩
      rw [Array.setIfInBounds_comm _ _ hji]
      exact h4
theorem anyC_take (hS : ∀ w d, S w → S (World.at w d)) (hZ : ∀ a w d, Z a w → Z a (World.at w d)) {i : Nat} {oi : Oper} {v : Value} {fuel : Nat} {listed : Array Bool} {a : Act} {w : World} (hw : S w) (hi : ops[i]? = some oi) (hil : (i != last) = true) (hs : Region.noSelect ops = true) (hf : Region.free .any ops listed i = true)
    (hr : (Region.ready .any ops listed).contains i = true) (hy : ∀ w, S w → YQ P F fn ops w oi v a) (h : AnyC P main F fn ops S last Z fuel (listed.setIfInBounds i true) (a.put oi.dst v) w) : AnyC P main F fn ops S last Z (fuel + 1) listed a w :=
  anyC_first hS hZ hi (by simpa using hil) (Region.noSelect_spec hs) fuel listed a w hw (Region.free_spec hi hf) (by simpa using hr) hy h
theorem anyC_all {fuel : Nat} {listed : Array Bool} {a : Act} {w : World} {r : List Nat} (hr : Region.ready .any ops listed = r) (hl : r.any (· != last) = true)
    (h : ∀ i ∈ r, i ≠ last → OpC P main F fn ops i (fun a w => S w ∧ AnyC P main F fn ops S last Z fuel (listed.setIfInBounds i true) a w) a w) : AnyC P main F fn ops S last Z (fuel + 1) listed a w :=
  ⟨fun hn => by
    rw [hr] at hn
    obtain ⟨i, hi, hil⟩ := List.any_eq_true.1 hl
    exact absurd (hn i hi) (by simpa using hil), by rw [hr]; exact h⟩
theorem anyC_end {listed : Array Bool} {a : Act} {w : World} (hr : Region.ready .any ops listed = [last]) (h : Z a w) : ∀ fuel, AnyC P main F fn ops S last Z fuel listed a w
  | 0 => ⟨fun _ => h, by rw [hr]; simp⟩
  | _ + 1 => ⟨fun _ => h, fun i hi hne => absurd (by rw [hr] at hi; simpa using hi) hne⟩
theorem own_opc {Stop : Goroutine → World → Prop} {b : Frame} {a : Act} {w : World} {k : List Item} {cs : List Frame} {i : Nat} {rest : List Nat} (hk : b.kind ≠ .early)
    (h : OpC P main F b.fn ops i (fun a w => Own P main F Stop (G (b.at a (.inRegion ops rest :: k)) cs) w) a w) : Own P main F Stop (G (b.at a (.inRegion ops (i :: rest) :: k)) cs) w := by
  obtain ⟨o, ho, ⟨hw, hh⟩ | ⟨hw, hh⟩ | ⟨hw, f, args, Post, r1, r2, r3, r4⟩⟩ := h
  · refine .step rfl fun d => ?_
    have := hh d
    cases hr : (execOp a.eval o).run P (w.at d) with
    | halt _ _ => rw [hr] at this; exact this.elim
    | ok x w' =>
      rw [hr] at this
      cases x with
      | value u => exact ⟨_, _, _, stepG_value ho hw hk hr, this.1, this.2⟩
      | skip => exact ⟨_, _, _, stepG_none ho hw hk hr, this.1, this.2⟩
      | _ => exact this.elim
  · exact .step rfl fun d => ⟨_, _, #[], stepG_unwanted ho hw, ⟨⟨0, Grew.refl F _⟩, by simp⟩, hh.at d⟩
  · refine own_call ho hw hk r1 r2 (r3 _ _ _ fun v w' hp => ?_)
    have hfin : (b.at a (.inRegion ops (i :: rest) :: k)).finish v = b.at (a.put o.dst v) (.inRegion ops rest :: k) := by rw [Frame.finish_at, ho]; rfl
    rw [hfin]
    exact r4 v w' hp
theorem anyC_sound (L : LL ops last) {Stop : Goroutine → World → Prop} {b : Frame} {k : List Item} {cs : List Frame} (hk : b.kind ≠ .early) :
    ∀ (fuel t : Nat) (listed : Array Bool) (a : Act) (w : World), listed.size = ops.size → DownTo ops listed → listed.getD last true = false →
      AnyC P main F b.fn ops S last (fun a w => Own P main F Stop (G (b.at a (.inRegion ops [last] :: k)) cs) w) fuel listed a w →
      Own P main F Stop (G (b.at a (.inRegion ops (Region.linearise.go .any ops (fuel + 1) t listed []) :: k)) cs) w := by
  intro fuel
  induction fuel with
  | zero => ?_
  | succ fuel ih => ?_
  all_goals
    intro t listed a w hs hc hl H
    obtain ⟨i0, hi0⟩ := some_ready L hs last hl
    have hlen : 0 < (Region.ready .any ops listed).length := List.length_pos_of_mem hi0
    obtain ⟨i, hi⟩ : ∃ i, (Region.ready .any ops listed)[t % (Region.ready .any ops listed).length]? = some i := ⟨_, List.getElem?_eq_getElem (Nat.mod_lt _ hlen)⟩
    have hmem := List.mem_of_getElem? hi
    rw [Region.linearise.go]
    change Own P main F Stop (G (b.at a (.inRegion ops (match (Region.ready .any ops listed)[t % (Region.ready .any ops listed).length]? with
      | some i => Region.linearise.go .any ops _ (t / (Region.ready .any ops listed).length) (listed.setIfInBounds i true) [i]
      | none => [].reverse) :: k)) cs) w
    rw [hi]
    simp only []
    rw [linearise_go_acc, List.reverse_singleton, List.singleton_append]
  · obtain rfl := H.2 i hmem
    simp only [Region.linearise.go, List.reverse_nil]
    exact H.1 H.2
  · by_cases hil : i = last
    · subst hil
      have hall := all_listed L hs hc hmem i
      have hre : ∀ j ∈ Region.ready .any ops listed, j = i := by
        intro j hj
        obtain ⟨h0, o, ho, _⟩ := mem_ready.1 hj
        have hlt := (Array.getElem?_eq_some_iff.1 ho).1
        have hsz := L.size
        rcases Nat.lt_or_ge j i with h | h
        · have := hall j (by omega) h
          rw [getD_tf (by omega), this] at h0; cases h0
        · omega
      have hnil : Region.ready .any ops (listed.setIfInBounds i true) = [] := by
        apply List.eq_nil_iff_forall_not_mem.2
        intro j hj
        obtain ⟨h0, o, ho, _⟩ := mem_ready.1 hj
        have hlt := (Array.getElem?_eq_some_iff.1 ho).1
        have hsz := L.size
        by_cases e : i = j
        · subst e
          rw [getD_tf (by simp; omega)] at h0
          have : i < listed.size := by omega
          simp [this] at h0
        · rw [getD_set_ne true e, getD_tf (by omega), hall j (by omega) (by omega)] at h0; cases h0
      have : Region.linearise.go .any ops (fuel + 1) (t / (Region.ready .any ops listed).length) (listed.setIfInBounds i true) [] = [] := by
        rw [Region.linearise.go]
        change (match (Region.ready .any ops (listed.setIfInBounds i true))[(t / (Region.ready .any ops listed).length) % (Region.ready .any ops (listed.setIfInBounds i true)).length]? with
          | some i => _
          | none => [].reverse) = []
        rw [hnil]; rfl
      rw [this]
      exact H.1 hre
    · refine own_opc hk (OpC_mono (fun a' w' ⟨_, hK⟩ => ih _ _ _ _ (by simpa using hs) (fun j o' hj hlj e he hb => ?_) (by rw [getD_set_ne true hil]; exact hl) hK) (H.2 i hmem hil))
      by_cases e2 : i = j
      · subst e2
        obtain ⟨_, o2, ho2, hd⟩ := mem_ready.1 hmem
        rw [hj] at ho2
        cases ho2
        exact getD_set_true (hd e he hb)
      · rw [getD_set_ne false e2] at hlj
        exact getD_set_true (hc j o' hj hlj e he hb)
theorem own_drawnC (S : World → Prop) (hm : P.follows .mixedOrders = true) (L : LL ops last) {id : Nat} {Stop : Goroutine → World → Prop} {b : Frame} {a : Act} {w : World} {k : List Item} {cs : List Frame} (hk : b.kind ≠ .early)
    (h : AnyC P main F b.fn ops S last (fun a w => Own P main F Stop (G (b.at a (.inRegion ops [last] :: k)) cs) w) last (Array.replicate ops.size false) a w) :
    Own P main F Stop (G (b.at a (.code (.region id ops true) :: k)) cs) w := by
  refine .step rfl fun d => ⟨_, _, _, stepG_region_draw, ⟨⟨1, ?_⟩, by simp⟩, ?_⟩
  · exact ⟨rfl, rfl, rfl, rfl, Nat.le_refl _, fun _ _ h => .inr h, fun _ _ => rfl⟩
  · have hs := L.size
    have := anyC_sound (S := S) (cs := cs) (k := k) L hk last ((w.at d).tape (w.at d).drawn (.order b.fn id)) (Array.replicate ops.size false) a w (by simp) (fun j o _ hl => by
      simp at hl
      rcases Nat.lt_or_ge j ops.size with h1 | h1 <;> simp [h1] at hl) (by simp [hs]) h
    rw [← hs] at this
    simp only [Region.schedule, hm, Bool.true_or, if_true]
    exact this.at (d + 1)
theorem opc_k {i : Nat} {o : Oper} {K : Act → World → Prop} {a : Act} {w : World} (ho : ops[i]? = some o) (hw : Region.wanted o (yielded ops a.tmps) = true)
    (h : ∀ (d : Nat) (K' : Act → World → Prop), (∀ a' w', GuarE F (w.at d) w' (listed P fn a o (w.at d)) ∧ K a' w' → K' a' w') → uponK o a K' ((execOp a.eval o).run P (w.at d))) : OpC P main F fn ops i K a w :=
  ⟨o, ho, .inl ⟨hw, fun d => h d _ fun _ _ x => x⟩⟩
end Go.Proofs.Ytlcgkpapnpdfpaa
namespace Go.Proofs.Ytlcgkpapnpdfpaa
open Go Go.Conc Go.RowKit Go.Proofs
variable {F : Fz} {w : World}
structure KH (kb nb m : Nat) (w : World) : Prop where
  c2 : w.cell? ⟨kb, 2, none⟩ = some (.slice (some ⟨nb, 0, none⟩) m m)
theorem KH.at {kb nb m : Nat} {w : World} (h : KH kb nb m w) (d : Nat) : KH kb nb m (w.at d) := ⟨h.c2⟩
def tagOf (tg : Bool) (t : Int) : Int := if tg = true then (t + 1) % 2147483648 else 0
theorem own_turn {tg : Bool} {kb : Nat} {ad : Addr} {n t to v : Int} {eq : Bool} (hv : (v == pk (n, t)) = eq) (hk : w.cell? ⟨kb, 3, none⟩ = some (.bool tg)) (hn : -1 ≤ n ∧ n < 65536) (ht : 0 ≤ t ∧ t < 2147483648) (hto : -1 ≤ to ∧ to < 65536) (hc : w.cell? ad = some (.int .u64 v)) (hs : ad.spot = none) (hz : w.frozen? ad = false) (hnh : ¬ held F ad) {c : Frame} {cs : List Frame} {main : Bool} {Stop : Goroutine → World → Prop}
    (h : Own Try.prog main F Stop (G (c.finish (.bool eq)) cs) (if eq then w.setCell ad (.int .u64 (pk (to, tagOf tg t))) else w)) :
    Own Try.prog main F Stop (G (Frame.enter Try.prog 98 #[.pointer (some ⟨kb, 0, none⟩), .pointer (some ad), .int .u64 (pk (n, t)), .int .i64 to] .normal) (c :: cs)) w := by
  cases tg with
  | true => exact own_turn1 hv hk hn ht hto hc hs hz hnh h
  | false => exact own_turn0 hv hk hn ht hto hc hs hz hnh h
noncomputable def ktkBody : Code := Try.f78.body.getD .skip
noncomputable def ktks0 : Code := Code.piece [] ktkBody
noncomputable def ktkr0 : Code := Code.piece [true] ktkBody
noncomputable def ktko0 : Array Oper := Code.opsOf ktkr0
noncomputable def ktkb0 : Code := Code.piece [false] ktkBody
noncomputable def ktkl1 : Code := Code.piece [false, true] ktkBody
noncomputable def ktkb1 : Code := Code.piece [false, true, true] ktkBody
noncomputable def ktks2 : Code := Code.piece [false, true, true, true] ktkBody
noncomputable def ktkr1 : Code := Code.piece [false, true, true, true, true] ktkBody
noncomputable def ktko1 : Array Oper := Code.opsOf ktkr1
noncomputable def ktks3 : Code := Code.piece [false, true, true, true, false] ktkBody
noncomputable def ktkr2 : Code := Code.piece [false, true, true, true, false, true] ktkBody
noncomputable def ktko2 : Array Oper := Code.opsOf ktkr2
noncomputable def ktks4 : Code := Code.piece [false, true, true, true, false, false] ktkBody
noncomputable def ktkr3 : Code := Code.piece [false, true, true, true, false, false, true] ktkBody
noncomputable def ktko3 : Array Oper := Code.opsOf ktkr3
noncomputable def ktks5 : Code := Code.piece [false, true, true, true, false, false, false] ktkBody
noncomputable def ktks6 : Code := Code.piece [false, true, true, true, false, false, false, true] ktkBody
noncomputable def ktkr4 : Code := Code.piece [false, true, true, true, false, false, false, true, true] ktkBody
noncomputable def ktko4 : Array Oper := Code.opsOf ktkr4
noncomputable def ktkc18 : Code := Code.piece [false, true, true, true, false, false, false, true, false] ktkBody
noncomputable def ktks7 : Code := Code.piece [false, true, true, true, false, false, false, true, false, true] ktkBody
noncomputable def ktkr5 : Code := Code.piece [false, true, true, true, false, false, false, true, false, true, true] ktkBody
noncomputable def ktko5 : Array Oper := Code.opsOf ktkr5
noncomputable def ktks8 : Code := Code.piece [false, true, true, true, false, false, false, false] ktkBody
noncomputable def ktkr6 : Code := Code.piece [false, true, true, true, false, false, false, false, true] ktkBody
noncomputable def ktko6 : Array Oper := Code.opsOf ktkr6
noncomputable def ktks9 : Code := Code.piece [false, true, true, true, false, false, false, false, false] ktkBody
noncomputable def ktkr7 : Code := Code.piece [false, true, true, true, false, false, false, false, false, true] ktkBody
noncomputable def ktko7 : Array Oper := Code.opsOf ktkr7
noncomputable def ktks10 : Code := Code.piece [false, true, true, true, false, false, false, false, false, false] ktkBody
noncomputable def ktkr8 : Code := Code.piece [false, true, true, true, false, false, false, false, false, false, true] ktkBody
noncomputable def ktko8 : Array Oper := Code.opsOf ktkr8
noncomputable def ktks11 : Code := Code.piece [false, true, true, true, false, false, false, false, false, false, false] ktkBody
noncomputable def ktkr9 : Code := Code.piece [false, true, true, true, false, false, false, false, false, false, false, true] ktkBody
noncomputable def ktko9 : Array Oper := Code.opsOf ktkr9
noncomputable def ktkc35 : Code := Code.piece [false, true, true, true, false, false, false, false, false, false, false, false] ktkBody
noncomputable def ktks12 : Code := Code.piece [false, true, true, true, false, false, false, false, false, false, false, false, true] ktkBody
noncomputable def ktkr10 : Code := Code.piece [false, true, true, true, false, false, false, false, false, false, false, false, true, true] ktkBody
noncomputable def ktko10 : Array Oper := Code.opsOf ktkr10
theorem ktks0_eq : ktks0 = .seq ktkr0 ktkb0 := by kernel_rfl
theorem ktkr0_eq : ktkr0 = .region 0 ktko0 false := by kernel_rfl
theorem ktkb0_eq : ktkb0 = .block 0 ktkl1 := by kernel_rfl
theorem ktkl1_eq : ktkl1 = .loop ktkb1 := by kernel_rfl
theorem ktkb1_eq : ktkb1 = .block 1 ktks2 := by kernel_rfl
theorem ktks2_eq : ktks2 = .seq ktkr1 ktks3 := by kernel_rfl
theorem ktkr1_eq : ktkr1 = .region 1 ktko1 false := by kernel_rfl
theorem ktks3_eq : ktks3 = .seq ktkr2 ktks4 := by kernel_rfl
theorem ktkr2_eq : ktkr2 = .region 2 ktko2 false := by kernel_rfl
theorem ktks4_eq : ktks4 = .seq ktkr3 ktks5 := by kernel_rfl
theorem ktkr3_eq : ktkr3 = .region 3 ktko3 false := by kernel_rfl
theorem ktks5_eq : ktks5 = .seq ktks6 ktks8 := by kernel_rfl
theorem ktks6_eq : ktks6 = .seq ktkr4 ktkc18 := by kernel_rfl
theorem ktkr4_eq : ktkr4 = .region 4 ktko4 false := by kernel_rfl
theorem ktkc18_eq : ktkc18 = .cond (.tmp 18) ktks7 .skip := by kernel_rfl
theorem ktks7_eq : ktks7 = .seq ktkr5 .ret := by kernel_rfl
theorem ktkr5_eq : ktkr5 = .region 5 ktko5 false := by kernel_rfl
theorem ktks8_eq : ktks8 = .seq ktkr6 ktks9 := by kernel_rfl
theorem ktkr6_eq : ktkr6 = .region 6 ktko6 false := by kernel_rfl
theorem ktks9_eq : ktks9 = .seq ktkr7 ktks10 := by kernel_rfl
theorem ktkr7_eq : ktkr7 = .region 7 ktko7 false := by kernel_rfl
theorem ktks10_eq : ktks10 = .seq ktkr8 ktks11 := by kernel_rfl
theorem ktkr8_eq : ktkr8 = .region 8 ktko8 false := by kernel_rfl
theorem ktks11_eq : ktks11 = .seq ktkr9 ktkc35 := by kernel_rfl
theorem ktkr9_eq : ktkr9 = .region 9 ktko9 false := by kernel_rfl
theorem ktkc35_eq : ktkc35 = .cond (.tmp 35) ktks12 .skip := by kernel_rfl
theorem ktks12_eq : ktks12 = .seq ktkr10 .ret := by kernel_rfl
theorem ktkr10_eq : ktkr10 = .region 10 ktko10 false := by kernel_rfl
theorem enter_ktk (args : Array Value) : Frame.enter Try.prog 78 args .normal = (Go.Conc.base 78).at { tmps := args ++ Array.replicate (37 - args.size) undef, defers := [] } [.code ktks0] := enter_at args Try.func78 rfl
theorem callable78 : Callable 78 := callable Try.func78 rfl rfl
def ktkT (s : Nat → Value) : Array Value := #[s 0, s 1, s 2, s 3, s 4, s 5, s 6, s 7, s 8, s 9, s 10, s 11, s 12, s 13, s 14, s 15, s 16, s 17, s 18, s 19, s 20, s 21, s 22, s 23, s 24, s 25, s 26, s 27, s 28, s 29, s 30, s 31, s 32, s 33, s 34, s 35, s 36]
theorem ktkT_of {A : Array Value} (h : A.size = 37) : ∃ s, A = ktkT s := by
  obtain ⟨s, hs, _⟩ := arr_lit A h
  exact ⟨s, hs⟩
set_option maxRecDepth 100000 in
set_option maxHeartbeats 2000000 in
theorem tk_0 {sv : Value} {kb hx : Nat}  {cs : List Frame} {main : Bool} {Stop : Goroutine → World → Prop}
    (h : ∀ A, Slots 37 A [(0, .pointer (some ⟨kb, 0, none⟩)), (1, sv), (2, .pointer (some ⟨kb, hx, none⟩))] → Own Try.prog main F Stop (G (Frame.enter Try.prog 79 #[sv] .normal) (((Go.Conc.base 78).at ⟨A, []⟩ [.inRegion ktko1 [1], .code ktks3, .inBlock 1, .inLoop ktkb1, .inBlock 0]) :: cs)) w) :
    Own Try.prog main F Stop (G (Frame.enter Try.prog 78 #[.pointer (some ⟨kb, 0, none⟩), sv, .pointer (some ⟨kb, hx, none⟩)] .normal) cs) w := by
  rw [enter_ktk]
  walk_nrm
  rw [ktks0_eq]
  refine ogS ?_
  rw [ktkr0_eq]
  refine ogR ?_
  simp only [ktko0, Code.opsOf, ktkr0, Code.piece, ktkBody, Try.f78, Option.getD_some, List.size_toArray, List.length_cons, List.length_nil, Nat.reduceAdd, Nat.zero_add, List.range, List.range.loop]
  (refine oW fun dd K hK => ?_; go_simp; refine qT hK ?_; clear hK K)
  (refine oW fun dd K hK => ?_; go_simp; refine qT hK ?_; clear hK K)
  refine ogE ?_
  rw [ktkb0_eq]
  refine ogB ?_
  rw [ktkl1_eq]
  refine ogP ?_
  rw [ktkb1_eq]
  refine ogB ?_
  rw [ktks2_eq]
  refine ogS ?_
  rw [ktkr1_eq]
  refine ogR ?_
  simp only [ktko1, Code.opsOf, ktkr1, Code.piece, ktkBody, Try.f78, Option.getD_some, List.size_toArray, List.length_cons, List.length_nil, Nat.reduceAdd, Nat.zero_add, List.range, List.range.loop]
  (refine oW fun dd K hK => ?_; go_simp; refine qT hK ?_; clear hK K)
  refine oc callable79 #[sv] ?_
  refine h _ ?_
  exact ⟨rfl, rfl, rfl, rfl, trivial⟩
set_option maxRecDepth 100000 in
set_option maxHeartbeats 2000000 in
theorem tk_1a {sv : Value} {kb hx : Nat} {n t : Int} (hn : -1 ≤ n ∧ n < 65536) (ht : 0 ≤ t ∧ t < 2147483648) (hneg : n < 0) (hc : w.cell? ⟨kb, hx, none⟩ = some (.int .u64 (pk (n, t)))) {A : Array Value} (hA : Slots 37 A [(0, .pointer (some ⟨kb, 0, none⟩)), (1, sv), (2, .pointer (some ⟨kb, hx, none⟩))]) {c : Frame} {cs : List Frame} {main : Bool} {Stop : Goroutine → World → Prop}
    (h : Own Try.prog main F Stop (G (c.finish (.tuple #[.int .i64 0, .bool false])) cs) w) :
    Own Try.prog main F Stop (G (((Go.Conc.base 78).at ⟨A, []⟩ [.inRegion ktko1 [1], .code ktks3, .inBlock 1, .inLoop ktkb1, .inBlock 0]).finish (.tuple #[])) (c :: cs)) w := by
  obtain ⟨hsz, h0, h1, h2, _⟩ := hA
  obtain ⟨s, rfl⟩ := ktkT_of hsz
  change s 0 = _ at h0
  change s 1 = _ at h1
  change s 2 = _ at h2
  clear hsz
  simp only [ktkT, h0, h1, h2]
  clear h0 h1 h2
  rw [Frame.finish_at]
  simp only [ktko1, Code.opsOf, ktkr1, Code.piece, ktkBody, Try.f78, Option.getD_some, List.size_toArray, List.length_cons, List.length_nil, Nat.reduceAdd, Nat.zero_add, List.range, List.range.loop]
  walk_nrm
  refine ogE ?_
  rw [ktks3_eq]
  refine ogS ?_
  rw [ktkr2_eq]
  refine ogR ?_
  simp only [ktko2, Code.opsOf, ktkr2, Code.piece, ktkBody, Try.f78, Option.getD_some, List.size_toArray, List.length_cons, List.length_nil, Nat.reduceAdd, Nat.zero_add, List.range, List.range.loop]
  (refine oW fun dd K hK => ?_; go_simp; refine qT hK ?_; clear hK K)
  refine oc callable76 #[.pointer (some ⟨kb, hx, none⟩)] ?_
  refine own_ldU hc rfl ?_
  rw [Frame.finish_at]
  walk_nrm
  (refine oW fun dd K hK => ?_; go_simp; refine qT hK ?_; clear hK K)
  refine ogE ?_
  rw [ktks4_eq]
  refine ogS ?_
  rw [ktkr3_eq]
  refine ogR ?_
  simp only [ktko3, Code.opsOf, ktkr3, Code.piece, ktkBody, Try.f78, Option.getD_some, List.size_toArray, List.length_cons, List.length_nil, Nat.reduceAdd, Nat.zero_add, List.range, List.range.loop]
  (refine oW fun dd K hK => ?_; go_simp; refine qT hK ?_; clear hK K)
  refine oc callable77 #[.int .u64 (pk (n, t))] ?_
  refine own_of hn ht ?_
  rw [Frame.finish_at]
  walk_nrm
  (refine oW fun dd K hK => ?_; go_simp; refine qT hK ?_; clear hK K)
  refine ogE ?_
  rw [ktks5_eq]
  refine ogS ?_
  rw [ktks6_eq]
  refine ogS ?_
  rw [ktkr4_eq]
  refine ogR ?_
  simp only [ktko4, Code.opsOf, ktkr4, Code.piece, ktkBody, Try.f78, Option.getD_some, List.size_toArray, List.length_cons, List.length_nil, Nat.reduceAdd, Nat.zero_add, List.range, List.range.loop]
  (refine oW fun dd K hK => ?_; go_simp; refine qT hK ?_; clear hK K)
  (refine oW fun dd K hK => ?_; go_simp; refine qT hK ?_; clear hK K)
  refine ogE ?_
  rw [ktkc18_eq]
  refine ogT ?_
  simp only [if_true]
  rw [ktks7_eq]
  refine ogS ?_
  rw [ktkr5_eq]
  refine ogR ?_
  simp only [ktko5, Code.opsOf, ktkr5, Code.piece, ktkBody, Try.f78, Option.getD_some, List.size_toArray, List.length_cons, List.length_nil, Nat.reduceAdd, Nat.zero_add, List.range, List.range.loop]
  (refine oW fun dd K hK => ?_; go_simp; refine qT hK ?_; clear hK K)
  (refine oW fun dd K hK => ?_; go_simp; refine qT hK ?_; clear hK K)
  refine ogE ?_
  refine ogX ?_
  refine own_go rfl (fun d => stepG_leave (fn := Try.f78) (v := .tuple #[.int .i64 0, .bool false]) rfl rfl Try.func78 (by simp [results, Try.f78]) (by simp [results, Try.f78, go_sem])) ?_
  exact h
set_option maxRecDepth 100000 in
set_option maxHeartbeats 2000000 in
theorem tk_1b {sv : Value} {kb hx : Nat} {n t : Int} (hn : -1 ≤ n ∧ n < 65536) (ht : 0 ≤ t ∧ t < 2147483648) (hneg : ¬ n < 0) (hc : w.cell? ⟨kb, hx, none⟩ = some (.int .u64 (pk (n, t)))) {A : Array Value} (hA : Slots 37 A [(0, .pointer (some ⟨kb, 0, none⟩)), (1, sv), (2, .pointer (some ⟨kb, hx, none⟩))]) {cs : List Frame} {main : Bool} {Stop : Goroutine → World → Prop}
    (h : ∀ A, Slots 37 A [(0, .pointer (some ⟨kb, 0, none⟩)), (1, sv), (2, .pointer (some ⟨kb, hx, none⟩)), (8, .int .u64 (pk (n, t))), (9, .int .i64 n)] → Own Try.prog main F Stop (G (Frame.enter Try.prog 79 #[sv] .normal) (((Go.Conc.base 78).at ⟨A, []⟩ [.inRegion ktko6 [1], .code ktks9, .inBlock 1, .inLoop ktkb1, .inBlock 0]) :: cs)) w) :
    Own Try.prog main F Stop (G (((Go.Conc.base 78).at ⟨A, []⟩ [.inRegion ktko1 [1], .code ktks3, .inBlock 1, .inLoop ktkb1, .inBlock 0]).finish (.tuple #[])) (cs)) w := by
  obtain ⟨hsz, h0, h1, h2, _⟩ := hA
  obtain ⟨s, rfl⟩ := ktkT_of hsz
  change s 0 = _ at h0
  change s 1 = _ at h1
  change s 2 = _ at h2
  clear hsz
  simp only [ktkT, h0, h1, h2]
  clear h0 h1 h2
  rw [Frame.finish_at]
  simp only [ktko1, Code.opsOf, ktkr1, Code.piece, ktkBody, Try.f78, Option.getD_some, List.size_toArray, List.length_cons, List.length_nil, Nat.reduceAdd, Nat.zero_add, List.range, List.range.loop]
  walk_nrm
  refine ogE ?_
  rw [ktks3_eq]
  refine ogS ?_
  rw [ktkr2_eq]
  refine ogR ?_
  simp only [ktko2, Code.opsOf, ktkr2, Code.piece, ktkBody, Try.f78, Option.getD_some, List.size_toArray, List.length_cons, List.length_nil, Nat.reduceAdd, Nat.zero_add, List.range, List.range.loop]
  (refine oW fun dd K hK => ?_; go_simp; refine qT hK ?_; clear hK K)
  refine oc callable76 #[.pointer (some ⟨kb, hx, none⟩)] ?_
  refine own_ldU hc rfl ?_
  rw [Frame.finish_at]
  walk_nrm
  (refine oW fun dd K hK => ?_; go_simp; refine qT hK ?_; clear hK K)
  refine ogE ?_
  rw [ktks4_eq]
  refine ogS ?_
  rw [ktkr3_eq]
  refine ogR ?_
  simp only [ktko3, Code.opsOf, ktkr3, Code.piece, ktkBody, Try.f78, Option.getD_some, List.size_toArray, List.length_cons, List.length_nil, Nat.reduceAdd, Nat.zero_add, List.range, List.range.loop]
  (refine oW fun dd K hK => ?_; go_simp; refine qT hK ?_; clear hK K)
  refine oc callable77 #[.int .u64 (pk (n, t))] ?_
  refine own_of hn ht ?_
  rw [Frame.finish_at]
  walk_nrm
  (refine oW fun dd K hK => ?_; go_simp; refine qT hK ?_; clear hK K)
  refine ogE ?_
  rw [ktks5_eq]
  refine ogS ?_
  rw [ktks6_eq]
  refine ogS ?_
  rw [ktkr4_eq]
  refine ogR ?_
  simp only [ktko4, Code.opsOf, ktkr4, Code.piece, ktkBody, Try.f78, Option.getD_some, List.size_toArray, List.length_cons, List.length_nil, Nat.reduceAdd, Nat.zero_add, List.range, List.range.loop]
  (refine oW fun dd K hK => ?_; go_simp; refine qT hK ?_; clear hK K)
  (refine oW fun dd K hK => ?_; go_simp; refine qT hK ?_; clear hK K)
  refine ogE ?_
  rw [ktkc18_eq]
  refine ogF ?_
  simp only [Bool.false_eq_true, if_false]
  refine ogK ?_
  rw [ktks8_eq]
  refine ogS ?_
  rw [ktkr6_eq]
  refine ogR ?_
  simp only [ktko6, Code.opsOf, ktkr6, Code.piece, ktkBody, Try.f78, Option.getD_some, List.size_toArray, List.length_cons, List.length_nil, Nat.reduceAdd, Nat.zero_add, List.range, List.range.loop]
  (refine oW fun dd K hK => ?_; go_simp; refine qT hK ?_; clear hK K)
  refine oc callable79 #[sv] ?_
  refine h _ ?_
  exact ⟨rfl, rfl, rfl, rfl, rfl, rfl, trivial⟩
set_option maxRecDepth 100000 in
set_option maxHeartbeats 2000000 in
theorem tk_2 {sv : Value} {kb hx : Nat} {nb m i : Nat} {t to : Int} (hi : i < m) (hs : KH kb nb m w) (hc : w.cell? ⟨nb, i * 2, none⟩ = some (.int .i64 to)) {A : Array Value} (hA : Slots 37 A [(0, .pointer (some ⟨kb, 0, none⟩)), (1, sv), (2, .pointer (some ⟨kb, hx, none⟩)), (8, .int .u64 (pk ((i : Nat), t))), (9, .int .i64 (i : Nat))]) {cs : List Frame} {main : Bool} {Stop : Goroutine → World → Prop}
    (h : ∀ A, Slots 37 A [(0, .pointer (some ⟨kb, 0, none⟩)), (1, sv), (2, .pointer (some ⟨kb, hx, none⟩)), (8, .int .u64 (pk ((i : Nat), t))), (9, .int .i64 (i : Nat)), (10, .int .i64 to)] → Own Try.prog main F Stop (G (Frame.enter Try.prog 79 #[sv] .normal) (((Go.Conc.base 78).at ⟨A, []⟩ [.inRegion ktko8 [1], .code ktks11, .inBlock 1, .inLoop ktkb1, .inBlock 0]) :: cs)) w) :
    Own Try.prog main F Stop (G (((Go.Conc.base 78).at ⟨A, []⟩ [.inRegion ktko6 [1], .code ktks9, .inBlock 1, .inLoop ktkb1, .inBlock 0]).finish (.tuple #[])) (cs)) w := by
  obtain ⟨hsz, h0, h1, h2, h8, h9, _⟩ := hA
  obtain ⟨s, rfl⟩ := ktkT_of hsz
  change s 0 = _ at h0
  change s 1 = _ at h1
  change s 2 = _ at h2
  change s 8 = _ at h8
  change s 9 = _ at h9
  clear hsz
  simp only [ktkT, h0, h1, h2, h8, h9]
  clear h0 h1 h2 h8 h9
  have c2 := hs.c2
  rw [Frame.finish_at]
  simp only [ktko6, Code.opsOf, ktkr6, Code.piece, ktkBody, Try.f78, Option.getD_some, List.size_toArray, List.length_cons, List.length_nil, Nat.reduceAdd, Nat.zero_add, List.range, List.range.loop]
  walk_nrm
  refine ogE ?_
  rw [ktks9_eq]
  refine ogS ?_
  rw [ktkr7_eq]
  refine ogR ?_
  simp only [ktko7, Code.opsOf, ktkr7, Code.piece, ktkBody, Try.f78, Option.getD_some, List.size_toArray, List.length_cons, List.length_nil, Nat.reduceAdd, Nat.zero_add, List.range, List.range.loop]
  (refine oW fun dd K hK => ?_; go_simp; refine qT hK ?_; clear hK K)
  (refine oW fun dd K hK => ?_; go_simp; refine qT hK ?_; clear hK K)
  (refine oW fun dd K hK => ?_; go_simp; refine qT hK ?_; clear hK K)
  (refine oW fun dd K hK => ?_; go_simp; refine qL hK ?_; clear hK K)
  (refine oW fun dd K hK => ?_; go_simp; refine qT hK ?_; clear hK K)
  (refine oW fun dd K hK => ?_; go_simp; refine qX hK ?_; clear hK K)
  (refine oW fun dd K hK => ?_; go_simp; refine qT hK ?_; clear hK K)
  refine oc callable54 #[.pointer (some ⟨nb, i * 2, none⟩)] ?_
  refine own_ldI hc rfl ?_
  rw [Frame.finish_at]
  walk_nrm
  (refine oW fun dd K hK => ?_; go_simp; refine qT hK ?_; clear hK K)
  refine ogE ?_
  rw [ktks10_eq]
  refine ogS ?_
  rw [ktkr8_eq]
  refine ogR ?_
  simp only [ktko8, Code.opsOf, ktkr8, Code.piece, ktkBody, Try.f78, Option.getD_some, List.size_toArray, List.length_cons, List.length_nil, Nat.reduceAdd, Nat.zero_add, List.range, List.range.loop]
  (refine oW fun dd K hK => ?_; go_simp; refine qT hK ?_; clear hK K)
  refine oc callable79 #[sv] ?_
  refine h _ ?_
  exact ⟨rfl, rfl, rfl, rfl, rfl, rfl, rfl, trivial⟩
set_option maxRecDepth 100000 in
set_option maxHeartbeats 2000000 in
theorem tk_3a {sv : Value} {kb hx : Nat} {tg : Bool} {n t to cv : Int} (hv : (cv == pk (n, t)) = true) (hk : w.cell? ⟨kb, 3, none⟩ = some (.bool tg)) (hn : -1 ≤ n ∧ n < 65536) (ht : 0 ≤ t ∧ t < 2147483648) (hto : -1 ≤ to ∧ to < 65536) (hc : w.cell? ⟨kb, hx, none⟩ = some (.int .u64 cv)) (hz : w.frozen? ⟨kb, hx, none⟩ = false) (hnh : ¬ held F ⟨kb, hx, none⟩) {A : Array Value} (hA : Slots 37 A [(0, .pointer (some ⟨kb, 0, none⟩)), (1, sv), (2, .pointer (some ⟨kb, hx, none⟩)), (8, .int .u64 (pk (n, t))), (9, .int .i64 n), (10, .int .i64 to)]) {c : Frame} {cs : List Frame} {main : Bool} {Stop : Goroutine → World → Prop}
    (h : Own Try.prog main F Stop (G (c.finish (.tuple #[.int .i64 n, .bool true])) cs) (w.setCell ⟨kb, hx, none⟩ (.int .u64 (pk (to, tagOf tg t))))) :
    Own Try.prog main F Stop (G (((Go.Conc.base 78).at ⟨A, []⟩ [.inRegion ktko8 [1], .code ktks11, .inBlock 1, .inLoop ktkb1, .inBlock 0]).finish (.tuple #[])) (c :: cs)) w := by
  obtain ⟨hsz, h0, h1, h2, h8, h9, h10, _⟩ := hA
  obtain ⟨s, rfl⟩ := ktkT_of hsz
  change s 0 = _ at h0
  change s 1 = _ at h1
  change s 2 = _ at h2
  change s 8 = _ at h8
  change s 9 = _ at h9
  change s 10 = _ at h10
  clear hsz
  simp only [ktkT, h0, h1, h2, h8, h9, h10]
  clear h0 h1 h2 h8 h9 h10
  rw [Frame.finish_at]
  simp only [ktko8, Code.opsOf, ktkr8, Code.piece, ktkBody, Try.f78, Option.getD_some, List.size_toArray, List.length_cons, List.length_nil, Nat.reduceAdd, Nat.zero_add, List.range, List.range.loop]
  walk_nrm
  refine ogE ?_
  rw [ktks11_eq]
  refine ogS ?_
  rw [ktkr9_eq]
  refine ogR ?_
  simp only [ktko9, Code.opsOf, ktkr9, Code.piece, ktkBody, Try.f78, Option.getD_some, List.size_toArray, List.length_cons, List.length_nil, Nat.reduceAdd, Nat.zero_add, List.range, List.range.loop]
  (refine oW fun dd K hK => ?_; go_simp; refine qT hK ?_; clear hK K)
  (refine oW fun dd K hK => ?_; go_simp; refine qT hK ?_; clear hK K)
  (refine oW fun dd K hK => ?_; go_simp; refine qT hK ?_; clear hK K)
  (refine oW fun dd K hK => ?_; go_simp; refine qT hK ?_; clear hK K)
  refine oc callable98 #[.pointer (some ⟨kb, 0, none⟩), .pointer (some ⟨kb, hx, none⟩), .int .u64 (pk (n, t)), .int .i64 to] ?_
  refine own_turn (eq := true) hv hk hn ht hto hc rfl hz hnh ?_
  rw [Frame.finish_at]
  walk_nrm
  simp only [if_true]
  refine ogE ?_
  rw [ktkc35_eq]
  refine ogT ?_
  simp only [if_true]
  rw [ktks12_eq]
  refine ogS ?_
  rw [ktkr10_eq]
  refine ogR ?_
  simp only [ktko10, Code.opsOf, ktkr10, Code.piece, ktkBody, Try.f78, Option.getD_some, List.size_toArray, List.length_cons, List.length_nil, Nat.reduceAdd, Nat.zero_add, List.range, List.range.loop]
  (refine oW fun dd K hK => ?_; go_simp; refine qT hK ?_; clear hK K)
  (refine oW fun dd K hK => ?_; go_simp; refine qT hK ?_; clear hK K)
  (refine oW fun dd K hK => ?_; go_simp; refine qT hK ?_; clear hK K)
  refine ogE ?_
  refine ogX ?_
  refine own_go rfl (fun d => stepG_leave (fn := Try.f78) (v := .tuple #[.int .i64 n, .bool true]) rfl rfl Try.func78 (by simp [results, Try.f78]) (by simp [results, Try.f78, go_sem])) ?_
  exact h
set_option maxRecDepth 100000 in
set_option maxHeartbeats 2000000 in
theorem tk_3b {sv : Value} {kb hx : Nat} {tg : Bool} {n t to cv : Int} (hv : (cv == pk (n, t)) = false) (hk : w.cell? ⟨kb, 3, none⟩ = some (.bool tg)) (hn : -1 ≤ n ∧ n < 65536) (ht : 0 ≤ t ∧ t < 2147483648) (hto : -1 ≤ to ∧ to < 65536) (hc : w.cell? ⟨kb, hx, none⟩ = some (.int .u64 cv)) (hz : w.frozen? ⟨kb, hx, none⟩ = false) (hnh : ¬ held F ⟨kb, hx, none⟩) {A : Array Value} (hA : Slots 37 A [(0, .pointer (some ⟨kb, 0, none⟩)), (1, sv), (2, .pointer (some ⟨kb, hx, none⟩)), (8, .int .u64 (pk (n, t))), (9, .int .i64 n), (10, .int .i64 to)]) {cs : List Frame} {main : Bool} {Stop : Goroutine → World → Prop}
    (h : ∀ A, Slots 37 A [(0, .pointer (some ⟨kb, 0, none⟩)), (1, sv), (2, .pointer (some ⟨kb, hx, none⟩))] → Own Try.prog main F Stop (G (Frame.enter Try.prog 79 #[sv] .normal) (((Go.Conc.base 78).at ⟨A, []⟩ [.inRegion ktko1 [1], .code ktks3, .inBlock 1, .inLoop ktkb1, .inBlock 0]) :: cs)) w) :
    Own Try.prog main F Stop (G (((Go.Conc.base 78).at ⟨A, []⟩ [.inRegion ktko8 [1], .code ktks11, .inBlock 1, .inLoop ktkb1, .inBlock 0]).finish (.tuple #[])) (cs)) w := by
  obtain ⟨hsz, h0, h1, h2, h8, h9, h10, _⟩ := hA
  obtain ⟨s, rfl⟩ := ktkT_of hsz
  change s 0 = _ at h0
  change s 1 = _ at h1
  change s 2 = _ at h2
  change s 8 = _ at h8
  change s 9 = _ at h9
  change s 10 = _ at h10
  clear hsz
  simp only [ktkT, h0, h1, h2, h8, h9, h10]
  clear h0 h1 h2 h8 h9 h10
  rw [Frame.finish_at]
  simp only [ktko8, Code.opsOf, ktkr8, Code.piece, ktkBody, Try.f78, Option.getD_some, List.size_toArray, List.length_cons, List.length_nil, Nat.reduceAdd, Nat.zero_add, List.range, List.range.loop]
  walk_nrm
  refine ogE ?_
  rw [ktks11_eq]
  refine ogS ?_
  rw [ktkr9_eq]
  refine ogR ?_
  simp only [ktko9, Code.opsOf, ktkr9, Code.piece, ktkBody, Try.f78, Option.getD_some, List.size_toArray, List.length_cons, List.length_nil, Nat.reduceAdd, Nat.zero_add, List.range, List.range.loop]
  (refine oW fun dd K hK => ?_; go_simp; refine qT hK ?_; clear hK K)
  (refine oW fun dd K hK => ?_; go_simp; refine qT hK ?_; clear hK K)
  (refine oW fun dd K hK => ?_; go_simp; refine qT hK ?_; clear hK K)
  (refine oW fun dd K hK => ?_; go_simp; refine qT hK ?_; clear hK K)
  refine oc callable98 #[.pointer (some ⟨kb, 0, none⟩), .pointer (some ⟨kb, hx, none⟩), .int .u64 (pk (n, t)), .int .i64 to] ?_
  refine own_turn (eq := false) hv hk hn ht hto hc rfl hz hnh ?_
  rw [Frame.finish_at]
  walk_nrm
  simp only [Bool.false_eq_true, if_false]
  refine ogE ?_
  rw [ktkc35_eq]
  refine ogF ?_
  simp only [Bool.false_eq_true, if_false]
  refine ogK ?_
  refine ogI ?_
  refine ogL ?_
  rw [ktkb1_eq]
  refine ogB ?_
  rw [ktks2_eq]
  refine ogS ?_
  rw [ktkr1_eq]
  refine ogR ?_
  simp only [ktko1, Code.opsOf, ktkr1, Code.piece, ktkBody, Try.f78, Option.getD_some, List.size_toArray, List.length_cons, List.length_nil, Nat.reduceAdd, Nat.zero_add, List.range, List.range.loop]
  (refine oW fun dd K hK => ?_; go_simp; refine qT hK ?_; clear hK K)
  refine oc callable79 #[sv] ?_
  refine h _ ?_
  exact ⟨rfl, rfl, rfl, rfl, trivial⟩
noncomputable def kgvBody : Code := Try.f80.body.getD .skip
noncomputable def kgvb0 : Code := Code.piece [] kgvBody
noncomputable def kgvl0 : Code := Code.piece [true] kgvBody
noncomputable def kgvb1 : Code := Code.piece [true, true] kgvBody
noncomputable def kgvs1 : Code := Code.piece [true, true, true] kgvBody
noncomputable def kgvr0 : Code := Code.piece [true, true, true, true] kgvBody
noncomputable def kgvo0 : Array Oper := Code.opsOf kgvr0
noncomputable def kgvs2 : Code := Code.piece [true, true, true, false] kgvBody
noncomputable def kgvr1 : Code := Code.piece [true, true, true, false, true] kgvBody
noncomputable def kgvo1 : Array Oper := Code.opsOf kgvr1
noncomputable def kgvs3 : Code := Code.piece [true, true, true, false, false] kgvBody
noncomputable def kgvr2 : Code := Code.piece [true, true, true, false, false, true] kgvBody
noncomputable def kgvo2 : Array Oper := Code.opsOf kgvr2
noncomputable def kgvs4 : Code := Code.piece [true, true, true, false, false, false] kgvBody
noncomputable def kgvr3 : Code := Code.piece [true, true, true, false, false, false, true] kgvBody
noncomputable def kgvo3 : Array Oper := Code.opsOf kgvr3
noncomputable def kgvs5 : Code := Code.piece [true, true, true, false, false, false, false] kgvBody
noncomputable def kgvr4 : Code := Code.piece [true, true, true, false, false, false, false, true] kgvBody
noncomputable def kgvo4 : Array Oper := Code.opsOf kgvr4
noncomputable def kgvs6 : Code := Code.piece [true, true, true, false, false, false, false, false] kgvBody
noncomputable def kgvr5 : Code := Code.piece [true, true, true, false, false, false, false, false, true] kgvBody
noncomputable def kgvo5 : Array Oper := Code.opsOf kgvr5
noncomputable def kgvc31 : Code := Code.piece [true, true, true, false, false, false, false, false, false] kgvBody
theorem kgvb0_eq : kgvb0 = .block 0 kgvl0 := by kernel_rfl
theorem kgvl0_eq : kgvl0 = .loop kgvb1 := by kernel_rfl
theorem kgvb1_eq : kgvb1 = .block 1 kgvs1 := by kernel_rfl
theorem kgvs1_eq : kgvs1 = .seq kgvr0 kgvs2 := by kernel_rfl
theorem kgvr0_eq : kgvr0 = .region 0 kgvo0 false := by kernel_rfl
theorem kgvs2_eq : kgvs2 = .seq kgvr1 kgvs3 := by kernel_rfl
theorem kgvr1_eq : kgvr1 = .region 1 kgvo1 false := by kernel_rfl
theorem kgvs3_eq : kgvs3 = .seq kgvr2 kgvs4 := by kernel_rfl
theorem kgvr2_eq : kgvr2 = .region 2 kgvo2 false := by kernel_rfl
theorem kgvs4_eq : kgvs4 = .seq kgvr3 kgvs5 := by kernel_rfl
theorem kgvr3_eq : kgvr3 = .region 3 kgvo3 true := by kernel_rfl
theorem kgvs5_eq : kgvs5 = .seq kgvr4 kgvs6 := by kernel_rfl
theorem kgvr4_eq : kgvr4 = .region 4 kgvo4 false := by kernel_rfl
theorem kgvs6_eq : kgvs6 = .seq kgvr5 kgvc31 := by kernel_rfl
theorem kgvr5_eq : kgvr5 = .region 5 kgvo5 false := by kernel_rfl
theorem kgvc31_eq : kgvc31 = .cond (.tmp 31) .ret .skip := by kernel_rfl
theorem enter_kgv (args : Array Value) : Frame.enter Try.prog 80 args .normal = (Go.Conc.base 80).at { tmps := args ++ Array.replicate (32 - args.size) undef, defers := [] } [.code kgvb0] := enter_at args Try.func80 rfl
theorem callable80 : Callable 80 := callable Try.func80 rfl rfl
def kgvT (s : Nat → Value) : Array Value := #[s 0, s 1, s 2, s 3, s 4, s 5, s 6, s 7, s 8, s 9, s 10, s 11, s 12, s 13, s 14, s 15, s 16, s 17, s 18, s 19, s 20, s 21, s 22, s 23, s 24, s 25, s 26, s 27, s 28, s 29, s 30, s 31]
theorem kgvT_of {A : Array Value} (h : A.size = 32) : ∃ s, A = kgvT s := by
  obtain ⟨s, hs, _⟩ := arr_lit A h
  exact ⟨s, hs⟩
set_option maxRecDepth 100000 in
set_option maxHeartbeats 2000000 in
theorem gv_0 {sv : Value} {kb hx : Nat} {i : Nat} {cs : List Frame} {main : Bool} {Stop : Goroutine → World → Prop}
    (h : ∀ A, Slots 32 A [(0, .pointer (some ⟨kb, 0, none⟩)), (1, sv), (2, .pointer (some ⟨kb, hx, none⟩)), (3, .int .i64 (i : Nat))] → Own Try.prog main F Stop (G (Frame.enter Try.prog 79 #[sv] .normal) (((Go.Conc.base 80).at ⟨A, []⟩ [.inRegion kgvo0 [1], .code kgvs2, .inBlock 1, .inLoop kgvb1, .inBlock 0]) :: cs)) w) :
    Own Try.prog main F Stop (G (Frame.enter Try.prog 80 #[.pointer (some ⟨kb, 0, none⟩), sv, .pointer (some ⟨kb, hx, none⟩), .int .i64 (i : Nat)] .normal) cs) w := by
  rw [enter_kgv]
  walk_nrm
  rw [kgvb0_eq]
  refine ogB ?_
  rw [kgvl0_eq]
  refine ogP ?_
  rw [kgvb1_eq]
  refine ogB ?_
  rw [kgvs1_eq]
  refine ogS ?_
  rw [kgvr0_eq]
  refine ogR ?_
  simp only [kgvo0, Code.opsOf, kgvr0, Code.piece, kgvBody, Try.f80, Option.getD_some, List.size_toArray, List.length_cons, List.length_nil, Nat.reduceAdd, Nat.zero_add, List.range, List.range.loop]
  (refine oW fun dd K hK => ?_; go_simp; refine qT hK ?_; clear hK K)
  refine oc callable79 #[sv] ?_
  refine h _ ?_
  exact ⟨rfl, rfl, rfl, rfl, rfl, trivial⟩
set_option maxRecDepth 100000 in
set_option maxHeartbeats 2000000 in
theorem gv_1 {sv : Value} {kb hx : Nat} {i : Nat} {n t : Int} (hc : w.cell? ⟨kb, hx, none⟩ = some (.int .u64 (pk (n, t)))) {A : Array Value} (hA : Slots 32 A [(0, .pointer (some ⟨kb, 0, none⟩)), (1, sv), (2, .pointer (some ⟨kb, hx, none⟩)), (3, .int .i64 (i : Nat))]) {cs : List Frame} {main : Bool} {Stop : Goroutine → World → Prop}
    (h : ∀ A, Slots 32 A [(0, .pointer (some ⟨kb, 0, none⟩)), (1, sv), (2, .pointer (some ⟨kb, hx, none⟩)), (3, .int .i64 (i : Nat)), (8, .int .u64 (pk (n, t)))] → Own Try.prog main F Stop (G (Frame.enter Try.prog 79 #[sv] .normal) (((Go.Conc.base 80).at ⟨A, []⟩ [.inRegion kgvo2 [1], .code kgvs4, .inBlock 1, .inLoop kgvb1, .inBlock 0]) :: cs)) w) :
    Own Try.prog main F Stop (G (((Go.Conc.base 80).at ⟨A, []⟩ [.inRegion kgvo0 [1], .code kgvs2, .inBlock 1, .inLoop kgvb1, .inBlock 0]).finish (.tuple #[])) (cs)) w := by
  obtain ⟨hsz, h0, h1, h2, h3, _⟩ := hA
  obtain ⟨s, rfl⟩ := kgvT_of hsz
  change s 0 = _ at h0
  change s 1 = _ at h1
  change s 2 = _ at h2
  change s 3 = _ at h3
  clear hsz
  simp only [kgvT, h0, h1, h2, h3]
  clear h0 h1 h2 h3
  rw [Frame.finish_at]
  simp only [kgvo0, Code.opsOf, kgvr0, Code.piece, kgvBody, Try.f80, Option.getD_some, List.size_toArray, List.length_cons, List.length_nil, Nat.reduceAdd, Nat.zero_add, List.range, List.range.loop]
  walk_nrm
  refine ogE ?_
  rw [kgvs2_eq]
  refine ogS ?_
  rw [kgvr1_eq]
  refine ogR ?_
  simp only [kgvo1, Code.opsOf, kgvr1, Code.piece, kgvBody, Try.f80, Option.getD_some, List.size_toArray, List.length_cons, List.length_nil, Nat.reduceAdd, Nat.zero_add, List.range, List.range.loop]
  (refine oW fun dd K hK => ?_; go_simp; refine qT hK ?_; clear hK K)
  refine oc callable76 #[.pointer (some ⟨kb, hx, none⟩)] ?_
  refine own_ldU hc rfl ?_
  rw [Frame.finish_at]
  walk_nrm
  (refine oW fun dd K hK => ?_; go_simp; refine qT hK ?_; clear hK K)
  refine ogE ?_
  rw [kgvs3_eq]
  refine ogS ?_
  rw [kgvr2_eq]
  refine ogR ?_
  simp only [kgvo2, Code.opsOf, kgvr2, Code.piece, kgvBody, Try.f80, Option.getD_some, List.size_toArray, List.length_cons, List.length_nil, Nat.reduceAdd, Nat.zero_add, List.range, List.range.loop]
  (refine oW fun dd K hK => ?_; go_simp; refine qT hK ?_; clear hK K)
  refine oc callable79 #[sv] ?_
  refine h _ ?_
  exact ⟨rfl, rfl, rfl, rfl, rfl, rfl, trivial⟩
set_option maxRecDepth 100000 in
set_option maxHeartbeats 2000000 in
theorem gv_2 {sv : Value} {kb hx : Nat} {nb m i : Nat} {n t : Int} {v0 : Value} (hn : -1 ≤ n ∧ n < 65536) (ht : 0 ≤ t ∧ t < 2147483648) (hi : i < m) (hs : KH kb nb m w) (hc : w.cell? ⟨nb, i * 2, none⟩ = some v0) (hz : w.frozen? ⟨nb, i * 2, none⟩ = false) (hnh : ¬ held F ⟨nb, i * 2, none⟩) {A : Array Value} (hA : Slots 32 A [(0, .pointer (some ⟨kb, 0, none⟩)), (1, sv), (2, .pointer (some ⟨kb, hx, none⟩)), (3, .int .i64 (i : Nat)), (8, .int .u64 (pk (n, t)))]) {cs : List Frame} {main : Bool} {Stop : Goroutine → World → Prop}
    (h : ∀ A, Slots 32 A [(0, .pointer (some ⟨kb, 0, none⟩)), (1, sv), (2, .pointer (some ⟨kb, hx, none⟩)), (3, .int .i64 (i : Nat)), (8, .int .u64 (pk (n, t)))] → Own Try.prog main F Stop (G (Frame.enter Try.prog 79 #[sv] .normal) (((Go.Conc.base 80).at ⟨A, []⟩ [.inRegion kgvo4 [1], .code kgvs6, .inBlock 1, .inLoop kgvb1, .inBlock 0]) :: cs)) (w.setCell ⟨nb, i * 2, none⟩ (.int .i64 n))) :
    Own Try.prog main F Stop (G (((Go.Conc.base 80).at ⟨A, []⟩ [.inRegion kgvo2 [1], .code kgvs4, .inBlock 1, .inLoop kgvb1, .inBlock 0]).finish (.tuple #[])) (cs)) w := by
  obtain ⟨hsz, h0, h1, h2, h3, h8, _⟩ := hA
  obtain ⟨s, rfl⟩ := kgvT_of hsz
  change s 0 = _ at h0
  change s 1 = _ at h1
  change s 2 = _ at h2
  change s 3 = _ at h3
  change s 8 = _ at h8
  clear hsz
  simp only [kgvT, h0, h1, h2, h3, h8]
  clear h0 h1 h2 h3 h8
  have hS : ∀ w d, KH kb nb m w → KH kb nb m (World.at w d) := fun w d h => h.at d
  rw [Frame.finish_at]
  simp only [kgvo2, Code.opsOf, kgvr2, Code.piece, kgvBody, Try.f80, Option.getD_some, List.size_toArray, List.length_cons, List.length_nil, Nat.reduceAdd, Nat.zero_add, List.range, List.range.loop]
  walk_nrm
  refine ogE ?_
  rw [kgvs4_eq]
  refine ogS ?_
  rw [kgvr3_eq]
  refine own_drawnC (KH kb nb m) (last := 9) run_mixed (ll_of (by kernel_rfl)) (by decide) ?_
  simp only [kgvo3, Code.opsOf, kgvr3, Code.piece, kgvBody, Try.f80, Option.getD_some, List.size_toArray, List.length_cons, List.length_nil, Nat.reduceAdd, Nat.zero_add, List.range, List.range.loop]
  refine anyC_take hS (fun _ _ d h => h.at d) (i := 0) (v := .pointer (some ⟨kb, 0, none⟩)) hs rfl rfl (by kernel_rfl) (by kernel_rfl) (by kernel_rfl) (fun u hu => .inl ⟨rfl, fun d => ⟨by simp [go_sem, execOp, Act.eval], fun e he => by have hm := mem_listed he; simp [go_sem, execOp, Act.eval] at hm⟩⟩) ?_
  walk_nrm
  refine anyC_take hS (fun _ _ d h => h.at d) (i := 1) (v := .pointer (some ⟨kb, 0, none⟩)) hs rfl rfl (by kernel_rfl) (by kernel_rfl) (by kernel_rfl) (fun u hu => .inl ⟨rfl, fun d => ⟨by simp [go_sem, execOp, Act.eval], fun e he => by have hm := mem_listed he; simp [go_sem, execOp, Act.eval] at hm⟩⟩) ?_
  walk_nrm
  refine anyC_take hS (fun _ _ d h => h.at d) (i := 2) (v := .pointer (some ⟨kb, 2, none⟩)) hs rfl rfl (by kernel_rfl) (by kernel_rfl) (by kernel_rfl) (fun u hu => .inl ⟨rfl, fun d => ⟨by simp [go_sem, execOp, Act.eval], fun e he => by have hm := mem_listed he; simp [go_sem, execOp, Act.eval] at hm⟩⟩) ?_
  walk_nrm
  refine anyC_take hS (fun _ _ d h => h.at d) (i := 3) (v := .slice (some ⟨nb, 0, none⟩) m m) hs rfl rfl (by kernel_rfl) (by kernel_rfl) (by kernel_rfl) (fun u hu => .inl ⟨rfl, fun d => ⟨by simp [go_sem, execOp, Act.eval, hu.c2], fun e he => by have hm := mem_listed he; simp [go_sem, execOp, Act.eval, hu.c2] at hm; subst hm; exact evT_read _ _⟩⟩) ?_
  walk_nrm
  refine anyC_take hS (fun _ _ d h => h.at d) (i := 4) (v := .int .i64 (i : Nat)) hs rfl rfl (by kernel_rfl) (by kernel_rfl) (by kernel_rfl) (fun u hu => .inl ⟨rfl, fun d => ⟨by simp [go_sem, execOp, Act.eval], fun e he => by have hm := mem_listed he; simp [go_sem, execOp, Act.eval] at hm⟩⟩) ?_
  walk_nrm
  refine anyC_take hS (fun _ _ d h => h.at d) (i := 5) (v := .pointer (some ⟨nb, i * 2, none⟩)) hs rfl rfl (by kernel_rfl) (by kernel_rfl) (by kernel_rfl) (fun u hu => .inl ⟨rfl, fun d => ⟨by simp [go_sem, execOp, Act.eval, hi], fun e he => by have hm := mem_listed he; simp [go_sem, execOp, Act.eval, hi] at hm⟩⟩) ?_
  walk_nrm
  refine anyC_take hS (fun _ _ d h => h.at d) (i := 6) (v := .pointer (some ⟨nb, i * 2, none⟩)) hs rfl rfl (by kernel_rfl) (by kernel_rfl) (by kernel_rfl) (fun u hu => .inl ⟨rfl, fun d => ⟨by simp [go_sem, execOp, Act.eval], fun e he => by have hm := mem_listed he; simp [go_sem, execOp, Act.eval] at hm⟩⟩) ?_
  walk_nrm
  refine anyC_take hS (fun _ _ d h => h.at d) (i := 7) (v := .int .u64 (pk (n, t))) hs rfl rfl (by kernel_rfl) (by kernel_rfl) (by kernel_rfl) (fun u hu => .inl ⟨rfl, fun d => ⟨by simp [go_sem, execOp, Act.eval], fun e he => by have hm := mem_listed he; simp [go_sem, execOp, Act.eval] at hm⟩⟩) ?_
  walk_nrm
  refine anyC_all (r := [8]) (by kernel_rfl) (by kernel_rfl) (fun j1 hj1 hjl => ?_)
  obtain rfl : j1 = 8 := by simpa using hj1
  refine ⟨_, rfl, .inr (.inr ⟨rfl, 77, #[.int .u64 (pk (n, t))], fun v w' => v = .int .i64 n ∧ w = w', fun w => by simp [execOp, Act.eval, resolve, invoke, Deferred.ofValue, callable77.run], fun w => by simp [execOp, Act.eval, resolve, invoke, Deferred.ofValue, callable77.run, callable77.quiet], fun c cs Stop k => own_of hn ht (k _ _ ⟨rfl, rfl⟩), ?_⟩)⟩
  rintro v w' ⟨rfl, rfl⟩
  refine ⟨hs, ?_⟩
  walk_nrm
  refine anyC_end (by kernel_rfl) ?_ _
  refine oc callable52 #[.pointer (some ⟨nb, i * 2, none⟩), .int .i64 n] ?_
  refine own_stI hc rfl hz hnh ?_
  rw [Frame.finish_at]
  walk_nrm
  refine ogE ?_
  rw [kgvs5_eq]
  refine ogS ?_
  rw [kgvr4_eq]
  refine ogR ?_
  simp only [kgvo4, Code.opsOf, kgvr4, Code.piece, kgvBody, Try.f80, Option.getD_some, List.size_toArray, List.length_cons, List.length_nil, Nat.reduceAdd, Nat.zero_add, List.range, List.range.loop]
  (refine oW fun dd K hK => ?_; go_simp; refine qT hK ?_; clear hK K)
  refine oc callable79 #[sv] ?_
  refine h _ ?_
  exact ⟨rfl, rfl, rfl, rfl, rfl, rfl, trivial⟩
set_option maxRecDepth 100000 in
set_option maxHeartbeats 2000000 in
theorem gv_3a {sv : Value} {kb hx : Nat} {tg : Bool} {i : Nat} {n t cv : Int} (hv : (cv == pk (n, t)) = true) (hk : w.cell? ⟨kb, 3, none⟩ = some (.bool tg)) (hn : -1 ≤ n ∧ n < 65536) (ht : 0 ≤ t ∧ t < 2147483648) (hto : (-1 : Int) ≤ (i : Nat) ∧ ((i : Nat) : Int) < 65536) (hc : w.cell? ⟨kb, hx, none⟩ = some (.int .u64 cv)) (hz : w.frozen? ⟨kb, hx, none⟩ = false) (hnh : ¬ held F ⟨kb, hx, none⟩) {A : Array Value} (hA : Slots 32 A [(0, .pointer (some ⟨kb, 0, none⟩)), (1, sv), (2, .pointer (some ⟨kb, hx, none⟩)), (3, .int .i64 (i : Nat)), (8, .int .u64 (pk (n, t)))]) {c : Frame} {cs : List Frame} {main : Bool} {Stop : Goroutine → World → Prop}
    (h : Own Try.prog main F Stop (G (c.finish (.tuple #[])) cs) (w.setCell ⟨kb, hx, none⟩ (.int .u64 (pk ((i : Nat), tagOf tg t))))) :
    Own Try.prog main F Stop (G (((Go.Conc.base 80).at ⟨A, []⟩ [.inRegion kgvo4 [1], .code kgvs6, .inBlock 1, .inLoop kgvb1, .inBlock 0]).finish (.tuple #[])) (c :: cs)) w := by
  obtain ⟨hsz, h0, h1, h2, h3, h8, _⟩ := hA
  obtain ⟨s, rfl⟩ := kgvT_of hsz
  change s 0 = _ at h0
  change s 1 = _ at h1
  change s 2 = _ at h2
  change s 3 = _ at h3
  change s 8 = _ at h8
  clear hsz
  simp only [kgvT, h0, h1, h2, h3, h8]
  clear h0 h1 h2 h3 h8
  rw [Frame.finish_at]
  simp only [kgvo4, Code.opsOf, kgvr4, Code.piece, kgvBody, Try.f80, Option.getD_some, List.size_toArray, List.length_cons, List.length_nil, Nat.reduceAdd, Nat.zero_add, List.range, List.range.loop]
  walk_nrm
  refine ogE ?_
  rw [kgvs6_eq]
  refine ogS ?_
  rw [kgvr5_eq]
  refine ogR ?_
  simp only [kgvo5, Code.opsOf, kgvr5, Code.piece, kgvBody, Try.f80, Option.getD_some, List.size_toArray, List.length_cons, List.length_nil, Nat.reduceAdd, Nat.zero_add, List.range, List.range.loop]
  (refine oW fun dd K hK => ?_; go_simp; refine qT hK ?_; clear hK K)
  (refine oW fun dd K hK => ?_; go_simp; refine qT hK ?_; clear hK K)
  (refine oW fun dd K hK => ?_; go_simp; refine qT hK ?_; clear hK K)
  (refine oW fun dd K hK => ?_; go_simp; refine qT hK ?_; clear hK K)
  refine oc callable98 #[.pointer (some ⟨kb, 0, none⟩), .pointer (some ⟨kb, hx, none⟩), .int .u64 (pk (n, t)), .int .i64 (i : Nat)] ?_
  refine own_turn (eq := true) hv hk hn ht hto hc rfl hz hnh ?_
  rw [Frame.finish_at]
  walk_nrm
  simp only [if_true]
  refine ogE ?_
  rw [kgvc31_eq]
  refine ogT ?_
  simp only [if_true]
  refine ogX ?_
  refine own_go rfl (fun d => stepG_leave (fn := Try.f80) (v := .tuple #[]) rfl rfl Try.func80 (by simp [results, Try.f80]) (by simp [results, Try.f80, go_sem])) ?_
  exact h
set_option maxRecDepth 100000 in
set_option maxHeartbeats 2000000 in
theorem gv_3b {sv : Value} {kb hx : Nat} {tg : Bool} {i : Nat} {n t cv : Int} (hv : (cv == pk (n, t)) = false) (hk : w.cell? ⟨kb, 3, none⟩ = some (.bool tg)) (hn : -1 ≤ n ∧ n < 65536) (ht : 0 ≤ t ∧ t < 2147483648) (hto : (-1 : Int) ≤ (i : Nat) ∧ ((i : Nat) : Int) < 65536) (hc : w.cell? ⟨kb, hx, none⟩ = some (.int .u64 cv)) (hz : w.frozen? ⟨kb, hx, none⟩ = false) (hnh : ¬ held F ⟨kb, hx, none⟩) {A : Array Value} (hA : Slots 32 A [(0, .pointer (some ⟨kb, 0, none⟩)), (1, sv), (2, .pointer (some ⟨kb, hx, none⟩)), (3, .int .i64 (i : Nat)), (8, .int .u64 (pk (n, t)))]) {cs : List Frame} {main : Bool} {Stop : Goroutine → World → Prop}
    (h : ∀ A, Slots 32 A [(0, .pointer (some ⟨kb, 0, none⟩)), (1, sv), (2, .pointer (some ⟨kb, hx, none⟩)), (3, .int .i64 (i : Nat))] → Own Try.prog main F Stop (G (Frame.enter Try.prog 79 #[sv] .normal) (((Go.Conc.base 80).at ⟨A, []⟩ [.inRegion kgvo0 [1], .code kgvs2, .inBlock 1, .inLoop kgvb1, .inBlock 0]) :: cs)) w) :
    Own Try.prog main F Stop (G (((Go.Conc.base 80).at ⟨A, []⟩ [.inRegion kgvo4 [1], .code kgvs6, .inBlock 1, .inLoop kgvb1, .inBlock 0]).finish (.tuple #[])) (cs)) w := by
  obtain ⟨hsz, h0, h1, h2, h3, h8, _⟩ := hA
  obtain ⟨s, rfl⟩ := kgvT_of hsz
  change s 0 = _ at h0
  change s 1 = _ at h1
  change s 2 = _ at h2
  change s 3 = _ at h3
  change s 8 = _ at h8
  clear hsz
  simp only [kgvT, h0, h1, h2, h3, h8]
  clear h0 h1 h2 h3 h8
  rw [Frame.finish_at]
  simp only [kgvo4, Code.opsOf, kgvr4, Code.piece, kgvBody, Try.f80, Option.getD_some, List.size_toArray, List.length_cons, List.length_nil, Nat.reduceAdd, Nat.zero_add, List.range, List.range.loop]
  walk_nrm
  refine ogE ?_
  rw [kgvs6_eq]
  refine ogS ?_
  rw [kgvr5_eq]
  refine ogR ?_
  simp only [kgvo5, Code.opsOf, kgvr5, Code.piece, kgvBody, Try.f80, Option.getD_some, List.size_toArray, List.length_cons, List.length_nil, Nat.reduceAdd, Nat.zero_add, List.range, List.range.loop]
  (refine oW fun dd K hK => ?_; go_simp; refine qT hK ?_; clear hK K)
  (refine oW fun dd K hK => ?_; go_simp; refine qT hK ?_; clear hK K)
  (refine oW fun dd K hK => ?_; go_simp; refine qT hK ?_; clear hK K)
  (refine oW fun dd K hK => ?_; go_simp; refine qT hK ?_; clear hK K)
  refine oc callable98 #[.pointer (some ⟨kb, 0, none⟩), .pointer (some ⟨kb, hx, none⟩), .int .u64 (pk (n, t)), .int .i64 (i : Nat)] ?_
  refine own_turn (eq := false) hv hk hn ht hto hc rfl hz hnh ?_
  rw [Frame.finish_at]
  walk_nrm
  simp only [Bool.false_eq_true, if_false]
  refine ogE ?_
  rw [kgvc31_eq]
  refine ogF ?_
  simp only [Bool.false_eq_true, if_false]
  refine ogK ?_
  refine ogI ?_
  refine ogL ?_
  rw [kgvb1_eq]
  refine ogB ?_
  rw [kgvs1_eq]
  refine ogS ?_
  rw [kgvr0_eq]
  refine ogR ?_
  simp only [kgvo0, Code.opsOf, kgvr0, Code.piece, kgvBody, Try.f80, Option.getD_some, List.size_toArray, List.length_cons, List.length_nil, Nat.reduceAdd, Nat.zero_add, List.range, List.range.loop]
  (refine oW fun dd K hK => ?_; go_simp; refine qT hK ?_; clear hK K)
  refine oc callable79 #[sv] ?_
  refine h _ ?_
  exact ⟨rfl, rfl, rfl, rfl, rfl, trivial⟩
end Go.Proofs.Ytlcgkpapnpdfpaa
namespace Go.Proofs.Ytlcgkpapnpdfpaa
open Go Go.Conc Go.RowKit Go.Proofs
variable {F : Fz} {w : World}
@[go_sem] theorem eql_nilE74 (a : Addr) (w : World) (es : Array Event) : (binOp .eql 74 (.pointer (some a)) (.pointer none)).events Try.prog w es = es := by kernel_rfl
noncomputable def kpuBody : Code := Try.f45.body.getD .skip
noncomputable def kpus0 : Code := Code.piece [] kpuBody
noncomputable def kpur0 : Code := Code.piece [true] kpuBody
noncomputable def kpuo0 : Array Oper := Code.opsOf kpur0
noncomputable def kpus1 : Code := Code.piece [false] kpuBody
noncomputable def kpus2 : Code := Code.piece [false, true] kpuBody
noncomputable def kpur1 : Code := Code.piece [false, true, true] kpuBody
noncomputable def kpuo1 : Array Oper := Code.opsOf kpur1
noncomputable def kpuc10 : Code := Code.piece [false, true, false] kpuBody
noncomputable def kpus3 : Code := Code.piece [false, true, false, true] kpuBody
noncomputable def kpur2 : Code := Code.piece [false, true, false, true, true] kpuBody
noncomputable def kpuo2 : Array Oper := Code.opsOf kpur2
noncomputable def kpus4 : Code := Code.piece [false, false] kpuBody
noncomputable def kpur3 : Code := Code.piece [false, false, true] kpuBody
noncomputable def kpuo3 : Array Oper := Code.opsOf kpur3
noncomputable def kpus5 : Code := Code.piece [false, false, false] kpuBody
noncomputable def kpus6 : Code := Code.piece [false, false, false, true] kpuBody
noncomputable def kpur4 : Code := Code.piece [false, false, false, true, true] kpuBody
noncomputable def kpuo4 : Array Oper := Code.opsOf kpur4
noncomputable def kpuc21 : Code := Code.piece [false, false, false, true, false] kpuBody
noncomputable def kpus7 : Code := Code.piece [false, false, false, true, false, true] kpuBody
noncomputable def kpur5 : Code := Code.piece [false, false, false, true, false, true, true] kpuBody
noncomputable def kpuo5 : Array Oper := Code.opsOf kpur5
noncomputable def kpus8 : Code := Code.piece [false, false, false, false] kpuBody
noncomputable def kpur6 : Code := Code.piece [false, false, false, false, true] kpuBody
noncomputable def kpuo6 : Array Oper := Code.opsOf kpur6
noncomputable def kpus9 : Code := Code.piece [false, false, false, false, false] kpuBody
noncomputable def kpur7 : Code := Code.piece [false, false, false, false, false, true] kpuBody
noncomputable def kpuo7 : Array Oper := Code.opsOf kpur7
noncomputable def kpus10 : Code := Code.piece [false, false, false, false, false, false] kpuBody
noncomputable def kpur8 : Code := Code.piece [false, false, false, false, false, false, true] kpuBody
noncomputable def kpuo8 : Array Oper := Code.opsOf kpur8
noncomputable def kpus11 : Code := Code.piece [false, false, false, false, false, false, false] kpuBody
noncomputable def kpur9 : Code := Code.piece [false, false, false, false, false, false, false, true] kpuBody
noncomputable def kpuo9 : Array Oper := Code.opsOf kpur9
theorem kpus0_eq : kpus0 = .seq kpur0 kpus1 := by kernel_rfl
theorem kpur0_eq : kpur0 = .region 0 kpuo0 false := by kernel_rfl
theorem kpus1_eq : kpus1 = .seq kpus2 kpus4 := by kernel_rfl
theorem kpus2_eq : kpus2 = .seq kpur1 kpuc10 := by kernel_rfl
theorem kpur1_eq : kpur1 = .region 1 kpuo1 false := by kernel_rfl
theorem kpuc10_eq : kpuc10 = .cond (.tmp 10) kpus3 .skip := by kernel_rfl
theorem kpus3_eq : kpus3 = .seq kpur2 .ret := by kernel_rfl
theorem kpur2_eq : kpur2 = .region 2 kpuo2 false := by kernel_rfl
theorem kpus4_eq : kpus4 = .seq kpur3 kpus5 := by kernel_rfl
theorem kpur3_eq : kpur3 = .region 3 kpuo3 false := by kernel_rfl
theorem kpus5_eq : kpus5 = .seq kpus6 kpus8 := by kernel_rfl
theorem kpus6_eq : kpus6 = .seq kpur4 kpuc21 := by kernel_rfl
theorem kpur4_eq : kpur4 = .region 4 kpuo4 false := by kernel_rfl
theorem kpuc21_eq : kpuc21 = .cond (.tmp 21) kpus7 .skip := by kernel_rfl
theorem kpus7_eq : kpus7 = .seq kpur5 .ret := by kernel_rfl
theorem kpur5_eq : kpur5 = .region 5 kpuo5 false := by kernel_rfl
theorem kpus8_eq : kpus8 = .seq kpur6 kpus9 := by kernel_rfl
theorem kpur6_eq : kpur6 = .region 6 kpuo6 false := by kernel_rfl
theorem kpus9_eq : kpus9 = .seq kpur7 kpus10 := by kernel_rfl
theorem kpur7_eq : kpur7 = .region 7 kpuo7 false := by kernel_rfl
theorem kpus10_eq : kpus10 = .seq kpur8 kpus11 := by kernel_rfl
theorem kpur8_eq : kpur8 = .region 8 kpuo8 false := by kernel_rfl
theorem kpus11_eq : kpus11 = .seq kpur9 .ret := by kernel_rfl
theorem kpur9_eq : kpur9 = .region 9 kpuo9 false := by kernel_rfl
theorem enter_kpu (args : Array Value) : Frame.enter Try.prog 45 args .normal = (Go.Conc.base 45).at { tmps := args ++ Array.replicate (40 - args.size) undef, defers := [] } [.code kpus0] := enter_at args Try.func45 rfl
theorem callable45 : Callable 45 := callable Try.func45 rfl rfl
def kpuT (s : Nat → Value) : Array Value := #[s 0, s 1, s 2, s 3, s 4, s 5, s 6, s 7, s 8, s 9, s 10, s 11, s 12, s 13, s 14, s 15, s 16, s 17, s 18, s 19, s 20, s 21, s 22, s 23, s 24, s 25, s 26, s 27, s 28, s 29, s 30, s 31, s 32, s 33, s 34, s 35, s 36, s 37, s 38, s 39]
theorem kpuT_of {A : Array Value} (h : A.size = 40) : ∃ s, A = kpuT s := by
  obtain ⟨s, hs, _⟩ := arr_lit A h
  exact ⟨s, hs⟩
set_option maxRecDepth 100000 in
set_option maxHeartbeats 2000000 in
theorem pu_0 {sv : Value} {kb : Nat} {v : Int} {cs : List Frame} {main : Bool} {Stop : Goroutine → World → Prop}
    (h : ∀ A, Slots 40 A [(0, .pointer (some ⟨kb, 0, none⟩)), (1, sv), (2, .int .i64 v)] → Own Try.prog main F Stop (G (Frame.enter Try.prog 78 #[.pointer (some ⟨kb, 0, none⟩), sv, .pointer (some ⟨kb, 1, none⟩)] .normal) (((Go.Conc.base 45).at ⟨A, []⟩ [.inRegion kpuo3 [5, 6, 7, 8, 9, 10], .code kpus5]) :: cs)) w) :
    Own Try.prog main F Stop (G (Frame.enter Try.prog 45 #[.pointer (some ⟨kb, 0, none⟩), sv, .int .i64 v] .normal) cs) w := by
  rw [enter_kpu]
  walk_nrm
  rw [kpus0_eq]
  refine ogS ?_
  rw [kpur0_eq]
  refine ogR ?_
  simp only [kpuo0, Code.opsOf, kpur0, Code.piece, kpuBody, Try.f45, Option.getD_some, List.size_toArray, List.length_cons, List.length_nil, Nat.reduceAdd, Nat.zero_add, List.range, List.range.loop]
  (refine oW fun dd K hK => ?_; go_simp; refine qT hK ?_; clear hK K)
  refine ogE ?_
  rw [kpus1_eq]
  refine ogS ?_
  rw [kpus2_eq]
  refine ogS ?_
  rw [kpur1_eq]
  refine ogR ?_
  simp only [kpuo1, Code.opsOf, kpur1, Code.piece, kpuBody, Try.f45, Option.getD_some, List.size_toArray, List.length_cons, List.length_nil, Nat.reduceAdd, Nat.zero_add, List.range, List.range.loop]
  (refine oW fun dd K hK => ?_; go_simp; refine qT hK ?_; clear hK K)
  (refine oW fun dd K hK => ?_; go_simp; refine qT hK ?_; clear hK K)
  refine ogE ?_
  rw [kpuc10_eq]
  refine ogF ?_
  simp only [Bool.false_eq_true, if_false]
  refine ogK ?_
  rw [kpus4_eq]
  refine ogS ?_
  rw [kpur3_eq]
  refine ogR ?_
  simp only [kpuo3, Code.opsOf, kpur3, Code.piece, kpuBody, Try.f45, Option.getD_some, List.size_toArray, List.length_cons, List.length_nil, Nat.reduceAdd, Nat.zero_add, List.range, List.range.loop]
  (refine oW fun dd K hK => ?_; go_simp; refine qT hK ?_; clear hK K)
  (refine oW fun dd K hK => ?_; go_simp; refine qT hK ?_; clear hK K)
  (refine oW fun dd K hK => ?_; go_simp; refine qT hK ?_; clear hK K)
  (refine oW fun dd K hK => ?_; go_simp; refine qT hK ?_; clear hK K)
  (refine oW fun dd K hK => ?_; go_simp; refine qT hK ?_; clear hK K)
  refine oc callable78 #[.pointer (some ⟨kb, 0, none⟩), sv, .pointer (some ⟨kb, 1, none⟩)] ?_
  refine h _ ?_
  exact ⟨rfl, rfl, rfl, rfl, trivial⟩
set_option maxRecDepth 100000 in
set_option maxHeartbeats 2000000 in
theorem pu_1a {sv : Value} {kb : Nat} {v x : Int} {A : Array Value} (hA : Slots 40 A [(0, .pointer (some ⟨kb, 0, none⟩)), (1, sv), (2, .int .i64 v)]) {c : Frame} {cs : List Frame} {main : Bool} {Stop : Goroutine → World → Prop}
    (h : Own Try.prog main F Stop (G (c.finish (.bool false)) cs) w) :
    Own Try.prog main F Stop (G (((Go.Conc.base 45).at ⟨A, []⟩ [.inRegion kpuo3 [5, 6, 7, 8, 9, 10], .code kpus5]).finish (.tuple #[.int .i64 x, .bool false])) (c :: cs)) w := by
  obtain ⟨hsz, h0, h1, h2, _⟩ := hA
  obtain ⟨s, rfl⟩ := kpuT_of hsz
  change s 0 = _ at h0
  change s 1 = _ at h1
  change s 2 = _ at h2
  clear hsz
  simp only [kpuT, h0, h1, h2]
  clear h0 h1 h2
  rw [Frame.finish_at]
  simp only [kpuo3, Code.opsOf, kpur3, Code.piece, kpuBody, Try.f45, Option.getD_some, List.size_toArray, List.length_cons, List.length_nil, Nat.reduceAdd, Nat.zero_add, List.range, List.range.loop]
  walk_nrm
  (refine oW fun dd K hK => ?_; go_simp; refine qT hK ?_; clear hK K)
  (refine oW fun dd K hK => ?_; go_simp; refine qT hK ?_; clear hK K)
  (refine oW fun dd K hK => ?_; go_simp; refine qT hK ?_; clear hK K)
  (refine oW fun dd K hK => ?_; go_simp; refine qT hK ?_; clear hK K)
  (refine oW fun dd K hK => ?_; go_simp; refine qT hK ?_; clear hK K)
  refine ogE ?_
  rw [kpus5_eq]
  refine ogS ?_
  rw [kpus6_eq]
  refine ogS ?_
  rw [kpur4_eq]
  refine ogR ?_
  simp only [kpuo4, Code.opsOf, kpur4, Code.piece, kpuBody, Try.f45, Option.getD_some, List.size_toArray, List.length_cons, List.length_nil, Nat.reduceAdd, Nat.zero_add, List.range, List.range.loop]
  (refine oW fun dd K hK => ?_; go_simp; refine qT hK ?_; clear hK K)
  (refine oW fun dd K hK => ?_; go_simp; refine qT hK ?_; clear hK K)
  refine ogE ?_
  rw [kpuc21_eq]
  refine ogT ?_
  simp only [if_true]
  rw [kpus7_eq]
  refine ogS ?_
  rw [kpur5_eq]
  refine ogR ?_
  simp only [kpuo5, Code.opsOf, kpur5, Code.piece, kpuBody, Try.f45, Option.getD_some, List.size_toArray, List.length_cons, List.length_nil, Nat.reduceAdd, Nat.zero_add, List.range, List.range.loop]
  (refine oW fun dd K hK => ?_; go_simp; refine qT hK ?_; clear hK K)
  refine ogE ?_
  refine ogX ?_
  refine own_go rfl (fun d => stepG_leave (fn := Try.f45) (v := .bool false) rfl rfl Try.func45 (by simp [results, Try.f45]) (by simp [results, Try.f45, go_sem])) ?_
  exact h
set_option maxRecDepth 100000 in
set_option maxHeartbeats 2000000 in
theorem pu_1b {sv : Value} {kb : Nat} {v : Int} {i : Nat} {A : Array Value} (hA : Slots 40 A [(0, .pointer (some ⟨kb, 0, none⟩)), (1, sv), (2, .int .i64 v)]) {cs : List Frame} {main : Bool} {Stop : Goroutine → World → Prop}
    (h : ∀ A, Slots 40 A [(0, .pointer (some ⟨kb, 0, none⟩)), (1, sv), (2, .int .i64 v), (7, .int .i64 (i : Nat))] → Own Try.prog main F Stop (G (Frame.enter Try.prog 79 #[sv] .normal) (((Go.Conc.base 45).at ⟨A, []⟩ [.inRegion kpuo6 [1], .code kpus9]) :: cs)) w) :
    Own Try.prog main F Stop (G (((Go.Conc.base 45).at ⟨A, []⟩ [.inRegion kpuo3 [5, 6, 7, 8, 9, 10], .code kpus5]).finish (.tuple #[.int .i64 (i : Nat), .bool true])) cs) w := by
  obtain ⟨hsz, h0, h1, h2, _⟩ := hA
  obtain ⟨s, rfl⟩ := kpuT_of hsz
  change s 0 = _ at h0
  change s 1 = _ at h1
  change s 2 = _ at h2
  clear hsz
  simp only [kpuT, h0, h1, h2]
  clear h0 h1 h2
  rw [Frame.finish_at]
  simp only [kpuo3, Code.opsOf, kpur3, Code.piece, kpuBody, Try.f45, Option.getD_some, List.size_toArray, List.length_cons, List.length_nil, Nat.reduceAdd, Nat.zero_add, List.range, List.range.loop]
  walk_nrm
  (refine oW fun dd K hK => ?_; go_simp; refine qT hK ?_; clear hK K)
  (refine oW fun dd K hK => ?_; go_simp; refine qT hK ?_; clear hK K)
  (refine oW fun dd K hK => ?_; go_simp; refine qT hK ?_; clear hK K)
  (refine oW fun dd K hK => ?_; go_simp; refine qT hK ?_; clear hK K)
  (refine oW fun dd K hK => ?_; go_simp; refine qT hK ?_; clear hK K)
  refine ogE ?_
  rw [kpus5_eq]
  refine ogS ?_
  rw [kpus6_eq]
  refine ogS ?_
  rw [kpur4_eq]
  refine ogR ?_
  simp only [kpuo4, Code.opsOf, kpur4, Code.piece, kpuBody, Try.f45, Option.getD_some, List.size_toArray, List.length_cons, List.length_nil, Nat.reduceAdd, Nat.zero_add, List.range, List.range.loop]
  (refine oW fun dd K hK => ?_; go_simp; refine qT hK ?_; clear hK K)
  (refine oW fun dd K hK => ?_; go_simp; refine qT hK ?_; clear hK K)
  refine ogE ?_
  rw [kpuc21_eq]
  refine ogF ?_
  simp only [Bool.false_eq_true, if_false]
  refine ogK ?_
  rw [kpus8_eq]
  refine ogS ?_
  rw [kpur6_eq]
  refine ogR ?_
  simp only [kpuo6, Code.opsOf, kpur6, Code.piece, kpuBody, Try.f45, Option.getD_some, List.size_toArray, List.length_cons, List.length_nil, Nat.reduceAdd, Nat.zero_add, List.range, List.range.loop]
  (refine oW fun dd K hK => ?_; go_simp; refine qT hK ?_; clear hK K)
  refine oc callable79 #[sv] ?_
  refine h _ ?_
  exact ⟨rfl, rfl, rfl, rfl, rfl, trivial⟩
set_option maxRecDepth 100000 in
set_option maxHeartbeats 2000000 in
theorem pu_2 {sv : Value} {kb : Nat} {v : Int} {nb m i : Nat} {v0 : Value} (hi : i < m) (hs : KH kb nb m w) (hc : w.cell? ⟨nb, i * 2 + 1, none⟩ = some v0) (hz : w.frozen? ⟨nb, i * 2 + 1, none⟩ = false) (hnh : ¬ held F ⟨nb, i * 2 + 1, none⟩) {A : Array Value} (hA : Slots 40 A [(0, .pointer (some ⟨kb, 0, none⟩)), (1, sv), (2, .int .i64 v), (7, .int .i64 (i : Nat))]) {cs : List Frame} {main : Bool} {Stop : Goroutine → World → Prop}
    (h : ∀ A, Slots 40 A [(0, .pointer (some ⟨kb, 0, none⟩)), (1, sv), (2, .int .i64 v), (7, .int .i64 (i : Nat))] → Own Try.prog main F Stop (G (Frame.enter Try.prog 80 #[.pointer (some ⟨kb, 0, none⟩), sv, .pointer (some ⟨kb, 0, none⟩), .int .i64 (i : Nat)] .normal) (((Go.Conc.base 45).at ⟨A, []⟩ [.inRegion kpuo8 [6], .code kpus11]) :: cs)) (w.setCell ⟨nb, i * 2 + 1, none⟩ (.int .i64 v))) :
    Own Try.prog main F Stop (G (((Go.Conc.base 45).at ⟨A, []⟩ [.inRegion kpuo6 [1], .code kpus9]).finish (.tuple #[])) (cs)) w := by
  obtain ⟨hsz, h0, h1, h2, h7, _⟩ := hA
  obtain ⟨s, rfl⟩ := kpuT_of hsz
  change s 0 = _ at h0
  change s 1 = _ at h1
  change s 2 = _ at h2
  change s 7 = _ at h7
  clear hsz
  simp only [kpuT, h0, h1, h2, h7]
  clear h0 h1 h2 h7
  have c2 := hs.c2
  rw [Frame.finish_at]
  simp only [kpuo6, Code.opsOf, kpur6, Code.piece, kpuBody, Try.f45, Option.getD_some, List.size_toArray, List.length_cons, List.length_nil, Nat.reduceAdd, Nat.zero_add, List.range, List.range.loop]
  walk_nrm
  refine ogE ?_
  rw [kpus9_eq]
  refine ogS ?_
  rw [kpur7_eq]
  refine ogR ?_
  simp only [kpuo7, Code.opsOf, kpur7, Code.piece, kpuBody, Try.f45, Option.getD_some, List.size_toArray, List.length_cons, List.length_nil, Nat.reduceAdd, Nat.zero_add, List.range, List.range.loop]
  (refine oW fun dd K hK => ?_; go_simp; refine qT hK ?_; clear hK K)
  (refine oW fun dd K hK => ?_; go_simp; refine qT hK ?_; clear hK K)
  (refine oW fun dd K hK => ?_; go_simp; refine qT hK ?_; clear hK K)
  (refine oW fun dd K hK => ?_; go_simp; refine qL hK ?_; clear hK K)
  (refine oW fun dd K hK => ?_; go_simp; refine qT hK ?_; clear hK K)
  (refine oW fun dd K hK => ?_; go_simp; refine qX hK ?_; clear hK K)
  (refine oW fun dd K hK => ?_; go_simp; refine qT hK ?_; clear hK K)
  (refine oW fun dd K hK => ?_; go_simp; refine qT hK ?_; clear hK K)
  refine oc callable52 #[.pointer (some ⟨nb, i * 2 + 1, none⟩), .int .i64 v] ?_
  refine own_stI hc rfl hz hnh ?_
  rw [Frame.finish_at]
  walk_nrm
  refine ogE ?_
  rw [kpus10_eq]
  refine ogS ?_
  rw [kpur8_eq]
  refine ogR ?_
  simp only [kpuo8, Code.opsOf, kpur8, Code.piece, kpuBody, Try.f45, Option.getD_some, List.size_toArray, List.length_cons, List.length_nil, Nat.reduceAdd, Nat.zero_add, List.range, List.range.loop]
  (refine oW fun dd K hK => ?_; go_simp; refine qT hK ?_; clear hK K)
  (refine oW fun dd K hK => ?_; go_simp; refine qT hK ?_; clear hK K)
  (refine oW fun dd K hK => ?_; go_simp; refine qT hK ?_; clear hK K)
  (refine oW fun dd K hK => ?_; go_simp; refine qT hK ?_; clear hK K)
  (refine oW fun dd K hK => ?_; go_simp; refine qT hK ?_; clear hK K)
  (refine oW fun dd K hK => ?_; go_simp; refine qT hK ?_; clear hK K)
  refine oc callable80 #[.pointer (some ⟨kb, 0, none⟩), sv, .pointer (some ⟨kb, 0, none⟩), .int .i64 (i : Nat)] ?_
  refine h _ ?_
  exact ⟨rfl, rfl, rfl, rfl, rfl, trivial⟩
set_option maxRecDepth 100000 in
set_option maxHeartbeats 2000000 in
theorem pu_3 {sv : Value} {kb : Nat} {v : Int} {i : Nat} {A : Array Value} (hA : Slots 40 A [(0, .pointer (some ⟨kb, 0, none⟩)), (1, sv), (2, .int .i64 v), (7, .int .i64 (i : Nat))]) {c : Frame} {cs : List Frame} {main : Bool} {Stop : Goroutine → World → Prop}
    (h : Own Try.prog main F Stop (G (c.finish (.bool true)) cs) w) :
    Own Try.prog main F Stop (G (((Go.Conc.base 45).at ⟨A, []⟩ [.inRegion kpuo8 [6], .code kpus11]).finish (.tuple #[])) (c :: cs)) w := by
  obtain ⟨hsz, h0, h1, h2, h7, _⟩ := hA
  obtain ⟨s, rfl⟩ := kpuT_of hsz
  change s 0 = _ at h0
  change s 1 = _ at h1
  change s 2 = _ at h2
  change s 7 = _ at h7
  clear hsz
  simp only [kpuT, h0, h1, h2, h7]
  clear h0 h1 h2 h7
  rw [Frame.finish_at]
  simp only [kpuo8, Code.opsOf, kpur8, Code.piece, kpuBody, Try.f45, Option.getD_some, List.size_toArray, List.length_cons, List.length_nil, Nat.reduceAdd, Nat.zero_add, List.range, List.range.loop]
  walk_nrm
  refine ogE ?_
  rw [kpus11_eq]
  refine ogS ?_
  rw [kpur9_eq]
  refine ogR ?_
  simp only [kpuo9, Code.opsOf, kpur9, Code.piece, kpuBody, Try.f45, Option.getD_some, List.size_toArray, List.length_cons, List.length_nil, Nat.reduceAdd, Nat.zero_add, List.range, List.range.loop]
  (refine oW fun dd K hK => ?_; go_simp; refine qT hK ?_; clear hK K)
  refine ogE ?_
  refine ogX ?_
  refine own_go rfl (fun d => stepG_leave (fn := Try.f45) (v := .bool true) rfl rfl Try.func45 (by simp [results, Try.f45]) (by simp [results, Try.f45, go_sem])) ?_
  exact h
noncomputable def kpoBody : Code := Try.f43.body.getD .skip
noncomputable def kpos0 : Code := Code.piece [] kpoBody
noncomputable def kpor0 : Code := Code.piece [true] kpoBody
noncomputable def kpoo0 : Array Oper := Code.opsOf kpor0
noncomputable def kpos1 : Code := Code.piece [false] kpoBody
noncomputable def kpos2 : Code := Code.piece [false, true] kpoBody
noncomputable def kpor1 : Code := Code.piece [false, true, true] kpoBody
noncomputable def kpoo1 : Array Oper := Code.opsOf kpor1
noncomputable def kpoc10 : Code := Code.piece [false, true, false] kpoBody
noncomputable def kpos3 : Code := Code.piece [false, true, false, true] kpoBody
noncomputable def kpor2 : Code := Code.piece [false, true, false, true, true] kpoBody
noncomputable def kpoo2 : Array Oper := Code.opsOf kpor2
noncomputable def kpos4 : Code := Code.piece [false, false] kpoBody
noncomputable def kpor3 : Code := Code.piece [false, false, true] kpoBody
noncomputable def kpoo3 : Array Oper := Code.opsOf kpor3
noncomputable def kpos5 : Code := Code.piece [false, false, false] kpoBody
noncomputable def kpos6 : Code := Code.piece [false, false, false, true] kpoBody
noncomputable def kpor4 : Code := Code.piece [false, false, false, true, true] kpoBody
noncomputable def kpoo4 : Array Oper := Code.opsOf kpor4
noncomputable def kpoc21 : Code := Code.piece [false, false, false, true, false] kpoBody
noncomputable def kpos7 : Code := Code.piece [false, false, false, true, false, true] kpoBody
noncomputable def kpor5 : Code := Code.piece [false, false, false, true, false, true, true] kpoBody
noncomputable def kpoo5 : Array Oper := Code.opsOf kpor5
noncomputable def kpos8 : Code := Code.piece [false, false, false, false] kpoBody
noncomputable def kpor6 : Code := Code.piece [false, false, false, false, true] kpoBody
noncomputable def kpoo6 : Array Oper := Code.opsOf kpor6
noncomputable def kpos9 : Code := Code.piece [false, false, false, false, false] kpoBody
noncomputable def kpor7 : Code := Code.piece [false, false, false, false, false, true] kpoBody
noncomputable def kpoo7 : Array Oper := Code.opsOf kpor7
noncomputable def kpos10 : Code := Code.piece [false, false, false, false, false, false] kpoBody
noncomputable def kpor8 : Code := Code.piece [false, false, false, false, false, false, true] kpoBody
noncomputable def kpoo8 : Array Oper := Code.opsOf kpor8
noncomputable def kpos11 : Code := Code.piece [false, false, false, false, false, false, false] kpoBody
noncomputable def kpor9 : Code := Code.piece [false, false, false, false, false, false, false, true] kpoBody
noncomputable def kpoo9 : Array Oper := Code.opsOf kpor9
theorem kpos0_eq : kpos0 = .seq kpor0 kpos1 := by kernel_rfl
theorem kpor0_eq : kpor0 = .region 0 kpoo0 false := by kernel_rfl
theorem kpos1_eq : kpos1 = .seq kpos2 kpos4 := by kernel_rfl
theorem kpos2_eq : kpos2 = .seq kpor1 kpoc10 := by kernel_rfl
theorem kpor1_eq : kpor1 = .region 1 kpoo1 false := by kernel_rfl
theorem kpoc10_eq : kpoc10 = .cond (.tmp 10) kpos3 .skip := by kernel_rfl
theorem kpos3_eq : kpos3 = .seq kpor2 .ret := by kernel_rfl
theorem kpor2_eq : kpor2 = .region 2 kpoo2 false := by kernel_rfl
theorem kpos4_eq : kpos4 = .seq kpor3 kpos5 := by kernel_rfl
theorem kpor3_eq : kpor3 = .region 3 kpoo3 false := by kernel_rfl
theorem kpos5_eq : kpos5 = .seq kpos6 kpos8 := by kernel_rfl
theorem kpos6_eq : kpos6 = .seq kpor4 kpoc21 := by kernel_rfl
theorem kpor4_eq : kpor4 = .region 4 kpoo4 false := by kernel_rfl
theorem kpoc21_eq : kpoc21 = .cond (.tmp 21) kpos7 .skip := by kernel_rfl
theorem kpos7_eq : kpos7 = .seq kpor5 .ret := by kernel_rfl
theorem kpor5_eq : kpor5 = .region 5 kpoo5 false := by kernel_rfl
theorem kpos8_eq : kpos8 = .seq kpor6 kpos9 := by kernel_rfl
theorem kpor6_eq : kpor6 = .region 6 kpoo6 false := by kernel_rfl
theorem kpos9_eq : kpos9 = .seq kpor7 kpos10 := by kernel_rfl
theorem kpor7_eq : kpor7 = .region 7 kpoo7 false := by kernel_rfl
theorem kpos10_eq : kpos10 = .seq kpor8 kpos11 := by kernel_rfl
theorem kpor8_eq : kpor8 = .region 8 kpoo8 false := by kernel_rfl
theorem kpos11_eq : kpos11 = .seq kpor9 .ret := by kernel_rfl
theorem kpor9_eq : kpor9 = .region 9 kpoo9 false := by kernel_rfl
theorem enter_kpo (args : Array Value) : Frame.enter Try.prog 43 args .normal = (Go.Conc.base 43).at { tmps := args ++ Array.replicate (40 - args.size) undef, defers := [] } [.code kpos0] := enter_at args Try.func43 rfl
theorem callable43 : Callable 43 := callable Try.func43 rfl rfl
def kpoT (s : Nat → Value) : Array Value := #[s 0, s 1, s 2, s 3, s 4, s 5, s 6, s 7, s 8, s 9, s 10, s 11, s 12, s 13, s 14, s 15, s 16, s 17, s 18, s 19, s 20, s 21, s 22, s 23, s 24, s 25, s 26, s 27, s 28, s 29, s 30, s 31, s 32, s 33, s 34, s 35, s 36, s 37, s 38, s 39]
theorem kpoT_of {A : Array Value} (h : A.size = 40) : ∃ s, A = kpoT s := by
  obtain ⟨s, hs, _⟩ := arr_lit A h
  exact ⟨s, hs⟩
set_option maxRecDepth 100000 in
set_option maxHeartbeats 2000000 in
theorem po_0 {sv : Value} {kb : Nat}  {cs : List Frame} {main : Bool} {Stop : Goroutine → World → Prop}
    (h : ∀ A, Slots 40 A [(0, .pointer (some ⟨kb, 0, none⟩)), (1, sv)] → Own Try.prog main F Stop (G (Frame.enter Try.prog 78 #[.pointer (some ⟨kb, 0, none⟩), sv, .pointer (some ⟨kb, 0, none⟩)] .normal) (((Go.Conc.base 43).at ⟨A, []⟩ [.inRegion kpoo3 [5, 6, 7, 8, 9, 10], .code kpos5]) :: cs)) w) :
    Own Try.prog main F Stop (G (Frame.enter Try.prog 43 #[.pointer (some ⟨kb, 0, none⟩), sv] .normal) cs) w := by
  rw [enter_kpo]
  walk_nrm
  rw [kpos0_eq]
  refine ogS ?_
  rw [kpor0_eq]
  refine ogR ?_
  simp only [kpoo0, Code.opsOf, kpor0, Code.piece, kpoBody, Try.f43, Option.getD_some, List.size_toArray, List.length_cons, List.length_nil, Nat.reduceAdd, Nat.zero_add, List.range, List.range.loop]
  (refine oW fun dd K hK => ?_; go_simp; refine qT hK ?_; clear hK K)
  (refine oW fun dd K hK => ?_; go_simp; refine qT hK ?_; clear hK K)
  refine ogE ?_
  rw [kpos1_eq]
  refine ogS ?_
  rw [kpos2_eq]
  refine ogS ?_
  rw [kpor1_eq]
  refine ogR ?_
  simp only [kpoo1, Code.opsOf, kpor1, Code.piece, kpoBody, Try.f43, Option.getD_some, List.size_toArray, List.length_cons, List.length_nil, Nat.reduceAdd, Nat.zero_add, List.range, List.range.loop]
  (refine oW fun dd K hK => ?_; go_simp; refine qT hK ?_; clear hK K)
  (refine oW fun dd K hK => ?_; go_simp; refine qT hK ?_; clear hK K)
  refine ogE ?_
  rw [kpoc10_eq]
  refine ogF ?_
  simp only [Bool.false_eq_true, if_false]
  refine ogK ?_
  rw [kpos4_eq]
  refine ogS ?_
  rw [kpor3_eq]
  refine ogR ?_
  simp only [kpoo3, Code.opsOf, kpor3, Code.piece, kpoBody, Try.f43, Option.getD_some, List.size_toArray, List.length_cons, List.length_nil, Nat.reduceAdd, Nat.zero_add, List.range, List.range.loop]
  (refine oW fun dd K hK => ?_; go_simp; refine qT hK ?_; clear hK K)
  (refine oW fun dd K hK => ?_; go_simp; refine qT hK ?_; clear hK K)
  (refine oW fun dd K hK => ?_; go_simp; refine qT hK ?_; clear hK K)
  (refine oW fun dd K hK => ?_; go_simp; refine qT hK ?_; clear hK K)
  (refine oW fun dd K hK => ?_; go_simp; refine qT hK ?_; clear hK K)
  refine oc callable78 #[.pointer (some ⟨kb, 0, none⟩), sv, .pointer (some ⟨kb, 0, none⟩)] ?_
  refine h _ ?_
  exact ⟨rfl, rfl, rfl, trivial⟩
set_option maxRecDepth 100000 in
set_option maxHeartbeats 2000000 in
theorem po_1a {sv : Value} {kb : Nat} {x : Int} {A : Array Value} (hA : Slots 40 A [(0, .pointer (some ⟨kb, 0, none⟩)), (1, sv)]) {c : Frame} {cs : List Frame} {main : Bool} {Stop : Goroutine → World → Prop}
    (h : Own Try.prog main F Stop (G (c.finish (.tuple #[.int .i64 0, .bool false])) cs) w) :
    Own Try.prog main F Stop (G (((Go.Conc.base 43).at ⟨A, []⟩ [.inRegion kpoo3 [5, 6, 7, 8, 9, 10], .code kpos5]).finish (.tuple #[.int .i64 x, .bool false])) (c :: cs)) w := by
  obtain ⟨hsz, h0, h1, _⟩ := hA
  obtain ⟨s, rfl⟩ := kpoT_of hsz
  change s 0 = _ at h0
  change s 1 = _ at h1
  clear hsz
  simp only [kpoT, h0, h1]
  clear h0 h1
  rw [Frame.finish_at]
  simp only [kpoo3, Code.opsOf, kpor3, Code.piece, kpoBody, Try.f43, Option.getD_some, List.size_toArray, List.length_cons, List.length_nil, Nat.reduceAdd, Nat.zero_add, List.range, List.range.loop]
  walk_nrm
  (refine oW fun dd K hK => ?_; go_simp; refine qT hK ?_; clear hK K)
  (refine oW fun dd K hK => ?_; go_simp; refine qT hK ?_; clear hK K)
  (refine oW fun dd K hK => ?_; go_simp; refine qT hK ?_; clear hK K)
  (refine oW fun dd K hK => ?_; go_simp; refine qT hK ?_; clear hK K)
  (refine oW fun dd K hK => ?_; go_simp; refine qT hK ?_; clear hK K)
  refine ogE ?_
  rw [kpos5_eq]
  refine ogS ?_
  rw [kpos6_eq]
  refine ogS ?_
  rw [kpor4_eq]
  refine ogR ?_
  simp only [kpoo4, Code.opsOf, kpor4, Code.piece, kpoBody, Try.f43, Option.getD_some, List.size_toArray, List.length_cons, List.length_nil, Nat.reduceAdd, Nat.zero_add, List.range, List.range.loop]
  (refine oW fun dd K hK => ?_; go_simp; refine qT hK ?_; clear hK K)
  (refine oW fun dd K hK => ?_; go_simp; refine qT hK ?_; clear hK K)
  refine ogE ?_
  rw [kpoc21_eq]
  refine ogT ?_
  simp only [if_true]
  rw [kpos7_eq]
  refine ogS ?_
  rw [kpor5_eq]
  refine ogR ?_
  simp only [kpoo5, Code.opsOf, kpor5, Code.piece, kpoBody, Try.f43, Option.getD_some, List.size_toArray, List.length_cons, List.length_nil, Nat.reduceAdd, Nat.zero_add, List.range, List.range.loop]
  (refine oW fun dd K hK => ?_; go_simp; refine qT hK ?_; clear hK K)
  (refine oW fun dd K hK => ?_; go_simp; refine qT hK ?_; clear hK K)
  refine ogE ?_
  refine ogX ?_
  refine own_go rfl (fun d => stepG_leave (fn := Try.f43) (v := .tuple #[.int .i64 0, .bool false]) rfl rfl Try.func43 (by simp [results, Try.f43]) (by simp [results, Try.f43, go_sem])) ?_
  exact h
set_option maxRecDepth 100000 in
set_option maxHeartbeats 2000000 in
theorem po_1b {sv : Value} {kb : Nat} {i : Nat} {A : Array Value} (hA : Slots 40 A [(0, .pointer (some ⟨kb, 0, none⟩)), (1, sv)]) {cs : List Frame} {main : Bool} {Stop : Goroutine → World → Prop}
    (h : ∀ A, Slots 40 A [(0, .pointer (some ⟨kb, 0, none⟩)), (1, sv), (6, .int .i64 (i : Nat))] → Own Try.prog main F Stop (G (Frame.enter Try.prog 79 #[sv] .normal) (((Go.Conc.base 43).at ⟨A, []⟩ [.inRegion kpoo6 [1], .code kpos9]) :: cs)) w) :
    Own Try.prog main F Stop (G (((Go.Conc.base 43).at ⟨A, []⟩ [.inRegion kpoo3 [5, 6, 7, 8, 9, 10], .code kpos5]).finish (.tuple #[.int .i64 (i : Nat), .bool true])) cs) w := by
  obtain ⟨hsz, h0, h1, _⟩ := hA
  obtain ⟨s, rfl⟩ := kpoT_of hsz
  change s 0 = _ at h0
  change s 1 = _ at h1
  clear hsz
  simp only [kpoT, h0, h1]
  clear h0 h1
  rw [Frame.finish_at]
  simp only [kpoo3, Code.opsOf, kpor3, Code.piece, kpoBody, Try.f43, Option.getD_some, List.size_toArray, List.length_cons, List.length_nil, Nat.reduceAdd, Nat.zero_add, List.range, List.range.loop]
  walk_nrm
  (refine oW fun dd K hK => ?_; go_simp; refine qT hK ?_; clear hK K)
  (refine oW fun dd K hK => ?_; go_simp; refine qT hK ?_; clear hK K)
  (refine oW fun dd K hK => ?_; go_simp; refine qT hK ?_; clear hK K)
  (refine oW fun dd K hK => ?_; go_simp; refine qT hK ?_; clear hK K)
  (refine oW fun dd K hK => ?_; go_simp; refine qT hK ?_; clear hK K)
  refine ogE ?_
  rw [kpos5_eq]
  refine ogS ?_
  rw [kpos6_eq]
  refine ogS ?_
  rw [kpor4_eq]
  refine ogR ?_
  simp only [kpoo4, Code.opsOf, kpor4, Code.piece, kpoBody, Try.f43, Option.getD_some, List.size_toArray, List.length_cons, List.length_nil, Nat.reduceAdd, Nat.zero_add, List.range, List.range.loop]
  (refine oW fun dd K hK => ?_; go_simp; refine qT hK ?_; clear hK K)
  (refine oW fun dd K hK => ?_; go_simp; refine qT hK ?_; clear hK K)
  refine ogE ?_
  rw [kpoc21_eq]
  refine ogF ?_
  simp only [Bool.false_eq_true, if_false]
  refine ogK ?_
  rw [kpos8_eq]
  refine ogS ?_
  rw [kpor6_eq]
  refine ogR ?_
  simp only [kpoo6, Code.opsOf, kpor6, Code.piece, kpoBody, Try.f43, Option.getD_some, List.size_toArray, List.length_cons, List.length_nil, Nat.reduceAdd, Nat.zero_add, List.range, List.range.loop]
  (refine oW fun dd K hK => ?_; go_simp; refine qT hK ?_; clear hK K)
  refine oc callable79 #[sv] ?_
  refine h _ ?_
  exact ⟨rfl, rfl, rfl, rfl, trivial⟩
set_option maxRecDepth 100000 in
set_option maxHeartbeats 2000000 in
theorem po_2 {sv : Value} {kb : Nat} {v : Int} {nb m i : Nat} (hi : i < m) (hs : KH kb nb m w) (hc : w.cell? ⟨nb, i * 2 + 1, none⟩ = some (.int .i64 v)) {A : Array Value} (hA : Slots 40 A [(0, .pointer (some ⟨kb, 0, none⟩)), (1, sv), (6, .int .i64 (i : Nat))]) {cs : List Frame} {main : Bool} {Stop : Goroutine → World → Prop}
    (h : ∀ A, Slots 40 A [(0, .pointer (some ⟨kb, 0, none⟩)), (1, sv), (6, .int .i64 (i : Nat)), (8, .int .i64 v)] → Own Try.prog main F Stop (G (Frame.enter Try.prog 80 #[.pointer (some ⟨kb, 0, none⟩), sv, .pointer (some ⟨kb, 1, none⟩), .int .i64 (i : Nat)] .normal) (((Go.Conc.base 43).at ⟨A, []⟩ [.inRegion kpoo8 [6], .code kpos11]) :: cs)) w) :
    Own Try.prog main F Stop (G (((Go.Conc.base 43).at ⟨A, []⟩ [.inRegion kpoo6 [1], .code kpos9]).finish (.tuple #[])) (cs)) w := by
  obtain ⟨hsz, h0, h1, h6, _⟩ := hA
  obtain ⟨s, rfl⟩ := kpoT_of hsz
  change s 0 = _ at h0
  change s 1 = _ at h1
  change s 6 = _ at h6
  clear hsz
  simp only [kpoT, h0, h1, h6]
  clear h0 h1 h6
  have c2 := hs.c2
  rw [Frame.finish_at]
  simp only [kpoo6, Code.opsOf, kpor6, Code.piece, kpoBody, Try.f43, Option.getD_some, List.size_toArray, List.length_cons, List.length_nil, Nat.reduceAdd, Nat.zero_add, List.range, List.range.loop]
  walk_nrm
  refine ogE ?_
  rw [kpos9_eq]
  refine ogS ?_
  rw [kpor7_eq]
  refine ogR ?_
  simp only [kpoo7, Code.opsOf, kpor7, Code.piece, kpoBody, Try.f43, Option.getD_some, List.size_toArray, List.length_cons, List.length_nil, Nat.reduceAdd, Nat.zero_add, List.range, List.range.loop]
  (refine oW fun dd K hK => ?_; go_simp; refine qT hK ?_; clear hK K)
  (refine oW fun dd K hK => ?_; go_simp; refine qT hK ?_; clear hK K)
  (refine oW fun dd K hK => ?_; go_simp; refine qT hK ?_; clear hK K)
  (refine oW fun dd K hK => ?_; go_simp; refine qL hK ?_; clear hK K)
  (refine oW fun dd K hK => ?_; go_simp; refine qT hK ?_; clear hK K)
  (refine oW fun dd K hK => ?_; go_simp; refine qX hK ?_; clear hK K)
  (refine oW fun dd K hK => ?_; go_simp; refine qT hK ?_; clear hK K)
  refine oc callable54 #[.pointer (some ⟨nb, i * 2 + 1, none⟩)] ?_
  refine own_ldI hc rfl ?_
  rw [Frame.finish_at]
  walk_nrm
  (refine oW fun dd K hK => ?_; go_simp; refine qT hK ?_; clear hK K)
  refine ogE ?_
  rw [kpos10_eq]
  refine ogS ?_
  rw [kpor8_eq]
  refine ogR ?_
  simp only [kpoo8, Code.opsOf, kpor8, Code.piece, kpoBody, Try.f43, Option.getD_some, List.size_toArray, List.length_cons, List.length_nil, Nat.reduceAdd, Nat.zero_add, List.range, List.range.loop]
  (refine oW fun dd K hK => ?_; go_simp; refine qT hK ?_; clear hK K)
  (refine oW fun dd K hK => ?_; go_simp; refine qT hK ?_; clear hK K)
  (refine oW fun dd K hK => ?_; go_simp; refine qT hK ?_; clear hK K)
  (refine oW fun dd K hK => ?_; go_simp; refine qT hK ?_; clear hK K)
  (refine oW fun dd K hK => ?_; go_simp; refine qT hK ?_; clear hK K)
  (refine oW fun dd K hK => ?_; go_simp; refine qT hK ?_; clear hK K)
  refine oc callable80 #[.pointer (some ⟨kb, 0, none⟩), sv, .pointer (some ⟨kb, 1, none⟩), .int .i64 (i : Nat)] ?_
  refine h _ ?_
  exact ⟨rfl, rfl, rfl, rfl, rfl, trivial⟩
set_option maxRecDepth 100000 in
set_option maxHeartbeats 2000000 in
theorem po_3 {sv : Value} {kb : Nat} {v : Int} {i : Nat} {A : Array Value} (hA : Slots 40 A [(0, .pointer (some ⟨kb, 0, none⟩)), (1, sv), (6, .int .i64 (i : Nat)), (8, .int .i64 v)]) {c : Frame} {cs : List Frame} {main : Bool} {Stop : Goroutine → World → Prop}
    (h : Own Try.prog main F Stop (G (c.finish (.tuple #[.int .i64 v, .bool true])) cs) w) :
    Own Try.prog main F Stop (G (((Go.Conc.base 43).at ⟨A, []⟩ [.inRegion kpoo8 [6], .code kpos11]).finish (.tuple #[])) (c :: cs)) w := by
  obtain ⟨hsz, h0, h1, h6, h8, _⟩ := hA
  obtain ⟨s, rfl⟩ := kpoT_of hsz
  change s 0 = _ at h0
  change s 1 = _ at h1
  change s 6 = _ at h6
  change s 8 = _ at h8
  clear hsz
  simp only [kpoT, h0, h1, h6, h8]
  clear h0 h1 h6 h8
  rw [Frame.finish_at]
  simp only [kpoo8, Code.opsOf, kpor8, Code.piece, kpoBody, Try.f43, Option.getD_some, List.size_toArray, List.length_cons, List.length_nil, Nat.reduceAdd, Nat.zero_add, List.range, List.range.loop]
  walk_nrm
  refine ogE ?_
  rw [kpos11_eq]
  refine ogS ?_
  rw [kpor9_eq]
  refine ogR ?_
  simp only [kpoo9, Code.opsOf, kpor9, Code.piece, kpoBody, Try.f43, Option.getD_some, List.size_toArray, List.length_cons, List.length_nil, Nat.reduceAdd, Nat.zero_add, List.range, List.range.loop]
  (refine oW fun dd K hK => ?_; go_simp; refine qT hK ?_; clear hK K)
  (refine oW fun dd K hK => ?_; go_simp; refine qT hK ?_; clear hK K)
  (refine oW fun dd K hK => ?_; go_simp; refine qT hK ?_; clear hK K)
  refine ogE ?_
  refine ogX ?_
  refine own_go rfl (fun d => stepG_leave (fn := Try.f43) (v := .tuple #[.int .i64 v, .bool true]) rfl rfl Try.func43 (by simp [results, Try.f43]) (by simp [results, Try.f43, go_sem])) ?_
  exact h
noncomputable def kpeBody : Code := Try.f44.body.getD .skip
noncomputable def kpes0 : Code := Code.piece [] kpeBody
noncomputable def kper0 : Code := Code.piece [true] kpeBody
noncomputable def kpeo0 : Array Oper := Code.opsOf kper0
noncomputable def kpes1 : Code := Code.piece [false] kpeBody
noncomputable def kpes2 : Code := Code.piece [false, true] kpeBody
noncomputable def kper1 : Code := Code.piece [false, true, true] kpeBody
noncomputable def kpeo1 : Array Oper := Code.opsOf kper1
noncomputable def kpec10 : Code := Code.piece [false, true, false] kpeBody
noncomputable def kpes3 : Code := Code.piece [false, true, false, true] kpeBody
noncomputable def kper2 : Code := Code.piece [false, true, false, true, true] kpeBody
noncomputable def kpeo2 : Array Oper := Code.opsOf kper2
noncomputable def kpes4 : Code := Code.piece [false, false] kpeBody
noncomputable def kper3 : Code := Code.piece [false, false, true] kpeBody
noncomputable def kpeo3 : Array Oper := Code.opsOf kper3
noncomputable def kpes5 : Code := Code.piece [false, false, false] kpeBody
noncomputable def kper4 : Code := Code.piece [false, false, false, true] kpeBody
noncomputable def kpeo4 : Array Oper := Code.opsOf kper4
noncomputable def kpes6 : Code := Code.piece [false, false, false, false] kpeBody
noncomputable def kpeb0 : Code := Code.piece [false, false, false, false, true] kpeBody
noncomputable def kpel7 : Code := Code.piece [false, false, false, false, true, true] kpeBody
noncomputable def kpes8 : Code := Code.piece [false, false, false, false, true, true, true] kpeBody
noncomputable def kpes9 : Code := Code.piece [false, false, false, false, true, true, true, true] kpeBody
noncomputable def kper5 : Code := Code.piece [false, false, false, false, true, true, true, true, true] kpeBody
noncomputable def kpeo5 : Array Oper := Code.opsOf kper5
noncomputable def kpec19 : Code := Code.piece [false, false, false, false, true, true, true, true, false] kpeBody
noncomputable def kpeb1 : Code := Code.piece [false, false, false, false, true, true, true, false] kpeBody
noncomputable def kpes10 : Code := Code.piece [false, false, false, false, true, true, true, false, true] kpeBody
noncomputable def kper6 : Code := Code.piece [false, false, false, false, true, true, true, false, true, true] kpeBody
noncomputable def kpeo6 : Array Oper := Code.opsOf kper6
noncomputable def kpes11 : Code := Code.piece [false, false, false, false, true, true, true, false, true, false] kpeBody
noncomputable def kper7 : Code := Code.piece [false, false, false, false, true, true, true, false, true, false, true] kpeBody
noncomputable def kpeo7 : Array Oper := Code.opsOf kper7
noncomputable def kpes12 : Code := Code.piece [false, false, false, false, true, true, true, false, true, false, false] kpeBody
noncomputable def kper8 : Code := Code.piece [false, false, false, false, true, true, true, false, true, false, false, true] kpeBody
noncomputable def kpeo8 : Array Oper := Code.opsOf kper8
noncomputable def kpes13 : Code := Code.piece [false, false, false, false, true, true, true, false, true, false, false, false] kpeBody
noncomputable def kper9 : Code := Code.piece [false, false, false, false, true, true, true, false, true, false, false, false, true] kpeBody
noncomputable def kpeo9 : Array Oper := Code.opsOf kper9
noncomputable def kpes14 : Code := Code.piece [false, false, false, false, true, true, true, false, true, false, false, false, false] kpeBody
noncomputable def kpes15 : Code := Code.piece [false, false, false, false, true, true, true, false, true, false, false, false, false, true] kpeBody
noncomputable def kper10 : Code := Code.piece [false, false, false, false, true, true, true, false, true, false, false, false, false, true, true] kpeBody
noncomputable def kpeo10 : Array Oper := Code.opsOf kper10
noncomputable def kpec39 : Code := Code.piece [false, false, false, false, true, true, true, false, true, false, false, false, false, true, false] kpeBody
noncomputable def kpes16 : Code := Code.piece [false, false, false, false, true, true, true, false, true, false, false, false, false, true, false, true] kpeBody
noncomputable def kper11 : Code := Code.piece [false, false, false, false, true, true, true, false, true, false, false, false, false, true, false, true, true] kpeBody
noncomputable def kpeo11 : Array Oper := Code.opsOf kper11
noncomputable def kper12 : Code := Code.piece [false, false, false, false, true, true, true, false, true, false, false, false, false, false] kpeBody
noncomputable def kpeo12 : Array Oper := Code.opsOf kper12
noncomputable def kpes17 : Code := Code.piece [false, false, false, false, false] kpeBody
noncomputable def kper13 : Code := Code.piece [false, false, false, false, false, true] kpeBody
noncomputable def kpeo13 : Array Oper := Code.opsOf kper13
theorem kpes0_eq : kpes0 = .seq kper0 kpes1 := by kernel_rfl
theorem kper0_eq : kper0 = .region 0 kpeo0 false := by kernel_rfl
theorem kpes1_eq : kpes1 = .seq kpes2 kpes4 := by kernel_rfl
theorem kpes2_eq : kpes2 = .seq kper1 kpec10 := by kernel_rfl
theorem kper1_eq : kper1 = .region 1 kpeo1 false := by kernel_rfl
theorem kpec10_eq : kpec10 = .cond (.tmp 10) kpes3 .skip := by kernel_rfl
theorem kpes3_eq : kpes3 = .seq kper2 .ret := by kernel_rfl
theorem kper2_eq : kper2 = .region 2 kpeo2 false := by kernel_rfl
theorem kpes4_eq : kpes4 = .seq kper3 kpes5 := by kernel_rfl
theorem kper3_eq : kper3 = .region 3 kpeo3 false := by kernel_rfl
theorem kpes5_eq : kpes5 = .seq kper4 kpes6 := by kernel_rfl
theorem kper4_eq : kper4 = .region 4 kpeo4 false := by kernel_rfl
theorem kpes6_eq : kpes6 = .seq kpeb0 kpes17 := by kernel_rfl
theorem kpeb0_eq : kpeb0 = .block 0 kpel7 := by kernel_rfl
theorem kpel7_eq : kpel7 = .loop kpes8 := by kernel_rfl
theorem kpes8_eq : kpes8 = .seq kpes9 kpeb1 := by kernel_rfl
theorem kpes9_eq : kpes9 = .seq kper5 kpec19 := by kernel_rfl
theorem kper5_eq : kper5 = .region 5 kpeo5 false := by kernel_rfl
theorem kpec19_eq : kpec19 = .cond (.tmp 19) .skip (.exit 0) := by kernel_rfl
theorem kpeb1_eq : kpeb1 = .block 1 kpes10 := by kernel_rfl
theorem kpes10_eq : kpes10 = .seq kper6 kpes11 := by kernel_rfl
theorem kper6_eq : kper6 = .region 6 kpeo6 false := by kernel_rfl
theorem kpes11_eq : kpes11 = .seq kper7 kpes12 := by kernel_rfl
theorem kper7_eq : kper7 = .region 7 kpeo7 true := by kernel_rfl
theorem kpes12_eq : kpes12 = .seq kper8 kpes13 := by kernel_rfl
theorem kper8_eq : kper8 = .region 8 kpeo8 false := by kernel_rfl
theorem kpes13_eq : kpes13 = .seq kper9 kpes14 := by kernel_rfl
theorem kper9_eq : kper9 = .region 9 kpeo9 false := by kernel_rfl
theorem kpes14_eq : kpes14 = .seq kpes15 kper12 := by kernel_rfl
theorem kpes15_eq : kpes15 = .seq kper10 kpec39 := by kernel_rfl
theorem kper10_eq : kper10 = .region 10 kpeo10 false := by kernel_rfl
theorem kpec39_eq : kpec39 = .cond (.tmp 39) kpes16 .skip := by kernel_rfl
theorem kpes16_eq : kpes16 = .seq kper11 .ret := by kernel_rfl
theorem kper11_eq : kper11 = .region 11 kpeo11 false := by kernel_rfl
theorem kper12_eq : kper12 = .region 12 kpeo12 false := by kernel_rfl
theorem kpes17_eq : kpes17 = .seq kper13 .ret := by kernel_rfl
theorem kper13_eq : kper13 = .region 13 kpeo13 false := by kernel_rfl
theorem enter_kpe (args : Array Value) : Frame.enter Try.prog 44 args .normal = (Go.Conc.base 44).at { tmps := args ++ Array.replicate (42 - args.size) undef, defers := [] } [.code kpes0] := enter_at args Try.func44 rfl
theorem callable44 : Callable 44 := callable Try.func44 rfl rfl
def kpeT (s : Nat → Value) : Array Value := #[s 0, s 1, s 2, s 3, s 4, s 5, s 6, s 7, s 8, s 9, s 10, s 11, s 12, s 13, s 14, s 15, s 16, s 17, s 18, s 19, s 20, s 21, s 22, s 23, s 24, s 25, s 26, s 27, s 28, s 29, s 30, s 31, s 32, s 33, s 34, s 35, s 36, s 37, s 38, s 39, s 40, s 41]
theorem kpeT_of {A : Array Value} (h : A.size = 42) : ∃ s, A = kpeT s := by
  obtain ⟨s, hs, _⟩ := arr_lit A h
  exact ⟨s, hs⟩
set_option maxRecDepth 100000 in
set_option maxHeartbeats 2000000 in
theorem pk_0 {sv : Value} {kb : Nat}  {cs : List Frame} {main : Bool} {Stop : Goroutine → World → Prop}
    (h : ∀ A, Slots 42 A [(0, .pointer (some ⟨kb, 0, none⟩)), (1, sv)] → Own Try.prog main F Stop (G (Frame.enter Try.prog 79 #[sv] .normal) (((Go.Conc.base 44).at ⟨A, []⟩ [.inRegion kpeo3 [1], .code kpes5]) :: cs)) w) :
    Own Try.prog main F Stop (G (Frame.enter Try.prog 44 #[.pointer (some ⟨kb, 0, none⟩), sv] .normal) cs) w := by
  rw [enter_kpe]
  walk_nrm
  rw [kpes0_eq]
  refine ogS ?_
  rw [kper0_eq]
  refine ogR ?_
  simp only [kpeo0, Code.opsOf, kper0, Code.piece, kpeBody, Try.f44, Option.getD_some, List.size_toArray, List.length_cons, List.length_nil, Nat.reduceAdd, Nat.zero_add, List.range, List.range.loop]
  (refine oW fun dd K hK => ?_; go_simp; refine qT hK ?_; clear hK K)
  (refine oW fun dd K hK => ?_; go_simp; refine qT hK ?_; clear hK K)
  refine ogE ?_
  rw [kpes1_eq]
  refine ogS ?_
  rw [kpes2_eq]
  refine ogS ?_
  rw [kper1_eq]
  refine ogR ?_
  simp only [kpeo1, Code.opsOf, kper1, Code.piece, kpeBody, Try.f44, Option.getD_some, List.size_toArray, List.length_cons, List.length_nil, Nat.reduceAdd, Nat.zero_add, List.range, List.range.loop]
  (refine oW fun dd K hK => ?_; go_simp; refine qT hK ?_; clear hK K)
  (refine oW fun dd K hK => ?_; go_simp; refine qT hK ?_; clear hK K)
  refine ogE ?_
  rw [kpec10_eq]
  refine ogF ?_
  simp only [Bool.false_eq_true, if_false]
  refine ogK ?_
  rw [kpes4_eq]
  refine ogS ?_
  rw [kper3_eq]
  refine ogR ?_
  simp only [kpeo3, Code.opsOf, kper3, Code.piece, kpeBody, Try.f44, Option.getD_some, List.size_toArray, List.length_cons, List.length_nil, Nat.reduceAdd, Nat.zero_add, List.range, List.range.loop]
  (refine oW fun dd K hK => ?_; go_simp; refine qT hK ?_; clear hK K)
  refine oc callable79 #[sv] ?_
  refine h _ ?_
  exact ⟨rfl, rfl, rfl, trivial⟩
set_option maxRecDepth 100000 in
set_option maxHeartbeats 2000000 in
theorem pk_1a {sv : Value} {kb : Nat} {n t : Int} (hn : -1 ≤ n ∧ n < 65536) (ht : 0 ≤ t ∧ t < 2147483648) (hneg : n < 0) (hc : w.cell? ⟨kb, 0, none⟩ = some (.int .u64 (pk (n, t)))) {A : Array Value} (hA : Slots 42 A [(0, .pointer (some ⟨kb, 0, none⟩)), (1, sv)]) {c : Frame} {cs : List Frame} {main : Bool} {Stop : Goroutine → World → Prop}
    (h : Own Try.prog main F Stop (G (c.finish (.tuple #[.int .i64 0, .bool false])) cs) w) :
    Own Try.prog main F Stop (G (((Go.Conc.base 44).at ⟨A, []⟩ [.inRegion kpeo3 [1], .code kpes5]).finish (.tuple #[])) (c :: cs)) w := by
  obtain ⟨hsz, h0, h1, _⟩ := hA
  obtain ⟨s, rfl⟩ := kpeT_of hsz
  change s 0 = _ at h0
  change s 1 = _ at h1
  clear hsz
  simp only [kpeT, h0, h1]
  clear h0 h1
  have hneg2 : ¬ 0 ≤ n := by omega
  rw [Frame.finish_at]
  simp only [kpeo3, Code.opsOf, kper3, Code.piece, kpeBody, Try.f44, Option.getD_some, List.size_toArray, List.length_cons, List.length_nil, Nat.reduceAdd, Nat.zero_add, List.range, List.range.loop]
  walk_nrm
  refine ogE ?_
  rw [kpes5_eq]
  refine ogS ?_
  rw [kper4_eq]
  refine ogR ?_
  simp only [kpeo4, Code.opsOf, kper4, Code.piece, kpeBody, Try.f44, Option.getD_some, List.size_toArray, List.length_cons, List.length_nil, Nat.reduceAdd, Nat.zero_add, List.range, List.range.loop]
  (refine oW fun dd K hK => ?_; go_simp; refine qT hK ?_; clear hK K)
  (refine oW fun dd K hK => ?_; go_simp; refine qT hK ?_; clear hK K)
  (refine oW fun dd K hK => ?_; go_simp; refine qT hK ?_; clear hK K)
  refine oc callable76 #[.pointer (some ⟨kb, 0, none⟩)] ?_
  refine own_ldU hc rfl ?_
  rw [Frame.finish_at]
  walk_nrm
  (refine oW fun dd K hK => ?_; go_simp; refine qT hK ?_; clear hK K)
  refine ogE ?_
  rw [kpes6_eq]
  refine ogS ?_
  rw [kpeb0_eq]
  refine ogB ?_
  rw [kpel7_eq]
  refine ogP ?_
  rw [kpes8_eq]
  refine ogS ?_
  rw [kpes9_eq]
  refine ogS ?_
  rw [kper5_eq]
  refine ogR ?_
  simp only [kpeo5, Code.opsOf, kper5, Code.piece, kpeBody, Try.f44, Option.getD_some, List.size_toArray, List.length_cons, List.length_nil, Nat.reduceAdd, Nat.zero_add, List.range, List.range.loop]
  (refine oW fun dd K hK => ?_; go_simp; refine qT hK ?_; clear hK K)
  refine oc callable77 #[.int .u64 (pk (n, t))] ?_
  refine own_of hn ht ?_
  rw [Frame.finish_at]
  walk_nrm
  (refine oW fun dd K hK => ?_; go_simp; refine qT hK ?_; clear hK K)
  refine ogE ?_
  rw [kpec19_eq]
  refine ogF ?_
  simp only [Bool.false_eq_true, if_false]
  refine own_go rfl (fun d => stepG_exit rfl) ?_
  rw [kpes17_eq]
  refine ogS ?_
  rw [kper13_eq]
  refine ogR ?_
  simp only [kpeo13, Code.opsOf, kper13, Code.piece, kpeBody, Try.f44, Option.getD_some, List.size_toArray, List.length_cons, List.length_nil, Nat.reduceAdd, Nat.zero_add, List.range, List.range.loop]
  (refine oW fun dd K hK => ?_; go_simp; refine qT hK ?_; clear hK K)
  (refine oW fun dd K hK => ?_; go_simp; refine qT hK ?_; clear hK K)
  refine ogE ?_
  refine ogX ?_
  refine own_go rfl (fun d => stepG_leave (fn := Try.f44) (v := .tuple #[.int .i64 0, .bool false]) rfl rfl Try.func44 (by simp [results, Try.f44]) (by simp [results, Try.f44, go_sem])) ?_
  exact h
set_option maxRecDepth 100000 in
set_option maxHeartbeats 2000000 in
theorem pk_1b {sv : Value} {kb : Nat} {i : Nat} {t : Int} (hn : (-1 : Int) ≤ (i : Nat) ∧ ((i : Nat) : Int) < 65536) (ht : 0 ≤ t ∧ t < 2147483648) (hc : w.cell? ⟨kb, 0, none⟩ = some (.int .u64 (pk ((i : Nat), t)))) {A : Array Value} (hA : Slots 42 A [(0, .pointer (some ⟨kb, 0, none⟩)), (1, sv)]) {cs : List Frame} {main : Bool} {Stop : Goroutine → World → Prop}
    (h : ∀ A, Slots 42 A [(0, .pointer (some ⟨kb, 0, none⟩)), (1, sv), (6, .int .u64 (pk ((i : Nat), t)))] → Own Try.prog main F Stop (G (Frame.enter Try.prog 79 #[sv] .normal) (((Go.Conc.base 44).at ⟨A, []⟩ [.inRegion kpeo6 [1], .code kpes11, .inBlock 1, .inLoop kpes8, .inBlock 0, .code kpes17]) :: cs)) w) :
    Own Try.prog main F Stop (G (((Go.Conc.base 44).at ⟨A, []⟩ [.inRegion kpeo3 [1], .code kpes5]).finish (.tuple #[])) (cs)) w := by
  obtain ⟨hsz, h0, h1, _⟩ := hA
  obtain ⟨s, rfl⟩ := kpeT_of hsz
  change s 0 = _ at h0
  change s 1 = _ at h1
  clear hsz
  simp only [kpeT, h0, h1]
  clear h0 h1
  rw [Frame.finish_at]
  simp only [kpeo3, Code.opsOf, kper3, Code.piece, kpeBody, Try.f44, Option.getD_some, List.size_toArray, List.length_cons, List.length_nil, Nat.reduceAdd, Nat.zero_add, List.range, List.range.loop]
  walk_nrm
  refine ogE ?_
  rw [kpes5_eq]
  refine ogS ?_
  rw [kper4_eq]
  refine ogR ?_
  simp only [kpeo4, Code.opsOf, kper4, Code.piece, kpeBody, Try.f44, Option.getD_some, List.size_toArray, List.length_cons, List.length_nil, Nat.reduceAdd, Nat.zero_add, List.range, List.range.loop]
  (refine oW fun dd K hK => ?_; go_simp; refine qT hK ?_; clear hK K)
  (refine oW fun dd K hK => ?_; go_simp; refine qT hK ?_; clear hK K)
  (refine oW fun dd K hK => ?_; go_simp; refine qT hK ?_; clear hK K)
  refine oc callable76 #[.pointer (some ⟨kb, 0, none⟩)] ?_
  refine own_ldU hc rfl ?_
  rw [Frame.finish_at]
  walk_nrm
  (refine oW fun dd K hK => ?_; go_simp; refine qT hK ?_; clear hK K)
  refine ogE ?_
  rw [kpes6_eq]
  refine ogS ?_
  rw [kpeb0_eq]
  refine ogB ?_
  rw [kpel7_eq]
  refine ogP ?_
  rw [kpes8_eq]
  refine ogS ?_
  rw [kpes9_eq]
  refine ogS ?_
  rw [kper5_eq]
  refine ogR ?_
  simp only [kpeo5, Code.opsOf, kper5, Code.piece, kpeBody, Try.f44, Option.getD_some, List.size_toArray, List.length_cons, List.length_nil, Nat.reduceAdd, Nat.zero_add, List.range, List.range.loop]
  (refine oW fun dd K hK => ?_; go_simp; refine qT hK ?_; clear hK K)
  refine oc callable77 #[.int .u64 (pk ((i : Nat), t))] ?_
  refine own_of hn ht ?_
  rw [Frame.finish_at]
  walk_nrm
  (refine oW fun dd K hK => ?_; go_simp; refine qT hK ?_; clear hK K)
  refine ogE ?_
  rw [kpec19_eq]
  refine ogT ?_
  simp only [if_true]
  refine ogK ?_
  rw [kpeb1_eq]
  refine ogB ?_
  rw [kpes10_eq]
  refine ogS ?_
  rw [kper6_eq]
  refine ogR ?_
  simp only [kpeo6, Code.opsOf, kper6, Code.piece, kpeBody, Try.f44, Option.getD_some, List.size_toArray, List.length_cons, List.length_nil, Nat.reduceAdd, Nat.zero_add, List.range, List.range.loop]
  (refine oW fun dd K hK => ?_; go_simp; refine qT hK ?_; clear hK K)
  refine oc callable79 #[sv] ?_
  refine h _ ?_
  exact ⟨rfl, rfl, rfl, rfl, trivial⟩
set_option maxRecDepth 100000 in
set_option maxHeartbeats 2000000 in
theorem pk_2 {sv : Value} {kb : Nat} {nb m i : Nat} {t v0 : Int} (hn : (-1 : Int) ≤ (i : Nat) ∧ ((i : Nat) : Int) < 65536) (ht : 0 ≤ t ∧ t < 2147483648) (hi : i < m) (hs : KH kb nb m w) (hc : w.cell? ⟨nb, i * 2 + 1, none⟩ = some (.int .i64 v0)) {A : Array Value} (hA : Slots 42 A [(0, .pointer (some ⟨kb, 0, none⟩)), (1, sv), (6, .int .u64 (pk ((i : Nat), t)))]) {cs : List Frame} {main : Bool} {Stop : Goroutine → World → Prop}
    (h : ∀ A, Slots 42 A [(0, .pointer (some ⟨kb, 0, none⟩)), (1, sv), (6, .int .u64 (pk ((i : Nat), t))), (7, .int .i64 v0)] → Own Try.prog main F Stop (G (Frame.enter Try.prog 79 #[sv] .normal) (((Go.Conc.base 44).at ⟨A, []⟩ [.inRegion kpeo8 [1], .code kpes13, .inBlock 1, .inLoop kpes8, .inBlock 0, .code kpes17]) :: cs)) w) :
    Own Try.prog main F Stop (G (((Go.Conc.base 44).at ⟨A, []⟩ [.inRegion kpeo6 [1], .code kpes11, .inBlock 1, .inLoop kpes8, .inBlock 0, .code kpes17]).finish (.tuple #[])) (cs)) w := by
  obtain ⟨hsz, h0, h1, h6, _⟩ := hA
  obtain ⟨s, rfl⟩ := kpeT_of hsz
  change s 0 = _ at h0
  change s 1 = _ at h1
  change s 6 = _ at h6
  clear hsz
  simp only [kpeT, h0, h1, h6]
  clear h0 h1 h6
  have hS : ∀ w d, KH kb nb m w → KH kb nb m (World.at w d) := fun w d h => h.at d
  rw [Frame.finish_at]
  simp only [kpeo6, Code.opsOf, kper6, Code.piece, kpeBody, Try.f44, Option.getD_some, List.size_toArray, List.length_cons, List.length_nil, Nat.reduceAdd, Nat.zero_add, List.range, List.range.loop]
  walk_nrm
  refine ogE ?_
  rw [kpes11_eq]
  refine ogS ?_
  rw [kper7_eq]
  refine own_drawnC (KH kb nb m) (last := 9) run_mixed (ll_of (by kernel_rfl)) (by decide) ?_
  simp only [kpeo7, Code.opsOf, kper7, Code.piece, kpeBody, Try.f44, Option.getD_some, List.size_toArray, List.length_cons, List.length_nil, Nat.reduceAdd, Nat.zero_add, List.range, List.range.loop]
  refine anyC_take hS (fun _ _ d h => h.at d) (i := 0) (v := .pointer (some ⟨kb, 0, none⟩)) hs rfl rfl (by kernel_rfl) (by kernel_rfl) (by kernel_rfl) (fun u hu => .inl ⟨rfl, fun d => ⟨by simp [go_sem, execOp, Act.eval], fun e he => by have hm := mem_listed he; simp [go_sem, execOp, Act.eval] at hm⟩⟩) ?_
  walk_nrm
  refine anyC_take hS (fun _ _ d h => h.at d) (i := 1) (v := .pointer (some ⟨kb, 0, none⟩)) hs rfl rfl (by kernel_rfl) (by kernel_rfl) (by kernel_rfl) (fun u hu => .inl ⟨rfl, fun d => ⟨by simp [go_sem, execOp, Act.eval], fun e he => by have hm := mem_listed he; simp [go_sem, execOp, Act.eval] at hm⟩⟩) ?_
  walk_nrm
  refine anyC_take hS (fun _ _ d h => h.at d) (i := 2) (v := .pointer (some ⟨kb, 2, none⟩)) hs rfl rfl (by kernel_rfl) (by kernel_rfl) (by kernel_rfl) (fun u hu => .inl ⟨rfl, fun d => ⟨by simp [go_sem, execOp, Act.eval], fun e he => by have hm := mem_listed he; simp [go_sem, execOp, Act.eval] at hm⟩⟩) ?_
  walk_nrm
  refine anyC_take hS (fun _ _ d h => h.at d) (i := 3) (v := .slice (some ⟨nb, 0, none⟩) m m) hs rfl rfl (by kernel_rfl) (by kernel_rfl) (by kernel_rfl) (fun u hu => .inl ⟨rfl, fun d => ⟨by simp [go_sem, execOp, Act.eval, hu.c2], fun e he => by have hm := mem_listed he; simp [go_sem, execOp, Act.eval, hu.c2] at hm; subst hm; exact evT_read _ _⟩⟩) ?_
  walk_nrm
  refine anyC_take hS (fun _ _ d h => h.at d) (i := 4) (v := .int .u64 (pk ((i : Nat), t))) hs rfl rfl (by kernel_rfl) (by kernel_rfl) (by kernel_rfl) (fun u hu => .inl ⟨rfl, fun d => ⟨by simp [go_sem, execOp, Act.eval], fun e he => by have hm := mem_listed he; simp [go_sem, execOp, Act.eval] at hm⟩⟩) ?_
  walk_nrm
  refine anyC_all (r := [5]) (by kernel_rfl) (by kernel_rfl) (fun j1 hj1 hjl => ?_)
  obtain rfl : j1 = 5 := by simpa using hj1
  refine ⟨_, rfl, .inr (.inr ⟨rfl, 77, #[.int .u64 (pk ((i : Nat), t))], fun v w' => v = .int .i64 (i : Nat) ∧ w = w', fun w => by simp [execOp, Act.eval, resolve, invoke, Deferred.ofValue, callable77.run], fun w => by simp [execOp, Act.eval, resolve, invoke, Deferred.ofValue, callable77.run, callable77.quiet], fun c cs Stop k => own_of hn ht (k _ _ ⟨rfl, rfl⟩), ?_⟩)⟩
  rintro v w' ⟨rfl, rfl⟩
  refine ⟨hs, ?_⟩
  walk_nrm
  refine anyC_take hS (fun _ _ d h => h.at d) (i := 6) (v := .pointer (some ⟨nb, i * 2, none⟩)) hs rfl rfl (by kernel_rfl) (by kernel_rfl) (by kernel_rfl) (fun u hu => .inl ⟨rfl, fun d => ⟨by simp [go_sem, execOp, Act.eval, hi], fun e he => by have hm := mem_listed he; simp [go_sem, execOp, Act.eval, hi] at hm⟩⟩) ?_
  walk_nrm
  refine anyC_take hS (fun _ _ d h => h.at d) (i := 7) (v := .pointer (some ⟨nb, i * 2 + 1, none⟩)) hs rfl rfl (by kernel_rfl) (by kernel_rfl) (by kernel_rfl) (fun u hu => .inl ⟨rfl, fun d => ⟨by simp [go_sem, execOp, Act.eval], fun e he => by have hm := mem_listed he; simp [go_sem, execOp, Act.eval] at hm⟩⟩) ?_
  walk_nrm
  refine anyC_all (r := [8]) (by kernel_rfl) (by kernel_rfl) (fun j1 hj1 hjl => ?_)
  obtain rfl : j1 = 8 := by simpa using hj1
  refine ⟨_, rfl, .inr (.inr ⟨rfl, 54, #[.pointer (some ⟨nb, i * 2 + 1, none⟩)], fun v w' => v = .int .i64 v0 ∧ w = w', fun w => by simp [execOp, Act.eval, resolve, invoke, Deferred.ofValue, callable54.run], fun w => by simp [execOp, Act.eval, resolve, invoke, Deferred.ofValue, callable54.run, callable54.quiet], fun c cs Stop k => own_ldI hc rfl (k _ _ ⟨rfl, rfl⟩), ?_⟩)⟩
  rintro v w' ⟨rfl, rfl⟩
  refine ⟨hs, ?_⟩
  walk_nrm
  refine anyC_end (by kernel_rfl) ?_ _
  (refine oW fun dd K hK => ?_; go_simp; refine qT hK ?_; clear hK K)
  refine ogE ?_
  rw [kpes12_eq]
  refine ogS ?_
  rw [kper8_eq]
  refine ogR ?_
  simp only [kpeo8, Code.opsOf, kper8, Code.piece, kpeBody, Try.f44, Option.getD_some, List.size_toArray, List.length_cons, List.length_nil, Nat.reduceAdd, Nat.zero_add, List.range, List.range.loop]
  (refine oW fun dd K hK => ?_; go_simp; refine qT hK ?_; clear hK K)
  refine oc callable79 #[sv] ?_
  refine h _ ?_
  exact ⟨rfl, rfl, rfl, rfl, rfl, trivial⟩
set_option maxRecDepth 100000 in
set_option maxHeartbeats 2000000 in
theorem pk_3a {sv : Value} {kb : Nat} {v : Int} {i : Nat} {n t u : Int} (heq : (pk (n, u) == pk ((i : Nat), t)) = true) (hc : w.cell? ⟨kb, 0, none⟩ = some (.int .u64 (pk (n, u)))) {A : Array Value} (hA : Slots 42 A [(0, .pointer (some ⟨kb, 0, none⟩)), (1, sv), (6, .int .u64 (pk ((i : Nat), t))), (7, .int .i64 v)]) {c : Frame} {cs : List Frame} {main : Bool} {Stop : Goroutine → World → Prop}
    (h : Own Try.prog main F Stop (G (c.finish (.tuple #[.int .i64 v, .bool true])) cs) w) :
    Own Try.prog main F Stop (G (((Go.Conc.base 44).at ⟨A, []⟩ [.inRegion kpeo8 [1], .code kpes13, .inBlock 1, .inLoop kpes8, .inBlock 0, .code kpes17]).finish (.tuple #[])) (c :: cs)) w := by
  obtain ⟨hsz, h0, h1, h6, h7, _⟩ := hA
  obtain ⟨s, rfl⟩ := kpeT_of hsz
  change s 0 = _ at h0
  change s 1 = _ at h1
  change s 6 = _ at h6
  change s 7 = _ at h7
  clear hsz
  simp only [kpeT, h0, h1, h6, h7]
  clear h0 h1 h6 h7
  rw [Frame.finish_at]
  simp only [kpeo8, Code.opsOf, kper8, Code.piece, kpeBody, Try.f44, Option.getD_some, List.size_toArray, List.length_cons, List.length_nil, Nat.reduceAdd, Nat.zero_add, List.range, List.range.loop]
  walk_nrm
  refine ogE ?_
  rw [kpes13_eq]
  refine ogS ?_
  rw [kper9_eq]
  refine ogR ?_
  simp only [kpeo9, Code.opsOf, kper9, Code.piece, kpeBody, Try.f44, Option.getD_some, List.size_toArray, List.length_cons, List.length_nil, Nat.reduceAdd, Nat.zero_add, List.range, List.range.loop]
  (refine oW fun dd K hK => ?_; go_simp; refine qT hK ?_; clear hK K)
  (refine oW fun dd K hK => ?_; go_simp; refine qT hK ?_; clear hK K)
  (refine oW fun dd K hK => ?_; go_simp; refine qT hK ?_; clear hK K)
  refine oc callable76 #[.pointer (some ⟨kb, 0, none⟩)] ?_
  refine own_ldU hc rfl ?_
  rw [Frame.finish_at]
  walk_nrm
  (refine oW fun dd K hK => ?_; go_simp; refine qT hK ?_; clear hK K)
  refine ogE ?_
  rw [kpes14_eq]
  refine ogS ?_
  rw [kpes15_eq]
  refine ogS ?_
  rw [kper10_eq]
  refine ogR ?_
  simp only [kpeo10, Code.opsOf, kper10, Code.piece, kpeBody, Try.f44, Option.getD_some, List.size_toArray, List.length_cons, List.length_nil, Nat.reduceAdd, Nat.zero_add, List.range, List.range.loop]
  (refine oW fun dd K hK => ?_; go_simp; refine qT hK ?_; clear hK K)
  (refine oW fun dd K hK => ?_; go_simp; refine qT hK ?_; clear hK K)
  (refine oW fun dd K hK => ?_; go_simp; refine qT hK ?_; clear hK K)
  refine ogE ?_
  rw [kpec39_eq]
  refine ogT ?_
  simp only [if_true]
  rw [kpes16_eq]
  refine ogS ?_
  rw [kper11_eq]
  refine ogR ?_
  simp only [kpeo11, Code.opsOf, kper11, Code.piece, kpeBody, Try.f44, Option.getD_some, List.size_toArray, List.length_cons, List.length_nil, Nat.reduceAdd, Nat.zero_add, List.range, List.range.loop]
  (refine oW fun dd K hK => ?_; go_simp; refine qT hK ?_; clear hK K)
  (refine oW fun dd K hK => ?_; go_simp; refine qT hK ?_; clear hK K)
  (refine oW fun dd K hK => ?_; go_simp; refine qT hK ?_; clear hK K)
  refine ogE ?_
  refine ogX ?_
  refine own_go rfl (fun d => stepG_leave (fn := Try.f44) (v := .tuple #[.int .i64 v, .bool true]) rfl rfl Try.func44 (by simp [results, Try.f44]) (by simp [results, Try.f44, go_sem])) ?_
  exact h
set_option maxRecDepth 100000 in
set_option maxHeartbeats 2000000 in
theorem pk_3b {sv : Value} {kb : Nat} {v : Int} {i : Nat} {n t u : Int} (heq : (pk (n, u) == pk ((i : Nat), t)) = false) (hn : -1 ≤ n ∧ n < 65536) (ht : 0 ≤ u ∧ u < 2147483648) (hneg : n < 0) (hc : w.cell? ⟨kb, 0, none⟩ = some (.int .u64 (pk (n, u)))) {A : Array Value} (hA : Slots 42 A [(0, .pointer (some ⟨kb, 0, none⟩)), (1, sv), (6, .int .u64 (pk ((i : Nat), t))), (7, .int .i64 v)]) {c : Frame} {cs : List Frame} {main : Bool} {Stop : Goroutine → World → Prop}
    (h : Own Try.prog main F Stop (G (c.finish (.tuple #[.int .i64 0, .bool false])) cs) w) :
    Own Try.prog main F Stop (G (((Go.Conc.base 44).at ⟨A, []⟩ [.inRegion kpeo8 [1], .code kpes13, .inBlock 1, .inLoop kpes8, .inBlock 0, .code kpes17]).finish (.tuple #[])) (c :: cs)) w := by
  obtain ⟨hsz, h0, h1, h6, h7, _⟩ := hA
  obtain ⟨s, rfl⟩ := kpeT_of hsz
  change s 0 = _ at h0
  change s 1 = _ at h1
  change s 6 = _ at h6
  change s 7 = _ at h7
  clear hsz
  simp only [kpeT, h0, h1, h6, h7]
  clear h0 h1 h6 h7
  have hneg2 : ¬ 0 ≤ n := by omega
  rw [Frame.finish_at]
  simp only [kpeo8, Code.opsOf, kper8, Code.piece, kpeBody, Try.f44, Option.getD_some, List.size_toArray, List.length_cons, List.length_nil, Nat.reduceAdd, Nat.zero_add, List.range, List.range.loop]
  walk_nrm
  refine ogE ?_
  rw [kpes13_eq]
  refine ogS ?_
  rw [kper9_eq]
  refine ogR ?_
  simp only [kpeo9, Code.opsOf, kper9, Code.piece, kpeBody, Try.f44, Option.getD_some, List.size_toArray, List.length_cons, List.length_nil, Nat.reduceAdd, Nat.zero_add, List.range, List.range.loop]
  (refine oW fun dd K hK => ?_; go_simp; refine qT hK ?_; clear hK K)
  (refine oW fun dd K hK => ?_; go_simp; refine qT hK ?_; clear hK K)
  (refine oW fun dd K hK => ?_; go_simp; refine qT hK ?_; clear hK K)
  refine oc callable76 #[.pointer (some ⟨kb, 0, none⟩)] ?_
  refine own_ldU hc rfl ?_
  rw [Frame.finish_at]
  walk_nrm
  (refine oW fun dd K hK => ?_; go_simp; refine qT hK ?_; clear hK K)
  refine ogE ?_
  rw [kpes14_eq]
  refine ogS ?_
  rw [kpes15_eq]
  refine ogS ?_
  rw [kper10_eq]
  refine ogR ?_
  simp only [kpeo10, Code.opsOf, kper10, Code.piece, kpeBody, Try.f44, Option.getD_some, List.size_toArray, List.length_cons, List.length_nil, Nat.reduceAdd, Nat.zero_add, List.range, List.range.loop]
  (refine oW fun dd K hK => ?_; go_simp; refine qT hK ?_; clear hK K)
  (refine oW fun dd K hK => ?_; go_simp; refine qT hK ?_; clear hK K)
  (refine oW fun dd K hK => ?_; go_simp; refine qT hK ?_; clear hK K)
  refine ogE ?_
  rw [kpec39_eq]
  refine ogF ?_
  simp only [Bool.false_eq_true, if_false]
  refine ogK ?_
  rw [kper12_eq]
  refine ogR ?_
  simp only [kpeo12, Code.opsOf, kper12, Code.piece, kpeBody, Try.f44, Option.getD_some, List.size_toArray, List.length_cons, List.length_nil, Nat.reduceAdd, Nat.zero_add, List.range, List.range.loop]
  (refine oW fun dd K hK => ?_; go_simp; refine qT hK ?_; clear hK K)
  (refine oW fun dd K hK => ?_; go_simp; refine qT hK ?_; clear hK K)
  refine ogE ?_
  refine ogI ?_
  refine ogL ?_
  rw [kpes8_eq]
  refine ogS ?_
  rw [kpes9_eq]
  refine ogS ?_
  rw [kper5_eq]
  refine ogR ?_
  simp only [kpeo5, Code.opsOf, kper5, Code.piece, kpeBody, Try.f44, Option.getD_some, List.size_toArray, List.length_cons, List.length_nil, Nat.reduceAdd, Nat.zero_add, List.range, List.range.loop]
  (refine oW fun dd K hK => ?_; go_simp; refine qT hK ?_; clear hK K)
  refine oc callable77 #[.int .u64 (pk (n, u))] ?_
  refine own_of hn ht ?_
  rw [Frame.finish_at]
  walk_nrm
  (refine oW fun dd K hK => ?_; go_simp; refine qT hK ?_; clear hK K)
  refine ogE ?_
  rw [kpec19_eq]
  refine ogF ?_
  simp only [Bool.false_eq_true, if_false]
  refine own_go rfl (fun d => stepG_exit rfl) ?_
  rw [kpes17_eq]
  refine ogS ?_
  rw [kper13_eq]
  refine ogR ?_
  simp only [kpeo13, Code.opsOf, kper13, Code.piece, kpeBody, Try.f44, Option.getD_some, List.size_toArray, List.length_cons, List.length_nil, Nat.reduceAdd, Nat.zero_add, List.range, List.range.loop]
  (refine oW fun dd K hK => ?_; go_simp; refine qT hK ?_; clear hK K)
  (refine oW fun dd K hK => ?_; go_simp; refine qT hK ?_; clear hK K)
  refine ogE ?_
  refine ogX ?_
  refine own_go rfl (fun d => stepG_leave (fn := Try.f44) (v := .tuple #[.int .i64 0, .bool false]) rfl rfl Try.func44 (by simp [results, Try.f44]) (by simp [results, Try.f44, go_sem])) ?_
  exact h
set_option maxRecDepth 100000 in
set_option maxHeartbeats 2000000 in
theorem pk_3c {sv : Value} {kb : Nat} {v : Int} {i j : Nat} {t u : Int} (heq : (pk ((j : Nat), u) == pk ((i : Nat), t)) = false) (hn : (-1 : Int) ≤ (j : Nat) ∧ ((j : Nat) : Int) < 65536) (ht : 0 ≤ u ∧ u < 2147483648) (hc : w.cell? ⟨kb, 0, none⟩ = some (.int .u64 (pk ((j : Nat), u)))) {A : Array Value} (hA : Slots 42 A [(0, .pointer (some ⟨kb, 0, none⟩)), (1, sv), (6, .int .u64 (pk ((i : Nat), t))), (7, .int .i64 v)]) {cs : List Frame} {main : Bool} {Stop : Goroutine → World → Prop}
    (h : ∀ A, Slots 42 A [(0, .pointer (some ⟨kb, 0, none⟩)), (1, sv), (6, .int .u64 (pk ((j : Nat), u)))] → Own Try.prog main F Stop (G (Frame.enter Try.prog 79 #[sv] .normal) (((Go.Conc.base 44).at ⟨A, []⟩ [.inRegion kpeo6 [1], .code kpes11, .inBlock 1, .inLoop kpes8, .inBlock 0, .code kpes17]) :: cs)) w) :
    Own Try.prog main F Stop (G (((Go.Conc.base 44).at ⟨A, []⟩ [.inRegion kpeo8 [1], .code kpes13, .inBlock 1, .inLoop kpes8, .inBlock 0, .code kpes17]).finish (.tuple #[])) (cs)) w := by
  obtain ⟨hsz, h0, h1, h6, h7, _⟩ := hA
  obtain ⟨s, rfl⟩ := kpeT_of hsz
  change s 0 = _ at h0
  change s 1 = _ at h1
  change s 6 = _ at h6
  change s 7 = _ at h7
  clear hsz
  simp only [kpeT, h0, h1, h6, h7]
  clear h0 h1 h6 h7
  rw [Frame.finish_at]
  simp only [kpeo8, Code.opsOf, kper8, Code.piece, kpeBody, Try.f44, Option.getD_some, List.size_toArray, List.length_cons, List.length_nil, Nat.reduceAdd, Nat.zero_add, List.range, List.range.loop]
  walk_nrm
  refine ogE ?_
  rw [kpes13_eq]
  refine ogS ?_
  rw [kper9_eq]
  refine ogR ?_
  simp only [kpeo9, Code.opsOf, kper9, Code.piece, kpeBody, Try.f44, Option.getD_some, List.size_toArray, List.length_cons, List.length_nil, Nat.reduceAdd, Nat.zero_add, List.range, List.range.loop]
  (refine oW fun dd K hK => ?_; go_simp; refine qT hK ?_; clear hK K)
  (refine oW fun dd K hK => ?_; go_simp; refine qT hK ?_; clear hK K)
  (refine oW fun dd K hK => ?_; go_simp; refine qT hK ?_; clear hK K)
  refine oc callable76 #[.pointer (some ⟨kb, 0, none⟩)] ?_
  refine own_ldU hc rfl ?_
  rw [Frame.finish_at]
  walk_nrm
  (refine oW fun dd K hK => ?_; go_simp; refine qT hK ?_; clear hK K)
  refine ogE ?_
  rw [kpes14_eq]
  refine ogS ?_
  rw [kpes15_eq]
  refine ogS ?_
  rw [kper10_eq]
  refine ogR ?_
  simp only [kpeo10, Code.opsOf, kper10, Code.piece, kpeBody, Try.f44, Option.getD_some, List.size_toArray, List.length_cons, List.length_nil, Nat.reduceAdd, Nat.zero_add, List.range, List.range.loop]
  (refine oW fun dd K hK => ?_; go_simp; refine qT hK ?_; clear hK K)
  (refine oW fun dd K hK => ?_; go_simp; refine qT hK ?_; clear hK K)
  (refine oW fun dd K hK => ?_; go_simp; refine qT hK ?_; clear hK K)
  refine ogE ?_
  rw [kpec39_eq]
  refine ogF ?_
  simp only [Bool.false_eq_true, if_false]
  refine ogK ?_
  rw [kper12_eq]
  refine ogR ?_
  simp only [kpeo12, Code.opsOf, kper12, Code.piece, kpeBody, Try.f44, Option.getD_some, List.size_toArray, List.length_cons, List.length_nil, Nat.reduceAdd, Nat.zero_add, List.range, List.range.loop]
  (refine oW fun dd K hK => ?_; go_simp; refine qT hK ?_; clear hK K)
  (refine oW fun dd K hK => ?_; go_simp; refine qT hK ?_; clear hK K)
  refine ogE ?_
  refine ogI ?_
  refine ogL ?_
  rw [kpes8_eq]
  refine ogS ?_
  rw [kpes9_eq]
  refine ogS ?_
  rw [kper5_eq]
  refine ogR ?_
  simp only [kpeo5, Code.opsOf, kper5, Code.piece, kpeBody, Try.f44, Option.getD_some, List.size_toArray, List.length_cons, List.length_nil, Nat.reduceAdd, Nat.zero_add, List.range, List.range.loop]
  (refine oW fun dd K hK => ?_; go_simp; refine qT hK ?_; clear hK K)
  refine oc callable77 #[.int .u64 (pk ((j : Nat), u))] ?_
  refine own_of hn ht ?_
  rw [Frame.finish_at]
  walk_nrm
  (refine oW fun dd K hK => ?_; go_simp; refine qT hK ?_; clear hK K)
  refine ogE ?_
  rw [kpec19_eq]
  refine ogT ?_
  simp only [if_true]
  refine ogK ?_
  rw [kpeb1_eq]
  refine ogB ?_
  rw [kpes10_eq]
  refine ogS ?_
  rw [kper6_eq]
  refine ogR ?_
  simp only [kpeo6, Code.opsOf, kper6, Code.piece, kpeBody, Try.f44, Option.getD_some, List.size_toArray, List.length_cons, List.length_nil, Nat.reduceAdd, Nat.zero_add, List.range, List.range.loop]
  (refine oW fun dd K hK => ?_; go_simp; refine qT hK ?_; clear hK K)
  refine oc callable79 #[sv] ?_
  refine h _ ?_
  exact ⟨rfl, rfl, rfl, rfl, trivial⟩
noncomputable def kemBody : Code := Try.f46.body.getD .skip
noncomputable def kems0 : Code := Code.piece [] kemBody
noncomputable def kemr0 : Code := Code.piece [true] kemBody
noncomputable def kemo0 : Array Oper := Code.opsOf kemr0
noncomputable def kems1 : Code := Code.piece [false] kemBody
noncomputable def kems2 : Code := Code.piece [false, true] kemBody
noncomputable def kemr1 : Code := Code.piece [false, true, true] kemBody
noncomputable def kemo1 : Array Oper := Code.opsOf kemr1
noncomputable def kemc6 : Code := Code.piece [false, true, false] kemBody
noncomputable def kems3 : Code := Code.piece [false, true, false, true] kemBody
noncomputable def kemr2 : Code := Code.piece [false, true, false, true, true] kemBody
noncomputable def kemo2 : Array Oper := Code.opsOf kemr2
noncomputable def kems4 : Code := Code.piece [false, false] kemBody
noncomputable def kemr3 : Code := Code.piece [false, false, true] kemBody
noncomputable def kemo3 : Array Oper := Code.opsOf kemr3
noncomputable def kems5 : Code := Code.piece [false, false, false] kemBody
noncomputable def kemr4 : Code := Code.piece [false, false, false, true] kemBody
noncomputable def kemo4 : Array Oper := Code.opsOf kemr4
theorem kems0_eq : kems0 = .seq kemr0 kems1 := by kernel_rfl
theorem kemr0_eq : kemr0 = .region 0 kemo0 false := by kernel_rfl
theorem kems1_eq : kems1 = .seq kems2 kems4 := by kernel_rfl
theorem kems2_eq : kems2 = .seq kemr1 kemc6 := by kernel_rfl
theorem kemr1_eq : kemr1 = .region 1 kemo1 false := by kernel_rfl
theorem kemc6_eq : kemc6 = .cond (.tmp 6) kems3 .skip := by kernel_rfl
theorem kems3_eq : kems3 = .seq kemr2 .ret := by kernel_rfl
theorem kemr2_eq : kemr2 = .region 2 kemo2 false := by kernel_rfl
theorem kems4_eq : kems4 = .seq kemr3 kems5 := by kernel_rfl
theorem kemr3_eq : kemr3 = .region 3 kemo3 false := by kernel_rfl
theorem kems5_eq : kems5 = .seq kemr4 .ret := by kernel_rfl
theorem kemr4_eq : kemr4 = .region 4 kemo4 false := by kernel_rfl
theorem enter_kem (args : Array Value) : Frame.enter Try.prog 46 args .normal = (Go.Conc.base 46).at { tmps := args ++ Array.replicate (15 - args.size) undef, defers := [] } [.code kems0] := enter_at args Try.func46 rfl
theorem callable46 : Callable 46 := callable Try.func46 rfl rfl
def kemT (s : Nat → Value) : Array Value := #[s 0, s 1, s 2, s 3, s 4, s 5, s 6, s 7, s 8, s 9, s 10, s 11, s 12, s 13, s 14]
theorem kemT_of {A : Array Value} (h : A.size = 15) : ∃ s, A = kemT s := by
  obtain ⟨s, hs, _⟩ := arr_lit A h
  exact ⟨s, hs⟩
set_option maxRecDepth 100000 in
set_option maxHeartbeats 2000000 in
theorem em_0 {sv : Value} {kb : Nat}  {cs : List Frame} {main : Bool} {Stop : Goroutine → World → Prop}
    (h : ∀ A, Slots 15 A [(0, .pointer (some ⟨kb, 0, none⟩)), (1, sv)] → Own Try.prog main F Stop (G (Frame.enter Try.prog 79 #[sv] .normal) (((Go.Conc.base 46).at ⟨A, []⟩ [.inRegion kemo3 [1], .code kems5]) :: cs)) w) :
    Own Try.prog main F Stop (G (Frame.enter Try.prog 46 #[.pointer (some ⟨kb, 0, none⟩), sv] .normal) cs) w := by
  rw [enter_kem]
  walk_nrm
  rw [kems0_eq]
  refine ogS ?_
  rw [kemr0_eq]
  refine ogR ?_
  simp only [kemo0, Code.opsOf, kemr0, Code.piece, kemBody, Try.f46, Option.getD_some, List.size_toArray, List.length_cons, List.length_nil, Nat.reduceAdd, Nat.zero_add, List.range, List.range.loop]
  (refine oW fun dd K hK => ?_; go_simp; refine qT hK ?_; clear hK K)
  refine ogE ?_
  rw [kems1_eq]
  refine ogS ?_
  rw [kems2_eq]
  refine ogS ?_
  rw [kemr1_eq]
  refine ogR ?_
  simp only [kemo1, Code.opsOf, kemr1, Code.piece, kemBody, Try.f46, Option.getD_some, List.size_toArray, List.length_cons, List.length_nil, Nat.reduceAdd, Nat.zero_add, List.range, List.range.loop]
  (refine oW fun dd K hK => ?_; go_simp; refine qT hK ?_; clear hK K)
  (refine oW fun dd K hK => ?_; go_simp; refine qT hK ?_; clear hK K)
  refine ogE ?_
  rw [kemc6_eq]
  refine ogF ?_
  simp only [Bool.false_eq_true, if_false]
  refine ogK ?_
  rw [kems4_eq]
  refine ogS ?_
  rw [kemr3_eq]
  refine ogR ?_
  simp only [kemo3, Code.opsOf, kemr3, Code.piece, kemBody, Try.f46, Option.getD_some, List.size_toArray, List.length_cons, List.length_nil, Nat.reduceAdd, Nat.zero_add, List.range, List.range.loop]
  (refine oW fun dd K hK => ?_; go_simp; refine qT hK ?_; clear hK K)
  refine oc callable79 #[sv] ?_
  refine h _ ?_
  exact ⟨rfl, rfl, rfl, trivial⟩
set_option maxRecDepth 100000 in
set_option maxHeartbeats 2000000 in
theorem em_1 {sv : Value} {kb : Nat} {n t : Int} (hn : -1 ≤ n ∧ n < 65536) (ht : 0 ≤ t ∧ t < 2147483648) (hc : w.cell? ⟨kb, 0, none⟩ = some (.int .u64 (pk (n, t)))) {A : Array Value} (hA : Slots 15 A [(0, .pointer (some ⟨kb, 0, none⟩)), (1, sv)]) {c : Frame} {cs : List Frame} {main : Bool} {Stop : Goroutine → World → Prop}
    (h : Own Try.prog main F Stop (G (c.finish (.bool (decide (n < 0)))) cs) w) :
    Own Try.prog main F Stop (G (((Go.Conc.base 46).at ⟨A, []⟩ [.inRegion kemo3 [1], .code kems5]).finish (.tuple #[])) (c :: cs)) w := by
  obtain ⟨hsz, h0, h1, _⟩ := hA
  obtain ⟨s, rfl⟩ := kemT_of hsz
  change s 0 = _ at h0
  change s 1 = _ at h1
  clear hsz
  simp only [kemT, h0, h1]
  clear h0 h1
  rw [Frame.finish_at]
  simp only [kemo3, Code.opsOf, kemr3, Code.piece, kemBody, Try.f46, Option.getD_some, List.size_toArray, List.length_cons, List.length_nil, Nat.reduceAdd, Nat.zero_add, List.range, List.range.loop]
  walk_nrm
  refine ogE ?_
  rw [kems5_eq]
  refine ogS ?_
  rw [kemr4_eq]
  refine ogR ?_
  simp only [kemo4, Code.opsOf, kemr4, Code.piece, kemBody, Try.f46, Option.getD_some, List.size_toArray, List.length_cons, List.length_nil, Nat.reduceAdd, Nat.zero_add, List.range, List.range.loop]
  (refine oW fun dd K hK => ?_; go_simp; refine qT hK ?_; clear hK K)
  (refine oW fun dd K hK => ?_; go_simp; refine qT hK ?_; clear hK K)
  (refine oW fun dd K hK => ?_; go_simp; refine qT hK ?_; clear hK K)
  refine oc callable76 #[.pointer (some ⟨kb, 0, none⟩)] ?_
  refine own_ldU hc rfl ?_
  rw [Frame.finish_at]
  walk_nrm
  refine oc callable77 #[.int .u64 (pk (n, t))] ?_
  refine own_of hn ht ?_
  rw [Frame.finish_at]
  walk_nrm
  (refine oW fun dd K hK => ?_; go_simp; refine qT hK ?_; clear hK K)
  (refine oW fun dd K hK => ?_; go_simp; refine qT hK ?_; clear hK K)
  refine ogE ?_
  refine ogX ?_
  refine own_go rfl (fun d => stepG_leave (fn := Try.f46) (v := .bool (decide (n < 0))) rfl rfl Try.func46 (by simp [results, Try.f46]) (by simp [results, Try.f46, go_sem])) ?_
  exact h
end Go.Proofs.Ytlcgkpapnpdfpaa
namespace Go.Proofs.Ytlcgkpapnpdfpaa
open Go Go.Conc Go.RowKit Go.Proofs
variable {F : Fz} {w : World}
noncomputable def kdoBody : Code := Try.f64.body.getD .skip
noncomputable def kdos0 : Code := Code.piece [] kdoBody
noncomputable def kdor0 : Code := Code.piece [true] kdoBody
noncomputable def kdoo0 : Array Oper := Code.opsOf kdor0
noncomputable def kdos1 : Code := Code.piece [false] kdoBody
noncomputable def kdos2 : Code := Code.piece [false, true] kdoBody
noncomputable def kdor1 : Code := Code.piece [false, true, true] kdoBody
noncomputable def kdoo1 : Array Oper := Code.opsOf kdor1
noncomputable def kdob0 : Code := Code.piece [false, true, false] kdoBody
noncomputable def kdos3 : Code := Code.piece [false, true, false, true] kdoBody
noncomputable def kdor2 : Code := Code.piece [false, true, false, true, true] kdoBody
noncomputable def kdoo2 : Array Oper := Code.opsOf kdor2
noncomputable def kdoc15 : Code := Code.piece [false, true, false, true, false] kdoBody
noncomputable def kdos4 : Code := Code.piece [false, true, false, true, false, true] kdoBody
noncomputable def kdor3 : Code := Code.piece [false, true, false, true, false, true, true] kdoBody
noncomputable def kdoo3 : Array Oper := Code.opsOf kdor3
noncomputable def kdos5 : Code := Code.piece [false, true, false, true, false, false] kdoBody
noncomputable def kdor4 : Code := Code.piece [false, true, false, true, false, false, true] kdoBody
noncomputable def kdoo4 : Array Oper := Code.opsOf kdor4
noncomputable def kdoc23 : Code := Code.piece [false, true, false, true, false, false, false] kdoBody
noncomputable def kdos6 : Code := Code.piece [false, true, false, true, false, false, false, true] kdoBody
noncomputable def kdor5 : Code := Code.piece [false, true, false, true, false, false, false, true, true] kdoBody
noncomputable def kdoo5 : Array Oper := Code.opsOf kdor5
noncomputable def kdos7 : Code := Code.piece [false, true, false, true, false, false, false, true, false] kdoBody
noncomputable def kdor6 : Code := Code.piece [false, true, false, true, false, false, false, true, false, true] kdoBody
noncomputable def kdoo6 : Array Oper := Code.opsOf kdor6
noncomputable def kdos8 : Code := Code.piece [false, true, false, true, false, false, false, false] kdoBody
noncomputable def kdor7 : Code := Code.piece [false, true, false, true, false, false, false, false, true] kdoBody
noncomputable def kdoo7 : Array Oper := Code.opsOf kdor7
noncomputable def kdoc34 : Code := Code.piece [false, true, false, true, false, false, false, false, false] kdoBody
noncomputable def kdos9 : Code := Code.piece [false, true, false, true, false, false, false, false, false, true] kdoBody
noncomputable def kdor8 : Code := Code.piece [false, true, false, true, false, false, false, false, false, true, true] kdoBody
noncomputable def kdoo8 : Array Oper := Code.opsOf kdor8
noncomputable def kdos10 : Code := Code.piece [false, true, false, true, false, false, false, false, false, true, false] kdoBody
noncomputable def kdor9 : Code := Code.piece [false, true, false, true, false, false, false, false, false, true, false, true] kdoBody
noncomputable def kdoo9 : Array Oper := Code.opsOf kdor9
noncomputable def kdos11 : Code := Code.piece [false, true, false, true, false, false, false, false, false, false] kdoBody
noncomputable def kdor10 : Code := Code.piece [false, true, false, true, false, false, false, false, false, false, true] kdoBody
noncomputable def kdoo10 : Array Oper := Code.opsOf kdor10
noncomputable def kdoc45 : Code := Code.piece [false, true, false, true, false, false, false, false, false, false, false] kdoBody
noncomputable def kdos12 : Code := Code.piece [false, true, false, true, false, false, false, false, false, false, false, true] kdoBody
noncomputable def kdor11 : Code := Code.piece [false, true, false, true, false, false, false, false, false, false, false, true, true] kdoBody
noncomputable def kdoo11 : Array Oper := Code.opsOf kdor11
noncomputable def kdos13 : Code := Code.piece [false, false] kdoBody
noncomputable def kdor12 : Code := Code.piece [false, false, true] kdoBody
noncomputable def kdoo12 : Array Oper := Code.opsOf kdor12
theorem kdos0_eq : kdos0 = .seq kdor0 kdos1 := by kernel_rfl
theorem kdor0_eq : kdor0 = .region 0 kdoo0 false := by kernel_rfl
theorem kdos1_eq : kdos1 = .seq kdos2 kdos13 := by kernel_rfl
theorem kdos2_eq : kdos2 = .seq kdor1 kdob0 := by kernel_rfl
theorem kdor1_eq : kdor1 = .region 1 kdoo1 false := by kernel_rfl
theorem kdob0_eq : kdob0 = .block 0 kdos3 := by kernel_rfl
theorem kdos3_eq : kdos3 = .seq kdor2 kdoc15 := by kernel_rfl
theorem kdor2_eq : kdor2 = .region 2 kdoo2 false := by kernel_rfl
theorem kdoc15_eq : kdoc15 = .cond (.tmp 15) kdos4 kdos5 := by kernel_rfl
theorem kdos4_eq : kdos4 = .seq kdor3 .ret := by kernel_rfl
theorem kdor3_eq : kdor3 = .region 3 kdoo3 false := by kernel_rfl
theorem kdos5_eq : kdos5 = .seq kdor4 kdoc23 := by kernel_rfl
theorem kdor4_eq : kdor4 = .region 4 kdoo4 false := by kernel_rfl
theorem kdoc23_eq : kdoc23 = .cond (.tmp 23) kdos6 kdos8 := by kernel_rfl
theorem kdos6_eq : kdos6 = .seq kdor5 kdos7 := by kernel_rfl
theorem kdor5_eq : kdor5 = .region 5 kdoo5 false := by kernel_rfl
theorem kdos7_eq : kdos7 = .seq kdor6 .ret := by kernel_rfl
theorem kdor6_eq : kdor6 = .region 6 kdoo6 false := by kernel_rfl
theorem kdos8_eq : kdos8 = .seq kdor7 kdoc34 := by kernel_rfl
theorem kdor7_eq : kdor7 = .region 7 kdoo7 false := by kernel_rfl
theorem kdoc34_eq : kdoc34 = .cond (.tmp 34) kdos9 kdos11 := by kernel_rfl
theorem kdos9_eq : kdos9 = .seq kdor8 kdos10 := by kernel_rfl
theorem kdor8_eq : kdor8 = .region 8 kdoo8 false := by kernel_rfl
theorem kdos10_eq : kdos10 = .seq kdor9 .ret := by kernel_rfl
theorem kdor9_eq : kdor9 = .region 9 kdoo9 false := by kernel_rfl
theorem kdos11_eq : kdos11 = .seq kdor10 kdoc45 := by kernel_rfl
theorem kdor10_eq : kdor10 = .region 10 kdoo10 false := by kernel_rfl
theorem kdoc45_eq : kdoc45 = .cond (.tmp 45) kdos12 .skip := by kernel_rfl
theorem kdos12_eq : kdos12 = .seq kdor11 .ret := by kernel_rfl
theorem kdor11_eq : kdor11 = .region 11 kdoo11 false := by kernel_rfl
theorem kdos13_eq : kdos13 = .seq kdor12 .ret := by kernel_rfl
theorem kdor12_eq : kdor12 = .region 12 kdoo12 false := by kernel_rfl
theorem enter_kdo (args : Array Value) : Frame.enter Try.prog 64 args .normal = (Go.Conc.base 64).at { tmps := args ++ Array.replicate (52 - args.size) undef, defers := [] } [.code kdos0] := enter_at args Try.func64 rfl
theorem callable64 : Callable 64 := callable Try.func64 rfl rfl
def kdoT (s : Nat → Value) : Array Value := #[s 0, s 1, s 2, s 3, s 4, s 5, s 6, s 7, s 8, s 9, s 10, s 11, s 12, s 13, s 14, s 15, s 16, s 17, s 18, s 19, s 20, s 21, s 22, s 23, s 24, s 25, s 26, s 27, s 28, s 29, s 30, s 31, s 32, s 33, s 34, s 35, s 36, s 37, s 38, s 39, s 40, s 41, s 42, s 43, s 44, s 45, s 46, s 47, s 48, s 49, s 50, s 51]
theorem kdoT_of {A : Array Value} (h : A.size = 52) : ∃ s, A = kdoT s := by
  obtain ⟨s, hs, _⟩ := arr_lit A h
  exact ⟨s, hs⟩
set_option maxRecDepth 100000 in
set_option maxHeartbeats 2000000 in
theorem kdo_other {n : Nat} (hU : Under F n) (hn : n ≤ w.heap.size) {sv : Value} {kb i : Nat} {kd a b c0 : Int} (k1 : (kd == 1) = false) (k2 : (kd == 2) = false) (k3 : (kd == 3) = false) (k4 : (kd == 4) = false) {c : Frame} {cs : List Frame} {main : Bool} {Stop : Goroutine → World → Prop}
    (h : Own Try.prog main F Stop (G (c.finish (.agg #[.bool false, .int .i64 0, .slice none 0 0])) cs) (ansW ((w.alloc (.cells #[.int .i64 kd, .int .i64 a, .int .i64 b, .int .i64 c0] 47)).alloc (.cells #[.bool false, .int .i64 0, .slice none 0 0] 44)) (w.heap.size + 1) false 0)) :
    Own Try.prog main F Stop (G (Frame.enter Try.prog 64 #[.pointer (some ⟨kb, 0, none⟩), sv, .int .i64 i, .agg #[.int .i64 kd, .int .i64 a, .int .i64 b, .int .i64 c0]] .normal) (c :: cs)) w := by
  rw [enter_kdo]
  walk_nrm
  rw [kdos0_eq]
  refine ogS ?_
  rw [kdor0_eq]
  refine ogR ?_
  simp only [kdoo0, Code.opsOf, kdor0, Code.piece, kdoBody, Try.f64, Option.getD_some, List.size_toArray, List.length_cons, List.length_nil, Nat.reduceAdd, Nat.zero_add, List.range, List.range.loop]
  (refine oW fun dd K hK => ?_; go_simp; refine qA hK hU ?_; clear hK K)
  (refine oW fun dd K hK => ?_; go_simp; refine qA hK hU ?_; clear hK K)
  refine ogE ?_
  rw [kdos1_eq]
  refine ogS ?_
  rw [kdos2_eq]
  refine ogS ?_
  rw [kdor1_eq]
  refine ogR ?_
  simp only [kdoo1, Code.opsOf, kdor1, Code.piece, kdoBody, Try.f64, Option.getD_some, List.size_toArray, List.length_cons, List.length_nil, Nat.reduceAdd, Nat.zero_add, List.range, List.range.loop]
  (refine oW fun dd K hK => ?_; go_simp; refine qT hK ?_; clear hK K)
  (refine oW fun dd K hK => ?_; go_simp; refine qL hK ?_; clear hK K)
  refine ogE ?_
  rw [kdob0_eq]
  refine ogB ?_
  rw [kdos3_eq]
  refine ogS ?_
  rw [kdor2_eq]
  refine ogR ?_
  simp only [kdoo2, Code.opsOf, kdor2, Code.piece, kdoBody, Try.f64, Option.getD_some, List.size_toArray, List.length_cons, List.length_nil, Nat.reduceAdd, Nat.zero_add, List.range, List.range.loop]
  (refine oW fun dd K hK => ?_; go_simp; refine qT hK ?_; clear hK K)
  (refine oW fun dd K hK => ?_; go_simp; refine qT hK ?_; clear hK K)
  refine ogE ?_
  rw [kdoc15_eq]
  refine ogF ?_
  simp only [Bool.false_eq_true, if_false]
  rw [kdos5_eq]
  refine ogS ?_
  rw [kdor4_eq]
  refine ogR ?_
  simp only [kdoo4, Code.opsOf, kdor4, Code.piece, kdoBody, Try.f64, Option.getD_some, List.size_toArray, List.length_cons, List.length_nil, Nat.reduceAdd, Nat.zero_add, List.range, List.range.loop]
  (refine oW fun dd K hK => ?_; go_simp; refine qT hK ?_; clear hK K)
  (refine oW fun dd K hK => ?_; go_simp; refine qT hK ?_; clear hK K)
  refine ogE ?_
  rw [kdoc23_eq]
  refine ogF ?_
  simp only [Bool.false_eq_true, if_false]
  rw [kdos8_eq]
  refine ogS ?_
  rw [kdor7_eq]
  refine ogR ?_
  simp only [kdoo7, Code.opsOf, kdor7, Code.piece, kdoBody, Try.f64, Option.getD_some, List.size_toArray, List.length_cons, List.length_nil, Nat.reduceAdd, Nat.zero_add, List.range, List.range.loop]
  (refine oW fun dd K hK => ?_; go_simp; refine qT hK ?_; clear hK K)
  (refine oW fun dd K hK => ?_; go_simp; refine qT hK ?_; clear hK K)
  refine ogE ?_
  rw [kdoc34_eq]
  refine ogF ?_
  simp only [Bool.false_eq_true, if_false]
  rw [kdos11_eq]
  refine ogS ?_
  rw [kdor10_eq]
  refine ogR ?_
  simp only [kdoo10, Code.opsOf, kdor10, Code.piece, kdoBody, Try.f64, Option.getD_some, List.size_toArray, List.length_cons, List.length_nil, Nat.reduceAdd, Nat.zero_add, List.range, List.range.loop]
  (refine oW fun dd K hK => ?_; go_simp; refine qT hK ?_; clear hK K)
  (refine oW fun dd K hK => ?_; go_simp; refine qT hK ?_; clear hK K)
  refine ogE ?_
  rw [kdoc45_eq]
  refine ogF ?_
  simp only [Bool.false_eq_true, if_false]
  refine ogK ?_
  refine ogI ?_
  rw [kdos13_eq]
  refine ogS ?_
  rw [kdor12_eq]
  refine ogR ?_
  simp only [kdoo12, Code.opsOf, kdor12, Code.piece, kdoBody, Try.f64, Option.getD_some, List.size_toArray, List.length_cons, List.length_nil, Nat.reduceAdd, Nat.zero_add, List.range, List.range.loop]
  (refine oW fun dd K hK => ?_; go_simp; refine qT hK ?_; clear hK K)
  (refine oW fun dd K hK => ?_; go_simp; refine hK _ _ ⟨⟨⟨0, grew3 (fun k => not_held hU (show n ≤ w.heap.size + 1 by omega)) _ _ _⟩, fun e he => by (have hm := mem_listed he; clear he hK; simp [go_sem, storedEv] at hm; rcases hm with rfl | rfl | rfl <;> exact evT_write _ _ ((fun k => not_held hU (show n ≤ w.heap.size + 1 by omega)) _))⟩, ?_⟩; clear hK K; simp only [setCell_at']; refine Own.at ?_ dd)
  refine ogE ?_
  refine ogX ?_
  refine own_leave (fn := Try.f64) (v := .agg #[.bool false, .int .i64 0, .slice none 0 0]) rfl rfl Try.func64 (fun d => by simp [results, Try.f64, go_sem]) (fun d e he => by (simp [results, Try.f64, go_sem] at he; rcases he with rfl | rfl | rfl <;> exact evT_read _ _)) ?_
  exact h
set_option maxRecDepth 100000 in
set_option maxHeartbeats 2000000 in
theorem kdo_pu0 {n : Nat} (hU : Under F n) (hn : n ≤ w.heap.size) {sv : Value} {kb i : Nat} {a b c0 : Int}  {cs : List Frame} {main : Bool} {Stop : Goroutine → World → Prop}
    (h : ∀ A, Slots 52 A [(8, .pointer (some ⟨w.heap.size + 1, 0, none⟩))] → Own Try.prog main F Stop (G (Frame.enter Try.prog 45 #[.pointer (some ⟨kb, 0, none⟩), sv, .int .i64 a] .normal) (((Go.Conc.base 64).at ⟨A, []⟩ [.inRegion kdoo3 [4, 5, 6], .code .ret, .inBlock 0, .code kdos13]) :: cs)) ((w.alloc (.cells #[.int .i64 1, .int .i64 a, .int .i64 b, .int .i64 c0] 47)).alloc (.cells #[.bool false, .int .i64 0, .slice none 0 0] 44))) :
    Own Try.prog main F Stop (G (Frame.enter Try.prog 64 #[.pointer (some ⟨kb, 0, none⟩), sv, .int .i64 i, .agg #[.int .i64 1, .int .i64 a, .int .i64 b, .int .i64 c0]] .normal) cs) w := by
  rw [enter_kdo]
  walk_nrm
  rw [kdos0_eq]
  refine ogS ?_
  rw [kdor0_eq]
  refine ogR ?_
  simp only [kdoo0, Code.opsOf, kdor0, Code.piece, kdoBody, Try.f64, Option.getD_some, List.size_toArray, List.length_cons, List.length_nil, Nat.reduceAdd, Nat.zero_add, List.range, List.range.loop]
  (refine oW fun dd K hK => ?_; go_simp; refine qA hK hU ?_; clear hK K)
  (refine oW fun dd K hK => ?_; go_simp; refine qA hK hU ?_; clear hK K)
  refine ogE ?_
  rw [kdos1_eq]
  refine ogS ?_
  rw [kdos2_eq]
  refine ogS ?_
  rw [kdor1_eq]
  refine ogR ?_
  simp only [kdoo1, Code.opsOf, kdor1, Code.piece, kdoBody, Try.f64, Option.getD_some, List.size_toArray, List.length_cons, List.length_nil, Nat.reduceAdd, Nat.zero_add, List.range, List.range.loop]
  (refine oW fun dd K hK => ?_; go_simp; refine qT hK ?_; clear hK K)
  (refine oW fun dd K hK => ?_; go_simp; refine qL hK ?_; clear hK K)
  refine ogE ?_
  rw [kdob0_eq]
  refine ogB ?_
  rw [kdos3_eq]
  refine ogS ?_
  rw [kdor2_eq]
  refine ogR ?_
  simp only [kdoo2, Code.opsOf, kdor2, Code.piece, kdoBody, Try.f64, Option.getD_some, List.size_toArray, List.length_cons, List.length_nil, Nat.reduceAdd, Nat.zero_add, List.range, List.range.loop]
  (refine oW fun dd K hK => ?_; go_simp; refine qT hK ?_; clear hK K)
  (refine oW fun dd K hK => ?_; go_simp; refine qT hK ?_; clear hK K)
  refine ogE ?_
  rw [kdoc15_eq]
  refine ogT ?_
  simp only [if_true]
  rw [kdos4_eq]
  refine ogS ?_
  rw [kdor3_eq]
  refine ogR ?_
  simp only [kdoo3, Code.opsOf, kdor3, Code.piece, kdoBody, Try.f64, Option.getD_some, List.size_toArray, List.length_cons, List.length_nil, Nat.reduceAdd, Nat.zero_add, List.range, List.range.loop]
  (refine oW fun dd K hK => ?_; go_simp; refine qT hK ?_; clear hK K)
  (refine oW fun dd K hK => ?_; go_simp; refine qT hK ?_; clear hK K)
  (refine oW fun dd K hK => ?_; go_simp; refine qT hK ?_; clear hK K)
  (refine oW fun dd K hK => ?_; go_simp; refine qL hK ?_; clear hK K)
  refine oc callable45 #[.pointer (some ⟨kb, 0, none⟩), sv, .int .i64 a] ?_
  refine h _ ?_
  exact ⟨rfl, rfl, trivial⟩
set_option maxRecDepth 100000 in
set_option maxHeartbeats 2000000 in
theorem kdo_po0 {n : Nat} (hU : Under F n) (hn : n ≤ w.heap.size) {sv : Value} {kb i : Nat} {a b c0 : Int}  {cs : List Frame} {main : Bool} {Stop : Goroutine → World → Prop}
    (h : ∀ A, Slots 52 A [(8, .pointer (some ⟨w.heap.size + 1, 0, none⟩))] → Own Try.prog main F Stop (G (Frame.enter Try.prog 43 #[.pointer (some ⟨kb, 0, none⟩), sv] .normal) (((Go.Conc.base 64).at ⟨A, []⟩ [.inRegion kdoo5 [2, 3, 4, 5, 6, 7], .code kdos7, .inBlock 0, .code kdos13]) :: cs)) ((w.alloc (.cells #[.int .i64 2, .int .i64 a, .int .i64 b, .int .i64 c0] 47)).alloc (.cells #[.bool false, .int .i64 0, .slice none 0 0] 44))) :
    Own Try.prog main F Stop (G (Frame.enter Try.prog 64 #[.pointer (some ⟨kb, 0, none⟩), sv, .int .i64 i, .agg #[.int .i64 2, .int .i64 a, .int .i64 b, .int .i64 c0]] .normal) cs) w := by
  rw [enter_kdo]
  walk_nrm
  rw [kdos0_eq]
  refine ogS ?_
  rw [kdor0_eq]
  refine ogR ?_
  simp only [kdoo0, Code.opsOf, kdor0, Code.piece, kdoBody, Try.f64, Option.getD_some, List.size_toArray, List.length_cons, List.length_nil, Nat.reduceAdd, Nat.zero_add, List.range, List.range.loop]
  (refine oW fun dd K hK => ?_; go_simp; refine qA hK hU ?_; clear hK K)
  (refine oW fun dd K hK => ?_; go_simp; refine qA hK hU ?_; clear hK K)
  refine ogE ?_
  rw [kdos1_eq]
  refine ogS ?_
  rw [kdos2_eq]
  refine ogS ?_
  rw [kdor1_eq]
  refine ogR ?_
  simp only [kdoo1, Code.opsOf, kdor1, Code.piece, kdoBody, Try.f64, Option.getD_some, List.size_toArray, List.length_cons, List.length_nil, Nat.reduceAdd, Nat.zero_add, List.range, List.range.loop]
  (refine oW fun dd K hK => ?_; go_simp; refine qT hK ?_; clear hK K)
  (refine oW fun dd K hK => ?_; go_simp; refine qL hK ?_; clear hK K)
  refine ogE ?_
  rw [kdob0_eq]
  refine ogB ?_
  rw [kdos3_eq]
  refine ogS ?_
  rw [kdor2_eq]
  refine ogR ?_
  simp only [kdoo2, Code.opsOf, kdor2, Code.piece, kdoBody, Try.f64, Option.getD_some, List.size_toArray, List.length_cons, List.length_nil, Nat.reduceAdd, Nat.zero_add, List.range, List.range.loop]
  (refine oW fun dd K hK => ?_; go_simp; refine qT hK ?_; clear hK K)
  (refine oW fun dd K hK => ?_; go_simp; refine qT hK ?_; clear hK K)
  refine ogE ?_
  rw [kdoc15_eq]
  refine ogF ?_
  simp only [Bool.false_eq_true, if_false]
  rw [kdos5_eq]
  refine ogS ?_
  rw [kdor4_eq]
  refine ogR ?_
  simp only [kdoo4, Code.opsOf, kdor4, Code.piece, kdoBody, Try.f64, Option.getD_some, List.size_toArray, List.length_cons, List.length_nil, Nat.reduceAdd, Nat.zero_add, List.range, List.range.loop]
  (refine oW fun dd K hK => ?_; go_simp; refine qT hK ?_; clear hK K)
  (refine oW fun dd K hK => ?_; go_simp; refine qT hK ?_; clear hK K)
  refine ogE ?_
  rw [kdoc23_eq]
  refine ogT ?_
  simp only [if_true]
  rw [kdos6_eq]
  refine ogS ?_
  rw [kdor5_eq]
  refine ogR ?_
  simp only [kdoo5, Code.opsOf, kdor5, Code.piece, kdoBody, Try.f64, Option.getD_some, List.size_toArray, List.length_cons, List.length_nil, Nat.reduceAdd, Nat.zero_add, List.range, List.range.loop]
  (refine oW fun dd K hK => ?_; go_simp; refine qT hK ?_; clear hK K)
  (refine oW fun dd K hK => ?_; go_simp; refine qT hK ?_; clear hK K)
  refine oc callable43 #[.pointer (some ⟨kb, 0, none⟩), sv] ?_
  refine h _ ?_
  exact ⟨rfl, rfl, trivial⟩
set_option maxRecDepth 100000 in
set_option maxHeartbeats 2000000 in
theorem kdo_pe0 {n : Nat} (hU : Under F n) (hn : n ≤ w.heap.size) {sv : Value} {kb i : Nat} {a b c0 : Int}  {cs : List Frame} {main : Bool} {Stop : Goroutine → World → Prop}
    (h : ∀ A, Slots 52 A [(8, .pointer (some ⟨w.heap.size + 1, 0, none⟩))] → Own Try.prog main F Stop (G (Frame.enter Try.prog 44 #[.pointer (some ⟨kb, 0, none⟩), sv] .normal) (((Go.Conc.base 64).at ⟨A, []⟩ [.inRegion kdoo8 [2, 3, 4, 5, 6, 7], .code kdos10, .inBlock 0, .code kdos13]) :: cs)) ((w.alloc (.cells #[.int .i64 3, .int .i64 a, .int .i64 b, .int .i64 c0] 47)).alloc (.cells #[.bool false, .int .i64 0, .slice none 0 0] 44))) :
    Own Try.prog main F Stop (G (Frame.enter Try.prog 64 #[.pointer (some ⟨kb, 0, none⟩), sv, .int .i64 i, .agg #[.int .i64 3, .int .i64 a, .int .i64 b, .int .i64 c0]] .normal) cs) w := by
  rw [enter_kdo]
  walk_nrm
  rw [kdos0_eq]
  refine ogS ?_
  rw [kdor0_eq]
  refine ogR ?_
  simp only [kdoo0, Code.opsOf, kdor0, Code.piece, kdoBody, Try.f64, Option.getD_some, List.size_toArray, List.length_cons, List.length_nil, Nat.reduceAdd, Nat.zero_add, List.range, List.range.loop]
  (refine oW fun dd K hK => ?_; go_simp; refine qA hK hU ?_; clear hK K)
  (refine oW fun dd K hK => ?_; go_simp; refine qA hK hU ?_; clear hK K)
  refine ogE ?_
  rw [kdos1_eq]
  refine ogS ?_
  rw [kdos2_eq]
  refine ogS ?_
  rw [kdor1_eq]
  refine ogR ?_
  simp only [kdoo1, Code.opsOf, kdor1, Code.piece, kdoBody, Try.f64, Option.getD_some, List.size_toArray, List.length_cons, List.length_nil, Nat.reduceAdd, Nat.zero_add, List.range, List.range.loop]
  (refine oW fun dd K hK => ?_; go_simp; refine qT hK ?_; clear hK K)
  (refine oW fun dd K hK => ?_; go_simp; refine qL hK ?_; clear hK K)
  refine ogE ?_
  rw [kdob0_eq]
  refine ogB ?_
  rw [kdos3_eq]
  refine ogS ?_
  rw [kdor2_eq]
  refine ogR ?_
  simp only [kdoo2, Code.opsOf, kdor2, Code.piece, kdoBody, Try.f64, Option.getD_some, List.size_toArray, List.length_cons, List.length_nil, Nat.reduceAdd, Nat.zero_add, List.range, List.range.loop]
  (refine oW fun dd K hK => ?_; go_simp; refine qT hK ?_; clear hK K)
  (refine oW fun dd K hK => ?_; go_simp; refine qT hK ?_; clear hK K)
  refine ogE ?_
  rw [kdoc15_eq]
  refine ogF ?_
  simp only [Bool.false_eq_true, if_false]
  rw [kdos5_eq]
  refine ogS ?_
  rw [kdor4_eq]
  refine ogR ?_
  simp only [kdoo4, Code.opsOf, kdor4, Code.piece, kdoBody, Try.f64, Option.getD_some, List.size_toArray, List.length_cons, List.length_nil, Nat.reduceAdd, Nat.zero_add, List.range, List.range.loop]
  (refine oW fun dd K hK => ?_; go_simp; refine qT hK ?_; clear hK K)
  (refine oW fun dd K hK => ?_; go_simp; refine qT hK ?_; clear hK K)
  refine ogE ?_
  rw [kdoc23_eq]
  refine ogF ?_
  simp only [Bool.false_eq_true, if_false]
  rw [kdos8_eq]
  refine ogS ?_
  rw [kdor7_eq]
  refine ogR ?_
  simp only [kdoo7, Code.opsOf, kdor7, Code.piece, kdoBody, Try.f64, Option.getD_some, List.size_toArray, List.length_cons, List.length_nil, Nat.reduceAdd, Nat.zero_add, List.range, List.range.loop]
  (refine oW fun dd K hK => ?_; go_simp; refine qT hK ?_; clear hK K)
  (refine oW fun dd K hK => ?_; go_simp; refine qT hK ?_; clear hK K)
  refine ogE ?_
  rw [kdoc34_eq]
  refine ogT ?_
  simp only [if_true]
  rw [kdos9_eq]
  refine ogS ?_
  rw [kdor8_eq]
  refine ogR ?_
  simp only [kdoo8, Code.opsOf, kdor8, Code.piece, kdoBody, Try.f64, Option.getD_some, List.size_toArray, List.length_cons, List.length_nil, Nat.reduceAdd, Nat.zero_add, List.range, List.range.loop]
  (refine oW fun dd K hK => ?_; go_simp; refine qT hK ?_; clear hK K)
  (refine oW fun dd K hK => ?_; go_simp; refine qT hK ?_; clear hK K)
  refine oc callable44 #[.pointer (some ⟨kb, 0, none⟩), sv] ?_
  refine h _ ?_
  exact ⟨rfl, rfl, trivial⟩
set_option maxRecDepth 100000 in
set_option maxHeartbeats 2000000 in
theorem kdo_em0 {n : Nat} (hU : Under F n) (hn : n ≤ w.heap.size) {sv : Value} {kb i : Nat} {a b c0 : Int}  {cs : List Frame} {main : Bool} {Stop : Goroutine → World → Prop}
    (h : ∀ A, Slots 52 A [(8, .pointer (some ⟨w.heap.size + 1, 0, none⟩))] → Own Try.prog main F Stop (G (Frame.enter Try.prog 46 #[.pointer (some ⟨kb, 0, none⟩), sv] .normal) (((Go.Conc.base 64).at ⟨A, []⟩ [.inRegion kdoo11 [2, 3, 4], .code .ret, .inBlock 0, .code kdos13]) :: cs)) ((w.alloc (.cells #[.int .i64 4, .int .i64 a, .int .i64 b, .int .i64 c0] 47)).alloc (.cells #[.bool false, .int .i64 0, .slice none 0 0] 44))) :
    Own Try.prog main F Stop (G (Frame.enter Try.prog 64 #[.pointer (some ⟨kb, 0, none⟩), sv, .int .i64 i, .agg #[.int .i64 4, .int .i64 a, .int .i64 b, .int .i64 c0]] .normal) cs) w := by
  rw [enter_kdo]
  walk_nrm
  rw [kdos0_eq]
  refine ogS ?_
  rw [kdor0_eq]
  refine ogR ?_
  simp only [kdoo0, Code.opsOf, kdor0, Code.piece, kdoBody, Try.f64, Option.getD_some, List.size_toArray, List.length_cons, List.length_nil, Nat.reduceAdd, Nat.zero_add, List.range, List.range.loop]
  (refine oW fun dd K hK => ?_; go_simp; refine qA hK hU ?_; clear hK K)
  (refine oW fun dd K hK => ?_; go_simp; refine qA hK hU ?_; clear hK K)
  refine ogE ?_
  rw [kdos1_eq]
  refine ogS ?_
  rw [kdos2_eq]
  refine ogS ?_
  rw [kdor1_eq]
  refine ogR ?_
  simp only [kdoo1, Code.opsOf, kdor1, Code.piece, kdoBody, Try.f64, Option.getD_some, List.size_toArray, List.length_cons, List.length_nil, Nat.reduceAdd, Nat.zero_add, List.range, List.range.loop]
  (refine oW fun dd K hK => ?_; go_simp; refine qT hK ?_; clear hK K)
  (refine oW fun dd K hK => ?_; go_simp; refine qL hK ?_; clear hK K)
  refine ogE ?_
  rw [kdob0_eq]
  refine ogB ?_
  rw [kdos3_eq]
  refine ogS ?_
  rw [kdor2_eq]
  refine ogR ?_
  simp only [kdoo2, Code.opsOf, kdor2, Code.piece, kdoBody, Try.f64, Option.getD_some, List.size_toArray, List.length_cons, List.length_nil, Nat.reduceAdd, Nat.zero_add, List.range, List.range.loop]
  (refine oW fun dd K hK => ?_; go_simp; refine qT hK ?_; clear hK K)
  (refine oW fun dd K hK => ?_; go_simp; refine qT hK ?_; clear hK K)
  refine ogE ?_
  rw [kdoc15_eq]
  refine ogF ?_
  simp only [Bool.false_eq_true, if_false]
  rw [kdos5_eq]
  refine ogS ?_
  rw [kdor4_eq]
  refine ogR ?_
  simp only [kdoo4, Code.opsOf, kdor4, Code.piece, kdoBody, Try.f64, Option.getD_some, List.size_toArray, List.length_cons, List.length_nil, Nat.reduceAdd, Nat.zero_add, List.range, List.range.loop]
  (refine oW fun dd K hK => ?_; go_simp; refine qT hK ?_; clear hK K)
  (refine oW fun dd K hK => ?_; go_simp; refine qT hK ?_; clear hK K)
  refine ogE ?_
  rw [kdoc23_eq]
  refine ogF ?_
  simp only [Bool.false_eq_true, if_false]
  rw [kdos8_eq]
  refine ogS ?_
  rw [kdor7_eq]
  refine ogR ?_
  simp only [kdoo7, Code.opsOf, kdor7, Code.piece, kdoBody, Try.f64, Option.getD_some, List.size_toArray, List.length_cons, List.length_nil, Nat.reduceAdd, Nat.zero_add, List.range, List.range.loop]
  (refine oW fun dd K hK => ?_; go_simp; refine qT hK ?_; clear hK K)
  (refine oW fun dd K hK => ?_; go_simp; refine qT hK ?_; clear hK K)
  refine ogE ?_
  rw [kdoc34_eq]
  refine ogF ?_
  simp only [Bool.false_eq_true, if_false]
  rw [kdos11_eq]
  refine ogS ?_
  rw [kdor10_eq]
  refine ogR ?_
  simp only [kdoo10, Code.opsOf, kdor10, Code.piece, kdoBody, Try.f64, Option.getD_some, List.size_toArray, List.length_cons, List.length_nil, Nat.reduceAdd, Nat.zero_add, List.range, List.range.loop]
  (refine oW fun dd K hK => ?_; go_simp; refine qT hK ?_; clear hK K)
  (refine oW fun dd K hK => ?_; go_simp; refine qT hK ?_; clear hK K)
  refine ogE ?_
  rw [kdoc45_eq]
  refine ogT ?_
  simp only [if_true]
  rw [kdos12_eq]
  refine ogS ?_
  rw [kdor11_eq]
  refine ogR ?_
  simp only [kdoo11, Code.opsOf, kdor11, Code.piece, kdoBody, Try.f64, Option.getD_some, List.size_toArray, List.length_cons, List.length_nil, Nat.reduceAdd, Nat.zero_add, List.range, List.range.loop]
  (refine oW fun dd K hK => ?_; go_simp; refine qT hK ?_; clear hK K)
  (refine oW fun dd K hK => ?_; go_simp; refine qT hK ?_; clear hK K)
  refine oc callable46 #[.pointer (some ⟨kb, 0, none⟩), sv] ?_
  refine h _ ?_
  exact ⟨rfl, rfl, trivial⟩
set_option maxRecDepth 100000 in
set_option maxHeartbeats 2000000 in
theorem kdo_pu1 {ab : Nat} (ha : Ans w ab) (hnh : ∀ k, ¬ held F ⟨ab, k, none⟩) {b : Bool} {A : Array Value} (hA : Slots 52 A [(8, .pointer (some ⟨ab, 0, none⟩))]) {c : Frame} {cs : List Frame} {main : Bool} {Stop : Goroutine → World → Prop}
    (h : Own Try.prog main F Stop (G (c.finish (.agg #[.bool b, .int .i64 0, .slice none 0 0])) cs) (ansW w ab b 0)) :
    Own Try.prog main F Stop (G (((Go.Conc.base 64).at ⟨A, []⟩ [.inRegion kdoo3 [4, 5, 6], .code .ret, .inBlock 0, .code kdos13]).finish (.bool b)) (c :: cs)) w := by
  obtain ⟨hsz, h8, _⟩ := hA
  obtain ⟨s, rfl⟩ := kdoT_of hsz
  change s 8 = _ at h8
  clear hsz
  simp only [kdoT, h8]
  clear h8
  obtain ⟨x0, x1, x2, c0, c1, c2⟩ := ha.c
  have z0 := ha.z 0
  have z1 := ha.z 1
  have z2 := ha.z 2
  rw [Frame.finish_at]
  simp only [kdoo3, Code.opsOf, kdor3, Code.piece, kdoBody, Try.f64, Option.getD_some, List.size_toArray, List.length_cons, List.length_nil, Nat.reduceAdd, Nat.zero_add, List.range, List.range.loop]
  walk_nrm
  (refine oW fun dd K hK => ?_; go_simp; refine qT hK ?_; clear hK K)
  (refine oW fun dd K hK => ?_; go_simp; refine hK _ _ ⟨⟨⟨0, grew3 hnh _ _ _⟩, fun e he => by (have hm := mem_listed he; clear he hK; simp [go_sem, storedEv, c0, c1, c2, z0, z1, z2] at hm; rcases hm with rfl | rfl | rfl <;> exact evT_write _ _ (hnh _))⟩, ?_⟩; clear hK K; simp only [setCell_at']; refine Own.at ?_ dd)
  refine ogE ?_
  refine ogX ?_
  refine own_leave (fn := Try.f64) (v := .agg #[.bool b, .int .i64 0, .slice none 0 0]) rfl rfl Try.func64 (fun d => by simp [results, Try.f64, go_sem, c0, c1, c2, z0, z1, z2]) (fun d e he => by (simp [results, Try.f64, go_sem, c0, c1, c2, z0, z1, z2] at he; rcases he with rfl | rfl | rfl <;> exact evT_read _ _)) ?_
  exact h
set_option maxRecDepth 100000 in
set_option maxHeartbeats 2000000 in
theorem kdo_po1 {ab : Nat} (ha : Ans w ab) (hnh : ∀ k, ¬ held F ⟨ab, k, none⟩) {b : Bool} {v : Int} {A : Array Value} (hA : Slots 52 A [(8, .pointer (some ⟨ab, 0, none⟩))]) {c : Frame} {cs : List Frame} {main : Bool} {Stop : Goroutine → World → Prop}
    (h : Own Try.prog main F Stop (G (c.finish (.agg #[.bool b, .int .i64 v, .slice none 0 0])) cs) (ansW w ab b v)) :
    Own Try.prog main F Stop (G (((Go.Conc.base 64).at ⟨A, []⟩ [.inRegion kdoo5 [2, 3, 4, 5, 6, 7], .code kdos7, .inBlock 0, .code kdos13]).finish (.tuple #[.int .i64 v, .bool b])) (c :: cs)) w := by
  obtain ⟨hsz, h8, _⟩ := hA
  obtain ⟨s, rfl⟩ := kdoT_of hsz
  change s 8 = _ at h8
  clear hsz
  simp only [kdoT, h8]
  clear h8
  obtain ⟨x0, x1, x2, c0, c1, c2⟩ := ha.c
  have z0 := ha.z 0
  have z1 := ha.z 1
  have z2 := ha.z 2
  rw [Frame.finish_at]
  simp only [kdoo5, Code.opsOf, kdor5, Code.piece, kdoBody, Try.f64, Option.getD_some, List.size_toArray, List.length_cons, List.length_nil, Nat.reduceAdd, Nat.zero_add, List.range, List.range.loop]
  walk_nrm
  (refine oW fun dd K hK => ?_; go_simp; refine qT hK ?_; clear hK K)
  (refine oW fun dd K hK => ?_; go_simp; refine qT hK ?_; clear hK K)
  (refine oW fun dd K hK => ?_; go_simp; refine qT hK ?_; clear hK K)
  (refine oW fun dd K hK => ?_; go_simp; refine qT hK ?_; clear hK K)
  (refine oW fun dd K hK => ?_; go_simp; refine qT hK ?_; clear hK K)
  refine ogE ?_
  rw [kdos7_eq]
  refine ogS ?_
  rw [kdor6_eq]
  refine ogR ?_
  simp only [kdoo6, Code.opsOf, kdor6, Code.piece, kdoBody, Try.f64, Option.getD_some, List.size_toArray, List.length_cons, List.length_nil, Nat.reduceAdd, Nat.zero_add, List.range, List.range.loop]
  (refine oW fun dd K hK => ?_; go_simp; refine qT hK ?_; clear hK K)
  (refine oW fun dd K hK => ?_; go_simp; refine qT hK ?_; clear hK K)
  (refine oW fun dd K hK => ?_; go_simp; refine qT hK ?_; clear hK K)
  (refine oW fun dd K hK => ?_; go_simp; refine hK _ _ ⟨⟨⟨0, grew3 hnh _ _ _⟩, fun e he => by (have hm := mem_listed he; clear he hK; simp [go_sem, storedEv, c0, c1, c2, z0, z1, z2] at hm; rcases hm with rfl | rfl | rfl <;> exact evT_write _ _ (hnh _))⟩, ?_⟩; clear hK K; simp only [setCell_at']; refine Own.at ?_ dd)
  refine ogE ?_
  refine ogX ?_
  refine own_leave (fn := Try.f64) (v := .agg #[.bool b, .int .i64 v, .slice none 0 0]) rfl rfl Try.func64 (fun d => by simp [results, Try.f64, go_sem, c0, c1, c2, z0, z1, z2]) (fun d e he => by (simp [results, Try.f64, go_sem, c0, c1, c2, z0, z1, z2] at he; rcases he with rfl | rfl | rfl <;> exact evT_read _ _)) ?_
  exact h
set_option maxRecDepth 100000 in
set_option maxHeartbeats 2000000 in
theorem kdo_pe1 {ab : Nat} (ha : Ans w ab) (hnh : ∀ k, ¬ held F ⟨ab, k, none⟩) {b : Bool} {v : Int} {A : Array Value} (hA : Slots 52 A [(8, .pointer (some ⟨ab, 0, none⟩))]) {c : Frame} {cs : List Frame} {main : Bool} {Stop : Goroutine → World → Prop}
    (h : Own Try.prog main F Stop (G (c.finish (.agg #[.bool b, .int .i64 v, .slice none 0 0])) cs) (ansW w ab b v)) :
    Own Try.prog main F Stop (G (((Go.Conc.base 64).at ⟨A, []⟩ [.inRegion kdoo8 [2, 3, 4, 5, 6, 7], .code kdos10, .inBlock 0, .code kdos13]).finish (.tuple #[.int .i64 v, .bool b])) (c :: cs)) w := by
  obtain ⟨hsz, h8, _⟩ := hA
  obtain ⟨s, rfl⟩ := kdoT_of hsz
  change s 8 = _ at h8
  clear hsz
  simp only [kdoT, h8]
  clear h8
  obtain ⟨x0, x1, x2, c0, c1, c2⟩ := ha.c
  have z0 := ha.z 0
  have z1 := ha.z 1
  have z2 := ha.z 2
  rw [Frame.finish_at]
  simp only [kdoo8, Code.opsOf, kdor8, Code.piece, kdoBody, Try.f64, Option.getD_some, List.size_toArray, List.length_cons, List.length_nil, Nat.reduceAdd, Nat.zero_add, List.range, List.range.loop]
  walk_nrm
  (refine oW fun dd K hK => ?_; go_simp; refine qT hK ?_; clear hK K)
  (refine oW fun dd K hK => ?_; go_simp; refine qT hK ?_; clear hK K)
  (refine oW fun dd K hK => ?_; go_simp; refine qT hK ?_; clear hK K)
  (refine oW fun dd K hK => ?_; go_simp; refine qT hK ?_; clear hK K)
  (refine oW fun dd K hK => ?_; go_simp; refine qT hK ?_; clear hK K)
  refine ogE ?_
  rw [kdos10_eq]
  refine ogS ?_
  rw [kdor9_eq]
  refine ogR ?_
  simp only [kdoo9, Code.opsOf, kdor9, Code.piece, kdoBody, Try.f64, Option.getD_some, List.size_toArray, List.length_cons, List.length_nil, Nat.reduceAdd, Nat.zero_add, List.range, List.range.loop]
  (refine oW fun dd K hK => ?_; go_simp; refine qT hK ?_; clear hK K)
  (refine oW fun dd K hK => ?_; go_simp; refine qT hK ?_; clear hK K)
  (refine oW fun dd K hK => ?_; go_simp; refine qT hK ?_; clear hK K)
  (refine oW fun dd K hK => ?_; go_simp; refine hK _ _ ⟨⟨⟨0, grew3 hnh _ _ _⟩, fun e he => by (have hm := mem_listed he; clear he hK; simp [go_sem, storedEv, c0, c1, c2, z0, z1, z2] at hm; rcases hm with rfl | rfl | rfl <;> exact evT_write _ _ (hnh _))⟩, ?_⟩; clear hK K; simp only [setCell_at']; refine Own.at ?_ dd)
  refine ogE ?_
  refine ogX ?_
  refine own_leave (fn := Try.f64) (v := .agg #[.bool b, .int .i64 v, .slice none 0 0]) rfl rfl Try.func64 (fun d => by simp [results, Try.f64, go_sem, c0, c1, c2, z0, z1, z2]) (fun d e he => by (simp [results, Try.f64, go_sem, c0, c1, c2, z0, z1, z2] at he; rcases he with rfl | rfl | rfl <;> exact evT_read _ _)) ?_
  exact h
set_option maxRecDepth 100000 in
set_option maxHeartbeats 2000000 in
theorem kdo_em1 {ab : Nat} (ha : Ans w ab) (hnh : ∀ k, ¬ held F ⟨ab, k, none⟩) {b : Bool} {A : Array Value} (hA : Slots 52 A [(8, .pointer (some ⟨ab, 0, none⟩))]) {c : Frame} {cs : List Frame} {main : Bool} {Stop : Goroutine → World → Prop}
    (h : Own Try.prog main F Stop (G (c.finish (.agg #[.bool b, .int .i64 0, .slice none 0 0])) cs) (ansW w ab b 0)) :
    Own Try.prog main F Stop (G (((Go.Conc.base 64).at ⟨A, []⟩ [.inRegion kdoo11 [2, 3, 4], .code .ret, .inBlock 0, .code kdos13]).finish (.bool b)) (c :: cs)) w := by
  obtain ⟨hsz, h8, _⟩ := hA
  obtain ⟨s, rfl⟩ := kdoT_of hsz
  change s 8 = _ at h8
  clear hsz
  simp only [kdoT, h8]
  clear h8
  obtain ⟨x0, x1, x2, c0, c1, c2⟩ := ha.c
  have z0 := ha.z 0
  have z1 := ha.z 1
  have z2 := ha.z 2
  rw [Frame.finish_at]
  simp only [kdoo11, Code.opsOf, kdor11, Code.piece, kdoBody, Try.f64, Option.getD_some, List.size_toArray, List.length_cons, List.length_nil, Nat.reduceAdd, Nat.zero_add, List.range, List.range.loop]
  walk_nrm
  (refine oW fun dd K hK => ?_; go_simp; refine qT hK ?_; clear hK K)
  (refine oW fun dd K hK => ?_; go_simp; refine hK _ _ ⟨⟨⟨0, grew3 hnh _ _ _⟩, fun e he => by (have hm := mem_listed he; clear he hK; simp [go_sem, storedEv, c0, c1, c2, z0, z1, z2] at hm; rcases hm with rfl | rfl | rfl <;> exact evT_write _ _ (hnh _))⟩, ?_⟩; clear hK K; simp only [setCell_at']; refine Own.at ?_ dd)
  refine ogE ?_
  refine ogX ?_
  refine own_leave (fn := Try.f64) (v := .agg #[.bool b, .int .i64 0, .slice none 0 0]) rfl rfl Try.func64 (fun d => by simp [results, Try.f64, go_sem, c0, c1, c2, z0, z1, z2]) (fun d e he => by (simp [results, Try.f64, go_sem, c0, c1, c2, z0, z1, z2] at he; rcases he with rfl | rfl | rfl <;> exact evT_read _ _)) ?_
  exact h
end Go.Proofs.Ytlcgkpapnpdfpaa
namespace Go.Proofs.Ytlcgkpapnpdfpaa
open Go Go.Conc Go.RowKit Go.Proofs
variable {F : Fz} {w w' : World} {kb : Nat}
structure KS where
  k : KSt
  nb : Nat
abbrev KS.m (s : KS) : Nat := s.k.nx.length
structure KU (kb : Nat) (s : KS) (w : World) : Prop where
  wf : KWf s.k
  o : w.heap[kb]? = some (.cells #[.int .u64 (pk s.k.hd), .int .u64 (pk s.k.fr), .slice (some ⟨s.nb, 0, none⟩) s.m s.m, .bool s.k.tg] 92 (0, 0))
  n : ∃ c, w.heap[s.nb]? = some (.cells c 129 (0, 0)) ∧ c.size = s.m * 2 ∧ ∀ i, i < s.m → c[i * 2]? = some (.int .i64 (s.k.nx.getD i 0)) ∧ c[i * 2 + 1]? = some (.int .i64 (s.k.vl.getD i 0))
def KR (kb : Nat) (s : KS) (r : Nat) : Prop := r = kb ∨ r = s.nb
section
variable {s : KS}
theorem KU.ne (h : KU kb s w) : s.nb ≠ kb := by
  intro e
  obtain ⟨c, h1, _⟩ := h.n
  rw [e, h.o] at h1
  simp only [Option.some.injEq, Obj.cells.injEq] at h1
  exact absurd h1.2.1 (by decide)
theorem KU.low (h : KU kb s w) {r : Nat} (hr : KR kb s r) : r < w.heap.size := by
  rcases hr with rfl | rfl
  · exact (Array.getElem?_eq_some_iff.1 h.o).1
  · obtain ⟨c, h1, _⟩ := h.n
    exact (Array.getElem?_eq_some_iff.1 h1).1
theorem KU.same (h : KU kb s w) (hs : ∀ r, KR kb s r → w'.heap[r]? = w.heap[r]?) : KU kb s w' := by
  obtain ⟨c, h1, h2⟩ := h.n
  exact ⟨h.wf, (hs _ (.inl rfl)).trans h.o, c, (hs _ (.inr rfl)).trans h1, h2⟩
theorem KU.c0 (h : KU kb s w) : w.cell? ⟨kb, 0, none⟩ = some (.int .u64 (pk s.k.hd)) := by simp [World.cell?, h.o]
theorem KU.c1 (h : KU kb s w) : w.cell? ⟨kb, 1, none⟩ = some (.int .u64 (pk s.k.fr)) := by simp [World.cell?, h.o]
theorem KU.c2 (h : KU kb s w) : KH kb s.nb s.m w := ⟨by simp [World.cell?, h.o]⟩
theorem KU.c3 (h : KU kb s w) : w.cell? ⟨kb, 3, none⟩ = some (.bool s.k.tg) := by simp [World.cell?, h.o]
theorem KU.z (h : KU kb s w) (j : Nat) : w.frozen? ⟨kb, j, none⟩ = false := by simp [World.frozen?, h.o]
theorem KU.nc (h : KU kb s w) {i : Nat} (hi : i < s.m) : w.cell? ⟨s.nb, i * 2, none⟩ = some (.int .i64 (s.k.nx.getD i 0)) ∧ w.cell? ⟨s.nb, i * 2 + 1, none⟩ = some (.int .i64 (s.k.vl.getD i 0)) ∧ ∀ j, w.frozen? ⟨s.nb, j, none⟩ = false := by
  obtain ⟨c, h1, h2, h3⟩ := h.n
  obtain ⟨e1, e2⟩ := h3 i hi
  exact ⟨by simp only [World.cell?, h1]; simpa using e1, by simp only [World.cell?, h1]; simpa using e2, fun j => by simp [World.frozen?, h1]⟩
theorem KU.setHd (h : KU kb s w) {x : Int × Int} (hx : -1 ≤ x.1 ∧ x.1 < s.m ∧ 0 ≤ x.2 ∧ x.2 < 2147483648) (ht : s.k.tg = false → x.2 = 0) : KU kb { s with k := { s.k with hd := x } } (w.setCell ⟨kb, 0, none⟩ (.int .u64 (pk x))) := by
  obtain ⟨c, h1, h2⟩ := h.n
  have hw := h.wf
  refine ⟨⟨hw.n1, hw.n2, hw.n3, hw.nx, hx, hw.fr, fun e => ⟨ht e, (hw.tg e).2⟩⟩, ?_, c, (heap_setCell_ne _ _ _ h.ne).trans h1, h2⟩
  rw [heap_setCell_eq h.o]; rfl
theorem KU.setFr (h : KU kb s w) {x : Int × Int} (hx : -1 ≤ x.1 ∧ x.1 < s.m ∧ 0 ≤ x.2 ∧ x.2 < 2147483648) (ht : s.k.tg = false → x.2 = 0) : KU kb { s with k := { s.k with fr := x } } (w.setCell ⟨kb, 1, none⟩ (.int .u64 (pk x))) := by
  obtain ⟨c, h1, h2⟩ := h.n
  have hw := h.wf
  refine ⟨⟨hw.n1, hw.n2, hw.n3, hw.nx, hw.hd, hx, fun e => ⟨(hw.tg e).1, ht e⟩⟩, ?_, c, (heap_setCell_ne _ _ _ h.ne).trans h1, h2⟩
  rw [heap_setCell_eq h.o]; rfl
theorem getD_set {l : List Int} {i j : Nat} {v : Int} (hi : i < l.length) : (l.set i v).getD j 0 = if i = j then v else l.getD j 0 := by
  simp only [List.getD_eq_getElem?_getD, List.getElem?_set]
  split
  · rename_i e
    subst e
    simp [hi]
  · rfl
theorem KU.setNx (h : KU kb s w) {i : Nat} (hi : i < s.m) {v : Int} (hv : -1 ≤ v ∧ v < s.m) : KU kb { s with k := { s.k with nx := s.k.nx.set i v } } (w.setCell ⟨s.nb, i * 2, none⟩ (.int .i64 v)) := by
  obtain ⟨c, h1, h2, h3⟩ := h.n
  have hw := h.wf
  refine ⟨⟨by simpa using hw.n1, by simpa using hw.n2, by simpa using hw.n3, fun x hx => ?_, by simpa using hw.hd, by simpa using hw.fr, hw.tg⟩, ?_, c.setIfInBounds (i * 2) (.int .i64 v), ?_, by simpa [KS.m] using h2, fun j hj => ?_⟩
  · simp only [List.length_set]
    rcases List.mem_or_eq_of_mem_set hx with h | h
    · exact hw.nx x h
    · rw [h]; exact hv
  · rw [heap_setCell_ne _ _ _ (Ne.symm h.ne), h.o]; simp [KS.m]
  · rw [heap_setCell_eq h1]
  · have hj : j < s.m := by simpa [KS.m] using hj
    obtain ⟨e1, e2⟩ := h3 j hj
    have hb : i * 2 < c.size := by omega
    refine ⟨?_, ?_⟩
    · rw [getD_set hi]
      by_cases e : i = j
      · subst e; simp [hb]
      · rw [Array.getElem?_setIfInBounds_ne (by omega), e1, if_neg e]
    · rw [Array.getElem?_setIfInBounds_ne (by omega)]; exact e2
theorem KU.setVl (h : KU kb s w) {i : Nat} (hi : i < s.m) {v : Int} : KU kb { s with k := { s.k with vl := s.k.vl.set i v } } (w.setCell ⟨s.nb, i * 2 + 1, none⟩ (.int .i64 v)) := by
  obtain ⟨c, h1, h2, h3⟩ := h.n
  have hw := h.wf
  have hi' : i < s.k.vl.length := by rw [← hw.n1]; exact hi
  refine ⟨⟨by simpa using hw.n1, hw.n2, hw.n3, hw.nx, hw.hd, hw.fr, hw.tg⟩, ?_, c.setIfInBounds (i * 2 + 1) (.int .i64 v), ?_, by simpa [KS.m] using h2, fun j hj => ?_⟩
  · rw [heap_setCell_ne _ _ _ (Ne.symm h.ne), h.o]
  · rw [heap_setCell_eq h1]
  · obtain ⟨e1, e2⟩ := h3 j hj
    have hb : i * 2 + 1 < c.size := by have := h2; have : i < s.m := hi; omega
    refine ⟨?_, ?_⟩
    · rw [Array.getElem?_setIfInBounds_ne (by omega)]; exact e1
    · rw [getD_set hi']
      by_cases e : i = j
      · subst e; simp [hb]
      · rw [Array.getElem?_setIfInBounds_ne (by omega), e2, if_neg e]
theorem pk_eq (h : KWf s.k) {n t : Int} (ht : 0 ≤ t ∧ t < 2147483648) : (pk s.k.hd == pk (n, t)) = decide (s.k.hd = (n, t)) ∧ (pk s.k.fr == pk (n, t)) = decide (s.k.fr = (n, t)) := by
  have key : ∀ x : Int × Int, 0 ≤ x.2 ∧ x.2 < 2147483648 → (pk x == pk (n, t)) = decide (x = (n, t)) := fun x hx => by
    by_cases e : x = (n, t)
    · subst e; simp
    · rw [decide_eq_false e]
      simp only [beq_eq_false_iff_ne, ne_eq]
      exact fun e2 => e (pk_inj hx ht e2)
  exact ⟨key _ h.hd.2.2, key _ h.fr.2.2⟩
theorem tag_ok (tg : Bool) (t : Int) : (0 ≤ tagOf tg t ∧ tagOf tg t < 2147483648) ∧ (tg = false → tagOf tg t = 0) := by
  unfold tagOf
  cases tg with
  | true => simp; omega
  | false => simp
end
theorem step_len (s : KSt) (c : KCl) : (s.step c).1.nx.length = s.nx.length := by
  unfold KSt.step
  repeat' split
  all_goals simp
end Go.Proofs.Ytlcgkpapnpdfpaa
namespace Go.Proofs.Ytlcgkpapnpdfpaa
open Go Go.Conc Go.RowKit Go.Proofs
variable {F : Fz} {w w' : World}
theorem not_heldB {b : Nat} (h : F b = none) (k : Nat) : ¬ held F ⟨b, k, none⟩ := by
  rintro ⟨z, hz, _⟩
  rw [h] at hz
  cases hz
theorem ansW_same {ab : Nat} {b : Bool} {n : Int} {r : Nat} (hr : r ≠ ab) : (ansW w ab b n).heap[r]? = w.heap[r]? := by
  unfold ansW
  rw [heap_setCell_ne _ _ _ hr, heap_setCell_ne _ _ _ hr, heap_setCell_ne _ _ _ hr]
theorem plain_base {f : FuncId} (h : ∃ fn, Try.prog.funcs[f]? = some fn) (A : Array Value) (k : List Item) : Plain ((Go.Conc.base f).at ⟨A, []⟩ k) := ⟨rfl, rfl, h⟩
theorem size2 (w : World) (a b : Obj) : ((w.alloc a).alloc b).heap.size = w.heap.size + 2 := by simp
theorem old2 (w : World) (a b : Obj) {r : Nat} (h : r < w.heap.size) : ((w.alloc a).alloc b).heap[r]? = w.heap[r]? := by
  rw [heap_alloc_lt _ _ (by simp; omega), heap_alloc_lt _ _ h]
theorem new2 (w : World) (a : Obj) (c : Array Value) (t : TypeId) : ((w.alloc a).alloc (.cells c t)).heap[w.heap.size + 1]? = some (.cells c t (0, 0)) := by
  have := heap_alloc_new (w.alloc a) (.cells c t)
  simpa using this
end Go.Proofs.Ytlcgkpapnpdfpaa
namespace Go.Proofs.Ytlcgkpapnpdfpaa
open Go Go.Conc Go.RowKit Go.Proofs
variable {F : Fz} {w w' : World} {kb st : Nat}
noncomputable def ktkIt (ph : Nat) : List Item := match ph with
  | 1 => [.inRegion ktko1 [1], .code ktks3, .inBlock 1, .inLoop ktkb1, .inBlock 0]
  | 2 => [.inRegion ktko6 [1], .code ktks9, .inBlock 1, .inLoop ktkb1, .inBlock 0]
  | _ => [.inRegion ktko8 [1], .code ktks11, .inBlock 1, .inLoop ktkb1, .inBlock 0]
noncomputable def kgvIt (ph : Nat) : List Item := match ph with
  | 1 => [.inRegion kgvo0 [1], .code kgvs2, .inBlock 1, .inLoop kgvb1, .inBlock 0]
  | 2 => [.inRegion kgvo2 [1], .code kgvs4, .inBlock 1, .inLoop kgvb1, .inBlock 0]
  | _ => [.inRegion kgvo4 [1], .code kgvs6, .inBlock 1, .inLoop kgvb1, .inBlock 0]
noncomputable def kpuIt (ph : Nat) : List Item := match ph with
  | 1 => [.inRegion kpuo3 [5, 6, 7, 8, 9, 10], .code kpus5]
  | 2 => [.inRegion kpuo6 [1], .code kpus9]
  | _ => [.inRegion kpuo8 [6], .code kpus11]
noncomputable def kpoIt (ph : Nat) : List Item := match ph with
  | 1 => [.inRegion kpoo3 [5, 6, 7, 8, 9, 10], .code kpos5]
  | 2 => [.inRegion kpoo6 [1], .code kpos9]
  | _ => [.inRegion kpoo8 [6], .code kpos11]
noncomputable def kpeIt (ph : Nat) : List Item := match ph with
  | 1 => [.inRegion kpeo3 [1], .code kpes5]
  | 2 => [.inRegion kpeo6 [1], .code kpes11, .inBlock 1, .inLoop kpes8, .inBlock 0, .code kpes17]
  | _ => [.inRegion kpeo8 [1], .code kpes13, .inBlock 1, .inLoop kpes8, .inBlock 0, .code kpes17]
noncomputable def kemIt (ph : Nat) : List Item := match ph with
  | _ => [.inRegion kemo3 [1], .code kems5]
noncomputable def kdoIt (ph : Nat) : List Item := match ph with
  | 1 => [.inRegion kdoo3 [4, 5, 6], .code .ret, .inBlock 0, .code kdos13]
  | 2 => [.inRegion kdoo5 [2, 3, 4, 5, 6, 7], .code kdos7, .inBlock 0, .code kdos13]
  | 3 => [.inRegion kdoo8 [2, 3, 4, 5, 6, 7], .code kdos10, .inBlock 0, .code kdos13]
  | _ => [.inRegion kdoo11 [2, 3, 4], .code .ret, .inBlock 0, .code kdos13]
structure KC where
  c : KCl
  A : Array Value
  A1 : Array Value
  A2 : Array Value
  ab : Nat
noncomputable def KC.tk (c : KC) (ph : Nat) : Frame := (Go.Conc.base 78).at ⟨c.A, []⟩ (ktkIt ph)
noncomputable def KC.gv (c : KC) (ph : Nat) : Frame := (Go.Conc.base 80).at ⟨c.A, []⟩ (kgvIt ph)
noncomputable def KC.pu (c : KC) (ph : Nat) : Frame := (Go.Conc.base 45).at ⟨c.A1, []⟩ (kpuIt ph)
noncomputable def KC.po (c : KC) (ph : Nat) : Frame := (Go.Conc.base 43).at ⟨c.A1, []⟩ (kpoIt ph)
noncomputable def KC.pe (c : KC) (ph : Nat) : Frame := (Go.Conc.base 44).at ⟨c.A1, []⟩ (kpeIt ph)
noncomputable def KC.em (c : KC) : Frame := (Go.Conc.base 46).at ⟨c.A1, []⟩ (kemIt 1)
noncomputable def KC.do (c : KC) (ph : Nat) : Frame := (Go.Conc.base 64).at ⟨c.A2, []⟩ (kdoIt ph)
noncomputable def KC.fr (c : KC) : List Frame := match c.c.pc with
  | 10 => [c.tk 1, c.pu 1, c.do 1]
  | 11 => [c.tk 2, c.pu 1, c.do 1]
  | 12 => [c.tk 3, c.pu 1, c.do 1]
  | 13 => [c.pu 2, c.do 1]
  | 14 => [c.gv 1, c.pu 3, c.do 1]
  | 15 => [c.gv 2, c.pu 3, c.do 1]
  | 16 => [c.gv 3, c.pu 3, c.do 1]
  | 20 => [c.tk 1, c.po 1, c.do 2]
  | 21 => [c.tk 2, c.po 1, c.do 2]
  | 22 => [c.tk 3, c.po 1, c.do 2]
  | 23 => [c.po 2, c.do 2]
  | 24 => [c.gv 1, c.po 3, c.do 2]
  | 25 => [c.gv 2, c.po 3, c.do 2]
  | 26 => [c.gv 3, c.po 3, c.do 2]
  | 30 => [c.pe 1, c.do 3]
  | 31 => [c.pe 2, c.do 3]
  | 32 => [c.pe 3, c.do 3]
  | _ => [c.em, c.do 4]
def kptr (kb : Nat) : Value := .pointer (some ⟨kb, 0, none⟩)
def ktS0 (kb st hx : Nat) : List (Nat × Value) := [(0, kptr kb), (1, stepperV st), (2, .pointer (some ⟨kb, hx, none⟩))]
def ktS1 (kb st hx : Nat) (c : KCl) : List (Nat × Value) := [(0, kptr kb), (1, stepperV st), (2, .pointer (some ⟨kb, hx, none⟩)), (8, .int .u64 (pk (c.n0, c.n1))), (9, .int .i64 c.n0)]
def ktS2 (kb st hx : Nat) (c : KCl) : List (Nat × Value) := [(0, kptr kb), (1, stepperV st), (2, .pointer (some ⟨kb, hx, none⟩)), (8, .int .u64 (pk (c.n0, c.n1))), (9, .int .i64 c.n0), (10, .int .i64 c.n2)]
def kgS0 (kb st hx : Nat) (c : KCl) : List (Nat × Value) := [(0, kptr kb), (1, stepperV st), (2, .pointer (some ⟨kb, hx, none⟩)), (3, .int .i64 c.n4)]
def kgS1 (kb st hx : Nat) (c : KCl) : List (Nat × Value) := [(0, kptr kb), (1, stepperV st), (2, .pointer (some ⟨kb, hx, none⟩)), (3, .int .i64 c.n4), (8, .int .u64 (pk (c.n0, c.n1)))]
def kuS0 (kb st : Nat) (c : KCl) : List (Nat × Value) := [(0, kptr kb), (1, stepperV st), (2, .int .i64 c.a)]
def kuS1 (kb st : Nat) (c : KCl) : List (Nat × Value) := [(0, kptr kb), (1, stepperV st), (2, .int .i64 c.a), (7, .int .i64 c.n4)]
def koS0 (kb st : Nat) : List (Nat × Value) := [(0, kptr kb), (1, stepperV st)]
def koS1 (kb st : Nat) (c : KCl) : List (Nat × Value) := [(0, kptr kb), (1, stepperV st), (6, .int .i64 c.n4)]
def koS2 (kb st : Nat) (c : KCl) : List (Nat × Value) := [(0, kptr kb), (1, stepperV st), (6, .int .i64 c.n4), (8, .int .i64 c.n3)]
def keS1 (kb st : Nat) (c : KCl) : List (Nat × Value) := [(0, kptr kb), (1, stepperV st), (6, .int .u64 (pk (c.n0, c.n1)))]
def keS2 (kb st : Nat) (c : KCl) : List (Nat × Value) := [(0, kptr kb), (1, stepperV st), (6, .int .u64 (pk (c.n0, c.n1))), (7, .int .i64 c.n3)]
def KSl (kb st : Nat) (c : KC) : Prop := match c.c.pc with
  | 10 => Slots 37 c.A (ktS0 kb st 1) ∧ Slots 40 c.A1 (kuS0 kb st c.c)
  | 11 => Slots 37 c.A (ktS1 kb st 1 c.c) ∧ Slots 40 c.A1 (kuS0 kb st c.c)
  | 12 => Slots 37 c.A (ktS2 kb st 1 c.c) ∧ Slots 40 c.A1 (kuS0 kb st c.c)
  | 13 => Slots 40 c.A1 (kuS1 kb st c.c)
  | 14 => Slots 32 c.A (kgS0 kb st 0 c.c) ∧ Slots 40 c.A1 (kuS1 kb st c.c)
  | 15 => Slots 32 c.A (kgS1 kb st 0 c.c) ∧ Slots 40 c.A1 (kuS1 kb st c.c)
  | 16 => Slots 32 c.A (kgS1 kb st 0 c.c) ∧ Slots 40 c.A1 (kuS1 kb st c.c)
  | 20 => Slots 37 c.A (ktS0 kb st 0) ∧ Slots 40 c.A1 (koS0 kb st)
  | 21 => Slots 37 c.A (ktS1 kb st 0 c.c) ∧ Slots 40 c.A1 (koS0 kb st)
  | 22 => Slots 37 c.A (ktS2 kb st 0 c.c) ∧ Slots 40 c.A1 (koS0 kb st)
  | 23 => Slots 40 c.A1 (koS1 kb st c.c)
  | 24 => Slots 32 c.A (kgS0 kb st 1 c.c) ∧ Slots 40 c.A1 (koS2 kb st c.c)
  | 25 => Slots 32 c.A (kgS1 kb st 1 c.c) ∧ Slots 40 c.A1 (koS2 kb st c.c)
  | 26 => Slots 32 c.A (kgS1 kb st 1 c.c) ∧ Slots 40 c.A1 (koS2 kb st c.c)
  | 30 => Slots 42 c.A1 (koS0 kb st)
  | 31 => Slots 42 c.A1 (keS1 kb st c.c)
  | 32 => Slots 42 c.A1 (keS2 kb st c.c)
  | _ => Slots 15 c.A1 (koS0 kb st)
structure KV (m : Nat) (c : KCl) : Prop where
  pc : c.pc ∈ [10, 11, 12, 13, 14, 15, 16, 20, 21, 22, 23, 24, 25, 26, 30, 31, 32, 40]
  n0 : -1 ≤ c.n0 ∧ c.n0 < m
  n1 : 0 ≤ c.n1 ∧ c.n1 < 2147483648
  n2 : -1 ≤ c.n2 ∧ c.n2 < m
  n4 : 0 ≤ c.n4 ∧ c.n4 < m
  pos : c.pc ∈ [11, 12, 21, 22, 31, 32] → 0 ≤ c.n0
structure KJ (kb st m : Nat) (c : KC) : Prop where
  v : KV m c.c
  s : KSl kb st c
  a : Slots 52 c.A2 [(8, .pointer (some ⟨c.ab, 0, none⟩))]
noncomputable def KLay (kb : Nat) : Lay where
  S := KS
  C := KC
  A := Bool × Int
  SU := KU kb
  SR := KR kb
  CU := fun c w => Ans w c.ab
  CR := fun c r => r = c.ab
  AV := fun a => ⟨a.1, a.2, none, 0, 0⟩
  AU := fun _ _ => True
  AR := fun _ _ => False
  cf := fun st c => stepFr stK ⟨st, 0, none⟩ :: c.fr
  df := 64
  first := #[.pointer (some ⟨kb, 0, none⟩)]
  capt := #[]
  beg := fun s _ o y => y.1.nb = s.nb ∧ (y.1.k, (match y.2 with | .inl c => .inl c.c | .inr a => .inr a : KRs)) = s.k.begin o
  stp := fun s c y => y.1.nb = s.nb ∧ (y.1.k, (match y.2 with | .inl c => .inl c.c | .inr a => .inr a : KRs)) = s.k.step c.c
  J := fun st s c => KJ kb st s.m c
theorem k_live {s : KS} {c c' : KC} {k' : KSt} {cs : List Frame} (hU : KU kb ⟨k', s.nb⟩ w') (hr : (k', .inl c'.c) = s.k.step c.c) (hab : c'.ab = c.ab) (hJ : KJ kb st k'.nx.length c') (hcu : Ans w c.ab) (hdis : ¬ KR kb s c.ab) (hsame : ∀ r, ¬ KR kb s r → w'.heap[r]? = w.heap[r]?) (d : Nat) :
    (KLay kb).Out st s (fun r => r = c.ab) ((KLay kb).stp s c) w cs (G (Frame.enter Try.prog 133 #[.pointer (some ⟨st, 0, none⟩)] .normal) ((KLay kb).cf st c' ++ cs)) (w'.at d) := by
  refine ⟨⟨k', s.nb⟩, .inl c', ⟨rfl, hr⟩, hU.same fun _ _ => rfl, fun q h => .inl h, hJ, ?_, fun q h => .inl (h.trans hab), fun q h h2 => hdis (by rw [← hab, ← show q = c'.ab from h]; exact h2), rfl⟩
  show Ans (w'.at d) c'.ab
  rw [hab]
  exact ans_same hcu (hsame _ hdis)
theorem k_ans {s : KS} {c : KC} {k' : KSt} {an : Bool × Int} {cs : List Frame} (hU : KU kb ⟨k', s.nb⟩ w') (hr : (k', .inr an) = s.k.step c.c) (hdis : ¬ KR kb s c.ab) (d : Nat) :
    (KLay kb).Out st s (fun r => r = c.ab) ((KLay kb).stp s c) w cs (back (.agg #[.bool an.1, .int .i64 an.2, .slice none 0 0]) cs) ((ansW w' c.ab an.1 an.2).at d) := by
  refine ⟨⟨k', s.nb⟩, .inr an, ⟨rfl, hr⟩, (hU.same fun r hr => ansW_same fun e => hdis (by rw [← e]; exact hr)).same fun _ _ => rfl, fun q h => .inl h, trivial, fun q h => h.elim, fun q h => h.elim, rfl⟩
end Go.Proofs.Ytlcgkpapnpdfpaa
namespace Go.Proofs.Ytlcgkpapnpdfpaa
open Go Go.Conc Go.RowKit Go.Proofs
variable {F : Fz} {w w' : World} {kb st : Nat}
theorem KWf.nxt_ok {s : KSt} (h : KWf s) (i : Nat) : -1 ≤ s.nx.getD i 0 ∧ s.nx.getD i 0 < s.nx.length := by
  have := h.n2
  by_cases e : i < s.nx.length
  · rw [List.getD_eq_getElem?_getD, List.getElem?_eq_getElem e]
    exact h.nx _ (List.getElem_mem e)
  · rw [List.getD_eq_getElem?_getD, List.getElem?_eq_none (by omega)]
    simp only [Option.getD_none]
    omega
section
variable {s : KS} {n0 n1 n2 n3 n4 a : Int} {A A1 A2 : Array Value} {ab : Nat}
theorem ks_10 (hJ : KJ kb st s.m ⟨⟨10, n0, n1, n2, n3, n4, a⟩, A, A1, A2, ab⟩) (hs : KU kb s w) (hc : Ans w ab) (hdis : ¬ KR kb s ab) (hF : ∀ r, KR kb s r ∨ r = ab → F r = none) (b : Frame) (cs : List Frame) :
    Own Try.prog false F ((KLay kb).Out st s (fun r => r = ab) ((KLay kb).stp s ⟨⟨10, n0, n1, n2, n3, n4, a⟩, A, A1, A2, ab⟩) w (b :: cs)) (back (.tuple #[]) ((KLay kb).cf st ⟨⟨10, n0, n1, n2, n3, n4, a⟩, A, A1, A2, ab⟩ ++ b :: cs)) w := by
  have hkb : F kb = none := hF _ (.inl (.inl rfl))
  have hnb : F s.nb = none := hF _ (.inl (.inr rfl))
  have hans : ∀ k, ¬ held F ⟨ab, k, none⟩ := fun k => not_heldB (hF _ (.inr rfl)) k
  have hm := hs.wf.n3
  have hmm : s.m = s.k.nx.length := rfl
  have hS := hJ.s
  obtain ⟨_, v0, v1, v2, v4, vp⟩ := hJ.v
  simp only at v0 v1 v2 v4 vp
  refine own_step_back (K := stK) (sa := ⟨st, 0, none⟩) ?_
  obtain ⟨h1, h2, h3, h4⟩ := hs.wf.fr
  by_cases hneg : s.k.fr.1 < 0
  · refine tk_1a (sv := stepperV st) (hx := 1) (n := s.k.fr.1) (t := s.k.fr.2) ⟨h1, by omega⟩ ⟨h3, h4⟩ hneg hs.c1 hS.1 ?_
    refine pu_1a (sv := stepperV st) hS.2 ?_
    exact kdo_pu1 hc hans hJ.a (.stop fun d => k_ans (c := ⟨⟨10, n0, n1, n2, n3, n4, a⟩, A, A1, A2, ab⟩) (an := (false, 0)) (k' := s.k) hs (by simp [KSt.step, hneg]) hdis d)
  · refine tk_1b (sv := stepperV st) (hx := 1) (n := s.k.fr.1) (t := s.k.fr.2) ⟨h1, by omega⟩ ⟨h3, h4⟩ hneg hs.c1 hS.1 fun A' hA' => own_step_call (K := stK) (.stop fun d => k_live (c := ⟨⟨10, n0, n1, n2, n3, n4, a⟩, A, A1, A2, ab⟩) (c' := ⟨⟨11, s.k.fr.1, s.k.fr.2, n2, n3, n4, a⟩, A', A1, A2, ab⟩) (k' := s.k) hs (by simp [KSt.step, hneg]) rfl ⟨⟨by simp, ⟨h1, h2⟩, ⟨h3, h4⟩, v2, v4, fun _ => by simp only; omega⟩, ⟨hA', hS.2⟩, hJ.a⟩ hc hdis (fun r _ => rfl) d)
theorem ks_11 (hJ : KJ kb st s.m ⟨⟨11, n0, n1, n2, n3, n4, a⟩, A, A1, A2, ab⟩) (hs : KU kb s w) (hc : Ans w ab) (hdis : ¬ KR kb s ab) (hF : ∀ r, KR kb s r ∨ r = ab → F r = none) (b : Frame) (cs : List Frame) :
    Own Try.prog false F ((KLay kb).Out st s (fun r => r = ab) ((KLay kb).stp s ⟨⟨11, n0, n1, n2, n3, n4, a⟩, A, A1, A2, ab⟩) w (b :: cs)) (back (.tuple #[]) ((KLay kb).cf st ⟨⟨11, n0, n1, n2, n3, n4, a⟩, A, A1, A2, ab⟩ ++ b :: cs)) w := by
  have hkb : F kb = none := hF _ (.inl (.inl rfl))
  have hnb : F s.nb = none := hF _ (.inl (.inr rfl))
  have hans : ∀ k, ¬ held F ⟨ab, k, none⟩ := fun k => not_heldB (hF _ (.inr rfl)) k
  have hm := hs.wf.n3
  have hmm : s.m = s.k.nx.length := rfl
  have hS := hJ.s
  obtain ⟨_, v0, v1, v2, v4, vp⟩ := hJ.v
  simp only at v0 v1 v2 v4 vp
  refine own_step_back (K := stK) (sa := ⟨st, 0, none⟩) ?_
  have hpos := vp (by simp)
  obtain ⟨i, rfl⟩ : ∃ i : Nat, n0 = i := ⟨n0.toNat, by omega⟩
  have hi : i < s.m := by omega
  refine tk_2 (sv := stepperV st) (hx := 1) (i := i) (t := n1) (to := s.k.nx.getD i 0) hi hs.c2 (hs.nc hi).1 hS.1 fun A' hA' => own_step_call (K := stK) (.stop fun d => k_live (c := ⟨⟨11, (i : Nat), n1, n2, n3, n4, a⟩, A, A1, A2, ab⟩) (c' := ⟨⟨12, (i : Nat), n1, (s.k.nx.getD i 0), n3, n4, a⟩, A', A1, A2, ab⟩) (k' := s.k) hs (by simp [KSt.step, KSt.nxt]) rfl ⟨⟨by simp, v0, v1, hs.wf.nxt_ok i, v4, fun _ => by simp only; omega⟩, ⟨hA', hS.2⟩, hJ.a⟩ hc hdis (fun r _ => rfl) d)
theorem ks_12 (hJ : KJ kb st s.m ⟨⟨12, n0, n1, n2, n3, n4, a⟩, A, A1, A2, ab⟩) (hs : KU kb s w) (hc : Ans w ab) (hdis : ¬ KR kb s ab) (hF : ∀ r, KR kb s r ∨ r = ab → F r = none) (b : Frame) (cs : List Frame) :
    Own Try.prog false F ((KLay kb).Out st s (fun r => r = ab) ((KLay kb).stp s ⟨⟨12, n0, n1, n2, n3, n4, a⟩, A, A1, A2, ab⟩) w (b :: cs)) (back (.tuple #[]) ((KLay kb).cf st ⟨⟨12, n0, n1, n2, n3, n4, a⟩, A, A1, A2, ab⟩ ++ b :: cs)) w := by
  have hkb : F kb = none := hF _ (.inl (.inl rfl))
  have hnb : F s.nb = none := hF _ (.inl (.inr rfl))
  have hans : ∀ k, ¬ held F ⟨ab, k, none⟩ := fun k => not_heldB (hF _ (.inr rfl)) k
  have hm := hs.wf.n3
  have hmm : s.m = s.k.nx.length := rfl
  have hS := hJ.s
  obtain ⟨_, v0, v1, v2, v4, vp⟩ := hJ.v
  simp only at v0 v1 v2 v4 vp
  refine own_step_back (K := stK) (sa := ⟨st, 0, none⟩) ?_
  have hpos := vp (by simp)
  obtain ⟨i, rfl⟩ : ∃ i : Nat, n0 = i := ⟨n0.toNat, by omega⟩
  obtain ⟨t1, t2⟩ := tag_ok s.k.tg n1
  have hq := (pk_eq hs.wf (n := (i : Nat)) v1).2
  by_cases e : s.k.fr = ((i : Int), n1)
  · rw [decide_eq_true e] at hq
    refine tk_3a (sv := stepperV st) (hx := 1) (tg := s.k.tg) (n := (i : Nat)) (t := n1) (to := n2) (cv := pk s.k.fr) hq hs.c3 ⟨v0.1, by omega⟩ v1 ⟨v2.1, by omega⟩ hs.c1 (hs.z 1) (not_heldB hkb 1) hS.1 ?_
    refine pu_1b (sv := stepperV st) (i := i) hS.2 fun A' hA' => own_step_call (K := stK) (.stop fun d => k_live (c := ⟨⟨12, (i : Nat), n1, n2, n3, n4, a⟩, A, A1, A2, ab⟩) (c' := ⟨⟨13, (i : Nat), n1, n2, n3, (i : Nat), a⟩, A, A', A2, ab⟩) (k' := { s.k with fr := (n2, tagOf s.k.tg n1) }) (hs.setFr ⟨v2.1, v2.2, t1.1, t1.2⟩ t2) (by simp [KSt.step, KSt.turn, e, tagOf]) rfl ⟨⟨by simp, v0, v1, v2, ⟨hpos, v0.2⟩, fun h => by simp at h⟩, hA', hJ.a⟩ hc hdis (fun r hr => heap_setCell_ne _ _ _ (fun e => hr (.inl e))) d)
  · rw [decide_eq_false e] at hq
    refine tk_3b (sv := stepperV st) (hx := 1) (tg := s.k.tg) (n := (i : Nat)) (t := n1) (to := n2) (cv := pk s.k.fr) hq hs.c3 ⟨v0.1, by omega⟩ v1 ⟨v2.1, by omega⟩ hs.c1 (hs.z 1) (not_heldB hkb 1) hS.1 fun A' hA' => own_step_call (K := stK) (.stop fun d => k_live (c := ⟨⟨12, (i : Nat), n1, n2, n3, n4, a⟩, A, A1, A2, ab⟩) (c' := ⟨⟨10, (i : Nat), n1, n2, n3, n4, a⟩, A', A1, A2, ab⟩) (k' := s.k) hs (by simp [KSt.step, KSt.turn, e]) rfl ⟨⟨by simp, v0, v1, v2, v4, fun h => by simp at h⟩, ⟨hA', hS.2⟩, hJ.a⟩ hc hdis (fun r _ => rfl) d)
theorem ks_13 (hJ : KJ kb st s.m ⟨⟨13, n0, n1, n2, n3, n4, a⟩, A, A1, A2, ab⟩) (hs : KU kb s w) (hc : Ans w ab) (hdis : ¬ KR kb s ab) (hF : ∀ r, KR kb s r ∨ r = ab → F r = none) (b : Frame) (cs : List Frame) :
    Own Try.prog false F ((KLay kb).Out st s (fun r => r = ab) ((KLay kb).stp s ⟨⟨13, n0, n1, n2, n3, n4, a⟩, A, A1, A2, ab⟩) w (b :: cs)) (back (.tuple #[]) ((KLay kb).cf st ⟨⟨13, n0, n1, n2, n3, n4, a⟩, A, A1, A2, ab⟩ ++ b :: cs)) w := by
  have hkb : F kb = none := hF _ (.inl (.inl rfl))
  have hnb : F s.nb = none := hF _ (.inl (.inr rfl))
  have hans : ∀ k, ¬ held F ⟨ab, k, none⟩ := fun k => not_heldB (hF _ (.inr rfl)) k
  have hm := hs.wf.n3
  have hmm : s.m = s.k.nx.length := rfl
  have hS := hJ.s
  obtain ⟨_, v0, v1, v2, v4, vp⟩ := hJ.v
  simp only at v0 v1 v2 v4 vp
  refine own_step_back (K := stK) (sa := ⟨st, 0, none⟩) ?_
  obtain ⟨i, rfl⟩ : ∃ i : Nat, n4 = i := ⟨n4.toNat, by omega⟩
  have hi : i < s.m := by omega
  refine pu_2 (sv := stepperV st) (v := a) (i := i) hi hs.c2 (hs.nc hi).2.1 ((hs.nc hi).2.2 _) (not_heldB hnb _) hS fun A1' hA1' => ?_
  refine gv_0 (sv := stepperV st) (hx := 0) (i := i) fun A' hA' => own_step_call (K := stK) (.stop fun d => k_live (c := ⟨⟨13, n0, n1, n2, n3, (i : Nat), a⟩, A, A1, A2, ab⟩) (c' := ⟨⟨14, n0, n1, n2, n3, (i : Nat), a⟩, A', A1', A2, ab⟩) (k' := { s.k with vl := s.k.vl.set i a }) (hs.setVl hi) (by simp [KSt.step]) rfl ⟨⟨by simp, v0, v1, v2, v4, fun h => by simp at h⟩, ⟨hA', hA1'⟩, hJ.a⟩ hc hdis (fun r hr => heap_setCell_ne _ _ _ (fun e => hr (.inr e))) d)
theorem ks_14 (hJ : KJ kb st s.m ⟨⟨14, n0, n1, n2, n3, n4, a⟩, A, A1, A2, ab⟩) (hs : KU kb s w) (hc : Ans w ab) (hdis : ¬ KR kb s ab) (hF : ∀ r, KR kb s r ∨ r = ab → F r = none) (b : Frame) (cs : List Frame) :
    Own Try.prog false F ((KLay kb).Out st s (fun r => r = ab) ((KLay kb).stp s ⟨⟨14, n0, n1, n2, n3, n4, a⟩, A, A1, A2, ab⟩) w (b :: cs)) (back (.tuple #[]) ((KLay kb).cf st ⟨⟨14, n0, n1, n2, n3, n4, a⟩, A, A1, A2, ab⟩ ++ b :: cs)) w := by
  have hkb : F kb = none := hF _ (.inl (.inl rfl))
  have hnb : F s.nb = none := hF _ (.inl (.inr rfl))
  have hans : ∀ k, ¬ held F ⟨ab, k, none⟩ := fun k => not_heldB (hF _ (.inr rfl)) k
  have hm := hs.wf.n3
  have hmm : s.m = s.k.nx.length := rfl
  have hS := hJ.s
  obtain ⟨_, v0, v1, v2, v4, vp⟩ := hJ.v
  simp only at v0 v1 v2 v4 vp
  refine own_step_back (K := stK) (sa := ⟨st, 0, none⟩) ?_
  obtain ⟨h1, h2, h3, h4⟩ := hs.wf.hd
  obtain ⟨i, rfl⟩ : ∃ i : Nat, n4 = i := ⟨n4.toNat, by omega⟩
  refine gv_1 (sv := stepperV st) (hx := 0) (i := i) (n := s.k.hd.1) (t := s.k.hd.2) hs.c0 hS.1 fun A' hA' => own_step_call (K := stK) (.stop fun d => k_live (c := ⟨⟨14, n0, n1, n2, n3, (i : Nat), a⟩, A, A1, A2, ab⟩) (c' := ⟨⟨15, s.k.hd.1, s.k.hd.2, n2, n3, (i : Nat), a⟩, A', A1, A2, ab⟩) (k' := s.k) hs (by simp [KSt.step]) rfl ⟨⟨by simp, ⟨h1, h2⟩, ⟨h3, h4⟩, v2, v4, fun h => by simp at h⟩, ⟨hA', hS.2⟩, hJ.a⟩ hc hdis (fun r _ => rfl) d)
theorem ks_15 (hJ : KJ kb st s.m ⟨⟨15, n0, n1, n2, n3, n4, a⟩, A, A1, A2, ab⟩) (hs : KU kb s w) (hc : Ans w ab) (hdis : ¬ KR kb s ab) (hF : ∀ r, KR kb s r ∨ r = ab → F r = none) (b : Frame) (cs : List Frame) :
    Own Try.prog false F ((KLay kb).Out st s (fun r => r = ab) ((KLay kb).stp s ⟨⟨15, n0, n1, n2, n3, n4, a⟩, A, A1, A2, ab⟩) w (b :: cs)) (back (.tuple #[]) ((KLay kb).cf st ⟨⟨15, n0, n1, n2, n3, n4, a⟩, A, A1, A2, ab⟩ ++ b :: cs)) w := by
  have hkb : F kb = none := hF _ (.inl (.inl rfl))
  have hnb : F s.nb = none := hF _ (.inl (.inr rfl))
  have hans : ∀ k, ¬ held F ⟨ab, k, none⟩ := fun k => not_heldB (hF _ (.inr rfl)) k
  have hm := hs.wf.n3
  have hmm : s.m = s.k.nx.length := rfl
  have hS := hJ.s
  obtain ⟨_, v0, v1, v2, v4, vp⟩ := hJ.v
  simp only at v0 v1 v2 v4 vp
  refine own_step_back (K := stK) (sa := ⟨st, 0, none⟩) ?_
  obtain ⟨i, rfl⟩ : ∃ i : Nat, n4 = i := ⟨n4.toNat, by omega⟩
  have hi : i < s.m := by omega
  have hl : (s.k.nx.set i n0).length = s.k.nx.length := List.length_set
  refine gv_2 (sv := stepperV st) (hx := 0) (i := i) (n := n0) (t := n1) ⟨v0.1, by omega⟩ v1 hi hs.c2 (hs.nc hi).1 ((hs.nc hi).2.2 _) (not_heldB hnb _) hS.1 fun A' hA' => own_step_call (K := stK) (.stop fun d => k_live (c := ⟨⟨15, n0, n1, n2, n3, (i : Nat), a⟩, A, A1, A2, ab⟩) (c' := ⟨⟨16, n0, n1, n2, n3, (i : Nat), a⟩, A', A1, A2, ab⟩) (k' := { s.k with nx := s.k.nx.set i n0 }) (hs.setNx hi v0) (by simp [KSt.step]) rfl ⟨⟨by simp, by simpa using v0, v1, by simpa using v2, by simpa using v4, fun h => by simp at h⟩, ⟨hA', hS.2⟩, hJ.a⟩ hc hdis (fun r hr => heap_setCell_ne _ _ _ (fun e => hr (.inr e))) d)
theorem ks_16 (hJ : KJ kb st s.m ⟨⟨16, n0, n1, n2, n3, n4, a⟩, A, A1, A2, ab⟩) (hs : KU kb s w) (hc : Ans w ab) (hdis : ¬ KR kb s ab) (hF : ∀ r, KR kb s r ∨ r = ab → F r = none) (b : Frame) (cs : List Frame) :
    Own Try.prog false F ((KLay kb).Out st s (fun r => r = ab) ((KLay kb).stp s ⟨⟨16, n0, n1, n2, n3, n4, a⟩, A, A1, A2, ab⟩) w (b :: cs)) (back (.tuple #[]) ((KLay kb).cf st ⟨⟨16, n0, n1, n2, n3, n4, a⟩, A, A1, A2, ab⟩ ++ b :: cs)) w := by
  have hkb : F kb = none := hF _ (.inl (.inl rfl))
  have hnb : F s.nb = none := hF _ (.inl (.inr rfl))
  have hans : ∀ k, ¬ held F ⟨ab, k, none⟩ := fun k => not_heldB (hF _ (.inr rfl)) k
  have hm := hs.wf.n3
  have hmm : s.m = s.k.nx.length := rfl
  have hS := hJ.s
  obtain ⟨_, v0, v1, v2, v4, vp⟩ := hJ.v
  simp only at v0 v1 v2 v4 vp
  refine own_step_back (K := stK) (sa := ⟨st, 0, none⟩) ?_
  obtain ⟨i, rfl⟩ : ∃ i : Nat, n4 = i := ⟨n4.toNat, by omega⟩
  obtain ⟨t1, t2⟩ := tag_ok s.k.tg n1
  have hq := (pk_eq hs.wf (n := n0) v1).1
  by_cases e : s.k.hd = (n0, n1)
  · rw [decide_eq_true e] at hq
    refine gv_3a (sv := stepperV st) (hx := 0) (tg := s.k.tg) (i := i) (n := n0) (t := n1) (cv := pk s.k.hd) hq hs.c3 ⟨v0.1, by omega⟩ v1 ⟨by omega, by omega⟩ hs.c0 (hs.z 0) (not_heldB hkb 0) hS.1 ?_
    have hw2 : Ans (w.setCell ⟨kb, 0, none⟩ (.int .u64 (pk ((i : Int), tagOf s.k.tg n1)))) ab := ans_same hc (heap_setCell_ne _ _ _ fun e => hdis (.inl e))
    refine pu_3 (sv := stepperV st) hS.2 ?_
    exact kdo_pu1 hw2 hans hJ.a (.stop fun d => k_ans (c := ⟨⟨16, n0, n1, n2, n3, (i : Nat), a⟩, A, A1, A2, ab⟩) (an := (true, 0)) (k' := { s.k with hd := ((i : Int), tagOf s.k.tg n1) }) (hs.setHd ⟨by simp only; omega, by simp only; omega, t1.1, t1.2⟩ t2) (by simp [KSt.step, KSt.turn, e, tagOf]) hdis d)
  · rw [decide_eq_false e] at hq
    refine gv_3b (sv := stepperV st) (hx := 0) (tg := s.k.tg) (i := i) (n := n0) (t := n1) (cv := pk s.k.hd) hq hs.c3 ⟨v0.1, by omega⟩ v1 ⟨by omega, by omega⟩ hs.c0 (hs.z 0) (not_heldB hkb 0) hS.1 fun A' hA' => own_step_call (K := stK) (.stop fun d => k_live (c := ⟨⟨16, n0, n1, n2, n3, (i : Nat), a⟩, A, A1, A2, ab⟩) (c' := ⟨⟨14, n0, n1, n2, n3, (i : Nat), a⟩, A', A1, A2, ab⟩) (k' := s.k) hs (by simp [KSt.step, KSt.turn, e]) rfl ⟨⟨by simp, v0, v1, v2, v4, fun h => by simp at h⟩, ⟨hA', hS.2⟩, hJ.a⟩ hc hdis (fun r _ => rfl) d)
theorem ks_20 (hJ : KJ kb st s.m ⟨⟨20, n0, n1, n2, n3, n4, a⟩, A, A1, A2, ab⟩) (hs : KU kb s w) (hc : Ans w ab) (hdis : ¬ KR kb s ab) (hF : ∀ r, KR kb s r ∨ r = ab → F r = none) (b : Frame) (cs : List Frame) :
    Own Try.prog false F ((KLay kb).Out st s (fun r => r = ab) ((KLay kb).stp s ⟨⟨20, n0, n1, n2, n3, n4, a⟩, A, A1, A2, ab⟩) w (b :: cs)) (back (.tuple #[]) ((KLay kb).cf st ⟨⟨20, n0, n1, n2, n3, n4, a⟩, A, A1, A2, ab⟩ ++ b :: cs)) w := by
  have hkb : F kb = none := hF _ (.inl (.inl rfl))
  have hnb : F s.nb = none := hF _ (.inl (.inr rfl))
  have hans : ∀ k, ¬ held F ⟨ab, k, none⟩ := fun k => not_heldB (hF _ (.inr rfl)) k
  have hm := hs.wf.n3
  have hmm : s.m = s.k.nx.length := rfl
  have hS := hJ.s
  obtain ⟨_, v0, v1, v2, v4, vp⟩ := hJ.v
  simp only at v0 v1 v2 v4 vp
  refine own_step_back (K := stK) (sa := ⟨st, 0, none⟩) ?_
  obtain ⟨h1, h2, h3, h4⟩ := hs.wf.hd
  by_cases hneg : s.k.hd.1 < 0
  · refine tk_1a (sv := stepperV st) (hx := 0) (n := s.k.hd.1) (t := s.k.hd.2) ⟨h1, by omega⟩ ⟨h3, h4⟩ hneg hs.c0 hS.1 ?_
    refine po_1a (sv := stepperV st) hS.2 ?_
    exact kdo_po1 hc hans hJ.a (.stop fun d => k_ans (c := ⟨⟨20, n0, n1, n2, n3, n4, a⟩, A, A1, A2, ab⟩) (an := (false, 0)) (k' := s.k) hs (by simp [KSt.step, hneg]) hdis d)
  · refine tk_1b (sv := stepperV st) (hx := 0) (n := s.k.hd.1) (t := s.k.hd.2) ⟨h1, by omega⟩ ⟨h3, h4⟩ hneg hs.c0 hS.1 fun A' hA' => own_step_call (K := stK) (.stop fun d => k_live (c := ⟨⟨20, n0, n1, n2, n3, n4, a⟩, A, A1, A2, ab⟩) (c' := ⟨⟨21, s.k.hd.1, s.k.hd.2, n2, n3, n4, a⟩, A', A1, A2, ab⟩) (k' := s.k) hs (by simp [KSt.step, hneg]) rfl ⟨⟨by simp, ⟨h1, h2⟩, ⟨h3, h4⟩, v2, v4, fun _ => by simp only; omega⟩, ⟨hA', hS.2⟩, hJ.a⟩ hc hdis (fun r _ => rfl) d)
theorem ks_21 (hJ : KJ kb st s.m ⟨⟨21, n0, n1, n2, n3, n4, a⟩, A, A1, A2, ab⟩) (hs : KU kb s w) (hc : Ans w ab) (hdis : ¬ KR kb s ab) (hF : ∀ r, KR kb s r ∨ r = ab → F r = none) (b : Frame) (cs : List Frame) :
    Own Try.prog false F ((KLay kb).Out st s (fun r => r = ab) ((KLay kb).stp s ⟨⟨21, n0, n1, n2, n3, n4, a⟩, A, A1, A2, ab⟩) w (b :: cs)) (back (.tuple #[]) ((KLay kb).cf st ⟨⟨21, n0, n1, n2, n3, n4, a⟩, A, A1, A2, ab⟩ ++ b :: cs)) w := by
  have hkb : F kb = none := hF _ (.inl (.inl rfl))
  have hnb : F s.nb = none := hF _ (.inl (.inr rfl))
  have hans : ∀ k, ¬ held F ⟨ab, k, none⟩ := fun k => not_heldB (hF _ (.inr rfl)) k
  have hm := hs.wf.n3
  have hmm : s.m = s.k.nx.length := rfl
  have hS := hJ.s
  obtain ⟨_, v0, v1, v2, v4, vp⟩ := hJ.v
  simp only at v0 v1 v2 v4 vp
  refine own_step_back (K := stK) (sa := ⟨st, 0, none⟩) ?_
  have hpos := vp (by simp)
  obtain ⟨i, rfl⟩ : ∃ i : Nat, n0 = i := ⟨n0.toNat, by omega⟩
  have hi : i < s.m := by omega
  refine tk_2 (sv := stepperV st) (hx := 0) (i := i) (t := n1) (to := s.k.nx.getD i 0) hi hs.c2 (hs.nc hi).1 hS.1 fun A' hA' => own_step_call (K := stK) (.stop fun d => k_live (c := ⟨⟨21, (i : Nat), n1, n2, n3, n4, a⟩, A, A1, A2, ab⟩) (c' := ⟨⟨22, (i : Nat), n1, (s.k.nx.getD i 0), n3, n4, a⟩, A', A1, A2, ab⟩) (k' := s.k) hs (by simp [KSt.step, KSt.nxt]) rfl ⟨⟨by simp, v0, v1, hs.wf.nxt_ok i, v4, fun _ => by simp only; omega⟩, ⟨hA', hS.2⟩, hJ.a⟩ hc hdis (fun r _ => rfl) d)
theorem ks_22 (hJ : KJ kb st s.m ⟨⟨22, n0, n1, n2, n3, n4, a⟩, A, A1, A2, ab⟩) (hs : KU kb s w) (hc : Ans w ab) (hdis : ¬ KR kb s ab) (hF : ∀ r, KR kb s r ∨ r = ab → F r = none) (b : Frame) (cs : List Frame) :
    Own Try.prog false F ((KLay kb).Out st s (fun r => r = ab) ((KLay kb).stp s ⟨⟨22, n0, n1, n2, n3, n4, a⟩, A, A1, A2, ab⟩) w (b :: cs)) (back (.tuple #[]) ((KLay kb).cf st ⟨⟨22, n0, n1, n2, n3, n4, a⟩, A, A1, A2, ab⟩ ++ b :: cs)) w := by
  have hkb : F kb = none := hF _ (.inl (.inl rfl))
  have hnb : F s.nb = none := hF _ (.inl (.inr rfl))
  have hans : ∀ k, ¬ held F ⟨ab, k, none⟩ := fun k => not_heldB (hF _ (.inr rfl)) k
  have hm := hs.wf.n3
  have hmm : s.m = s.k.nx.length := rfl
  have hS := hJ.s
  obtain ⟨_, v0, v1, v2, v4, vp⟩ := hJ.v
  simp only at v0 v1 v2 v4 vp
  refine own_step_back (K := stK) (sa := ⟨st, 0, none⟩) ?_
  have hpos := vp (by simp)
  obtain ⟨i, rfl⟩ : ∃ i : Nat, n0 = i := ⟨n0.toNat, by omega⟩
  obtain ⟨t1, t2⟩ := tag_ok s.k.tg n1
  have hq := (pk_eq hs.wf (n := (i : Nat)) v1).1
  by_cases e : s.k.hd = ((i : Int), n1)
  · rw [decide_eq_true e] at hq
    refine tk_3a (sv := stepperV st) (hx := 0) (tg := s.k.tg) (n := (i : Nat)) (t := n1) (to := n2) (cv := pk s.k.hd) hq hs.c3 ⟨v0.1, by omega⟩ v1 ⟨v2.1, by omega⟩ hs.c0 (hs.z 0) (not_heldB hkb 0) hS.1 ?_
    refine po_1b (sv := stepperV st) (i := i) hS.2 fun A' hA' => own_step_call (K := stK) (.stop fun d => k_live (c := ⟨⟨22, (i : Nat), n1, n2, n3, n4, a⟩, A, A1, A2, ab⟩) (c' := ⟨⟨23, (i : Nat), n1, n2, n3, (i : Nat), a⟩, A, A', A2, ab⟩) (k' := { s.k with hd := (n2, tagOf s.k.tg n1) }) (hs.setHd ⟨v2.1, v2.2, t1.1, t1.2⟩ t2) (by simp [KSt.step, KSt.turn, e, tagOf]) rfl ⟨⟨by simp, v0, v1, v2, ⟨hpos, v0.2⟩, fun h => by simp at h⟩, hA', hJ.a⟩ hc hdis (fun r hr => heap_setCell_ne _ _ _ (fun e => hr (.inl e))) d)
  · rw [decide_eq_false e] at hq
    refine tk_3b (sv := stepperV st) (hx := 0) (tg := s.k.tg) (n := (i : Nat)) (t := n1) (to := n2) (cv := pk s.k.hd) hq hs.c3 ⟨v0.1, by omega⟩ v1 ⟨v2.1, by omega⟩ hs.c0 (hs.z 0) (not_heldB hkb 0) hS.1 fun A' hA' => own_step_call (K := stK) (.stop fun d => k_live (c := ⟨⟨22, (i : Nat), n1, n2, n3, n4, a⟩, A, A1, A2, ab⟩) (c' := ⟨⟨20, (i : Nat), n1, n2, n3, n4, a⟩, A', A1, A2, ab⟩) (k' := s.k) hs (by simp [KSt.step, KSt.turn, e]) rfl ⟨⟨by simp, v0, v1, v2, v4, fun h => by simp at h⟩, ⟨hA', hS.2⟩, hJ.a⟩ hc hdis (fun r _ => rfl) d)
theorem ks_23 (hJ : KJ kb st s.m ⟨⟨23, n0, n1, n2, n3, n4, a⟩, A, A1, A2, ab⟩) (hs : KU kb s w) (hc : Ans w ab) (hdis : ¬ KR kb s ab) (hF : ∀ r, KR kb s r ∨ r = ab → F r = none) (b : Frame) (cs : List Frame) :
    Own Try.prog false F ((KLay kb).Out st s (fun r => r = ab) ((KLay kb).stp s ⟨⟨23, n0, n1, n2, n3, n4, a⟩, A, A1, A2, ab⟩) w (b :: cs)) (back (.tuple #[]) ((KLay kb).cf st ⟨⟨23, n0, n1, n2, n3, n4, a⟩, A, A1, A2, ab⟩ ++ b :: cs)) w := by
  have hkb : F kb = none := hF _ (.inl (.inl rfl))
  have hnb : F s.nb = none := hF _ (.inl (.inr rfl))
  have hans : ∀ k, ¬ held F ⟨ab, k, none⟩ := fun k => not_heldB (hF _ (.inr rfl)) k
  have hm := hs.wf.n3
  have hmm : s.m = s.k.nx.length := rfl
  have hS := hJ.s
  obtain ⟨_, v0, v1, v2, v4, vp⟩ := hJ.v
  simp only at v0 v1 v2 v4 vp
  refine own_step_back (K := stK) (sa := ⟨st, 0, none⟩) ?_
  obtain ⟨i, rfl⟩ : ∃ i : Nat, n4 = i := ⟨n4.toNat, by omega⟩
  have hi : i < s.m := by omega
  refine po_2 (sv := stepperV st) (v := s.k.vl.getD i 0) (i := i) hi hs.c2 (hs.nc hi).2.1 hS fun A1' hA1' => ?_
  refine gv_0 (sv := stepperV st) (hx := 1) (i := i) fun A' hA' => own_step_call (K := stK) (.stop fun d => k_live (c := ⟨⟨23, n0, n1, n2, n3, (i : Nat), a⟩, A, A1, A2, ab⟩) (c' := ⟨⟨24, n0, n1, n2, (s.k.vl.getD i 0), (i : Nat), a⟩, A', A1', A2, ab⟩) (k' := s.k) hs (by simp [KSt.step, KSt.val]) rfl ⟨⟨by simp, v0, v1, v2, v4, fun h => by simp at h⟩, ⟨hA', hA1'⟩, hJ.a⟩ hc hdis (fun r _ => rfl) d)
theorem ks_24 (hJ : KJ kb st s.m ⟨⟨24, n0, n1, n2, n3, n4, a⟩, A, A1, A2, ab⟩) (hs : KU kb s w) (hc : Ans w ab) (hdis : ¬ KR kb s ab) (hF : ∀ r, KR kb s r ∨ r = ab → F r = none) (b : Frame) (cs : List Frame) :
    Own Try.prog false F ((KLay kb).Out st s (fun r => r = ab) ((KLay kb).stp s ⟨⟨24, n0, n1, n2, n3, n4, a⟩, A, A1, A2, ab⟩) w (b :: cs)) (back (.tuple #[]) ((KLay kb).cf st ⟨⟨24, n0, n1, n2, n3, n4, a⟩, A, A1, A2, ab⟩ ++ b :: cs)) w := by
  have hkb : F kb = none := hF _ (.inl (.inl rfl))
  have hnb : F s.nb = none := hF _ (.inl (.inr rfl))
  have hans : ∀ k, ¬ held F ⟨ab, k, none⟩ := fun k => not_heldB (hF _ (.inr rfl)) k
  have hm := hs.wf.n3
  have hmm : s.m = s.k.nx.length := rfl
  have hS := hJ.s
  obtain ⟨_, v0, v1, v2, v4, vp⟩ := hJ.v
  simp only at v0 v1 v2 v4 vp
  refine own_step_back (K := stK) (sa := ⟨st, 0, none⟩) ?_
  obtain ⟨h1, h2, h3, h4⟩ := hs.wf.fr
  obtain ⟨i, rfl⟩ : ∃ i : Nat, n4 = i := ⟨n4.toNat, by omega⟩
  refine gv_1 (sv := stepperV st) (hx := 1) (i := i) (n := s.k.fr.1) (t := s.k.fr.2) hs.c1 hS.1 fun A' hA' => own_step_call (K := stK) (.stop fun d => k_live (c := ⟨⟨24, n0, n1, n2, n3, (i : Nat), a⟩, A, A1, A2, ab⟩) (c' := ⟨⟨25, s.k.fr.1, s.k.fr.2, n2, n3, (i : Nat), a⟩, A', A1, A2, ab⟩) (k' := s.k) hs (by simp [KSt.step]) rfl ⟨⟨by simp, ⟨h1, h2⟩, ⟨h3, h4⟩, v2, v4, fun h => by simp at h⟩, ⟨hA', hS.2⟩, hJ.a⟩ hc hdis (fun r _ => rfl) d)
theorem ks_25 (hJ : KJ kb st s.m ⟨⟨25, n0, n1, n2, n3, n4, a⟩, A, A1, A2, ab⟩) (hs : KU kb s w) (hc : Ans w ab) (hdis : ¬ KR kb s ab) (hF : ∀ r, KR kb s r ∨ r = ab → F r = none) (b : Frame) (cs : List Frame) :
    Own Try.prog false F ((KLay kb).Out st s (fun r => r = ab) ((KLay kb).stp s ⟨⟨25, n0, n1, n2, n3, n4, a⟩, A, A1, A2, ab⟩) w (b :: cs)) (back (.tuple #[]) ((KLay kb).cf st ⟨⟨25, n0, n1, n2, n3, n4, a⟩, A, A1, A2, ab⟩ ++ b :: cs)) w := by
  have hkb : F kb = none := hF _ (.inl (.inl rfl))
  have hnb : F s.nb = none := hF _ (.inl (.inr rfl))
  have hans : ∀ k, ¬ held F ⟨ab, k, none⟩ := fun k => not_heldB (hF _ (.inr rfl)) k
  have hm := hs.wf.n3
  have hmm : s.m = s.k.nx.length := rfl
  have hS := hJ.s
  obtain ⟨_, v0, v1, v2, v4, vp⟩ := hJ.v
  simp only at v0 v1 v2 v4 vp
  refine own_step_back (K := stK) (sa := ⟨st, 0, none⟩) ?_
  obtain ⟨i, rfl⟩ : ∃ i : Nat, n4 = i := ⟨n4.toNat, by omega⟩
  have hi : i < s.m := by omega
  have hl : (s.k.nx.set i n0).length = s.k.nx.length := List.length_set
  refine gv_2 (sv := stepperV st) (hx := 1) (i := i) (n := n0) (t := n1) ⟨v0.1, by omega⟩ v1 hi hs.c2 (hs.nc hi).1 ((hs.nc hi).2.2 _) (not_heldB hnb _) hS.1 fun A' hA' => own_step_call (K := stK) (.stop fun d => k_live (c := ⟨⟨25, n0, n1, n2, n3, (i : Nat), a⟩, A, A1, A2, ab⟩) (c' := ⟨⟨26, n0, n1, n2, n3, (i : Nat), a⟩, A', A1, A2, ab⟩) (k' := { s.k with nx := s.k.nx.set i n0 }) (hs.setNx hi v0) (by simp [KSt.step]) rfl ⟨⟨by simp, by simpa using v0, v1, by simpa using v2, by simpa using v4, fun h => by simp at h⟩, ⟨hA', hS.2⟩, hJ.a⟩ hc hdis (fun r hr => heap_setCell_ne _ _ _ (fun e => hr (.inr e))) d)
theorem ks_26 (hJ : KJ kb st s.m ⟨⟨26, n0, n1, n2, n3, n4, a⟩, A, A1, A2, ab⟩) (hs : KU kb s w) (hc : Ans w ab) (hdis : ¬ KR kb s ab) (hF : ∀ r, KR kb s r ∨ r = ab → F r = none) (b : Frame) (cs : List Frame) :
    Own Try.prog false F ((KLay kb).Out st s (fun r => r = ab) ((KLay kb).stp s ⟨⟨26, n0, n1, n2, n3, n4, a⟩, A, A1, A2, ab⟩) w (b :: cs)) (back (.tuple #[]) ((KLay kb).cf st ⟨⟨26, n0, n1, n2, n3, n4, a⟩, A, A1, A2, ab⟩ ++ b :: cs)) w := by
  have hkb : F kb = none := hF _ (.inl (.inl rfl))
  have hnb : F s.nb = none := hF _ (.inl (.inr rfl))
  have hans : ∀ k, ¬ held F ⟨ab, k, none⟩ := fun k => not_heldB (hF _ (.inr rfl)) k
  have hm := hs.wf.n3
  have hmm : s.m = s.k.nx.length := rfl
  have hS := hJ.s
  obtain ⟨_, v0, v1, v2, v4, vp⟩ := hJ.v
  simp only at v0 v1 v2 v4 vp
  refine own_step_back (K := stK) (sa := ⟨st, 0, none⟩) ?_
  obtain ⟨i, rfl⟩ : ∃ i : Nat, n4 = i := ⟨n4.toNat, by omega⟩
  obtain ⟨t1, t2⟩ := tag_ok s.k.tg n1
  have hq := (pk_eq hs.wf (n := n0) v1).2
  by_cases e : s.k.fr = (n0, n1)
  · rw [decide_eq_true e] at hq
    refine gv_3a (sv := stepperV st) (hx := 1) (tg := s.k.tg) (i := i) (n := n0) (t := n1) (cv := pk s.k.fr) hq hs.c3 ⟨v0.1, by omega⟩ v1 ⟨by omega, by omega⟩ hs.c1 (hs.z 1) (not_heldB hkb 1) hS.1 ?_
    have hw2 : Ans (w.setCell ⟨kb, 1, none⟩ (.int .u64 (pk ((i : Int), tagOf s.k.tg n1)))) ab := ans_same hc (heap_setCell_ne _ _ _ fun e => hdis (.inl e))
    refine po_3 (sv := stepperV st) hS.2 ?_
    exact kdo_po1 hw2 hans hJ.a (.stop fun d => k_ans (c := ⟨⟨26, n0, n1, n2, n3, (i : Nat), a⟩, A, A1, A2, ab⟩) (an := (true, n3)) (k' := { s.k with fr := ((i : Int), tagOf s.k.tg n1) }) (hs.setFr ⟨by simp only; omega, by simp only; omega, t1.1, t1.2⟩ t2) (by simp [KSt.step, KSt.turn, e, tagOf]) hdis d)
  · rw [decide_eq_false e] at hq
    refine gv_3b (sv := stepperV st) (hx := 1) (tg := s.k.tg) (i := i) (n := n0) (t := n1) (cv := pk s.k.fr) hq hs.c3 ⟨v0.1, by omega⟩ v1 ⟨by omega, by omega⟩ hs.c1 (hs.z 1) (not_heldB hkb 1) hS.1 fun A' hA' => own_step_call (K := stK) (.stop fun d => k_live (c := ⟨⟨26, n0, n1, n2, n3, (i : Nat), a⟩, A, A1, A2, ab⟩) (c' := ⟨⟨24, n0, n1, n2, n3, (i : Nat), a⟩, A', A1, A2, ab⟩) (k' := s.k) hs (by simp [KSt.step, KSt.turn, e]) rfl ⟨⟨by simp, v0, v1, v2, v4, fun h => by simp at h⟩, ⟨hA', hS.2⟩, hJ.a⟩ hc hdis (fun r _ => rfl) d)
theorem ks_30 (hJ : KJ kb st s.m ⟨⟨30, n0, n1, n2, n3, n4, a⟩, A, A1, A2, ab⟩) (hs : KU kb s w) (hc : Ans w ab) (hdis : ¬ KR kb s ab) (hF : ∀ r, KR kb s r ∨ r = ab → F r = none) (b : Frame) (cs : List Frame) :
    Own Try.prog false F ((KLay kb).Out st s (fun r => r = ab) ((KLay kb).stp s ⟨⟨30, n0, n1, n2, n3, n4, a⟩, A, A1, A2, ab⟩) w (b :: cs)) (back (.tuple #[]) ((KLay kb).cf st ⟨⟨30, n0, n1, n2, n3, n4, a⟩, A, A1, A2, ab⟩ ++ b :: cs)) w := by
  have hkb : F kb = none := hF _ (.inl (.inl rfl))
  have hnb : F s.nb = none := hF _ (.inl (.inr rfl))
  have hans : ∀ k, ¬ held F ⟨ab, k, none⟩ := fun k => not_heldB (hF _ (.inr rfl)) k
  have hm := hs.wf.n3
  have hmm : s.m = s.k.nx.length := rfl
  have hS := hJ.s
  obtain ⟨_, v0, v1, v2, v4, vp⟩ := hJ.v
  simp only at v0 v1 v2 v4 vp
  refine own_step_back (K := stK) (sa := ⟨st, 0, none⟩) ?_
  obtain ⟨h1, h2, h3, h4⟩ := hs.wf.hd
  by_cases hneg : s.k.hd.1 < 0
  · refine pk_1a (sv := stepperV st) (n := s.k.hd.1) (t := s.k.hd.2) ⟨h1, by omega⟩ ⟨h3, h4⟩ hneg hs.c0 hS ?_
    exact kdo_pe1 hc hans hJ.a (.stop fun d => k_ans (c := ⟨⟨30, n0, n1, n2, n3, n4, a⟩, A, A1, A2, ab⟩) (an := (false, 0)) (k' := s.k) hs (by simp [KSt.step, hneg]) hdis d)
  · obtain ⟨i, hi⟩ : ∃ i : Nat, s.k.hd.1 = i := ⟨s.k.hd.1.toNat, by omega⟩
    have hc0 := hs.c0
    rw [show s.k.hd = ((i : Int), s.k.hd.2) from Prod.ext hi rfl] at hc0
    refine pk_1b (sv := stepperV st) (i := i) (t := s.k.hd.2) ⟨by omega, by omega⟩ ⟨h3, h4⟩ hc0 hS fun A' hA' => own_step_call (K := stK) (.stop fun d => k_live (c := ⟨⟨30, n0, n1, n2, n3, n4, a⟩, A, A1, A2, ab⟩) (c' := ⟨⟨31, (i : Nat), s.k.hd.2, n2, n3, n4, a⟩, A, A', A2, ab⟩) (k' := s.k) hs (by simp [KSt.step, hneg, hi]) rfl ⟨⟨by simp, ⟨by simp only; omega, by simp only; omega⟩, ⟨h3, h4⟩, v2, v4, fun _ => by simp only; omega⟩, hA', hJ.a⟩ hc hdis (fun r _ => rfl) d)
theorem ks_31 (hJ : KJ kb st s.m ⟨⟨31, n0, n1, n2, n3, n4, a⟩, A, A1, A2, ab⟩) (hs : KU kb s w) (hc : Ans w ab) (hdis : ¬ KR kb s ab) (hF : ∀ r, KR kb s r ∨ r = ab → F r = none) (b : Frame) (cs : List Frame) :
    Own Try.prog false F ((KLay kb).Out st s (fun r => r = ab) ((KLay kb).stp s ⟨⟨31, n0, n1, n2, n3, n4, a⟩, A, A1, A2, ab⟩) w (b :: cs)) (back (.tuple #[]) ((KLay kb).cf st ⟨⟨31, n0, n1, n2, n3, n4, a⟩, A, A1, A2, ab⟩ ++ b :: cs)) w := by
  have hkb : F kb = none := hF _ (.inl (.inl rfl))
  have hnb : F s.nb = none := hF _ (.inl (.inr rfl))
  have hans : ∀ k, ¬ held F ⟨ab, k, none⟩ := fun k => not_heldB (hF _ (.inr rfl)) k
  have hm := hs.wf.n3
  have hmm : s.m = s.k.nx.length := rfl
  have hS := hJ.s
  obtain ⟨_, v0, v1, v2, v4, vp⟩ := hJ.v
  simp only at v0 v1 v2 v4 vp
  refine own_step_back (K := stK) (sa := ⟨st, 0, none⟩) ?_
  have hpos := vp (by simp)
  obtain ⟨i, rfl⟩ : ∃ i : Nat, n0 = i := ⟨n0.toNat, by omega⟩
  have hi : i < s.m := by omega
  refine pk_2 (sv := stepperV st) (i := i) (t := n1) (v0 := s.k.vl.getD i 0) ⟨by omega, by omega⟩ v1 hi hs.c2 (hs.nc hi).2.1 hS fun A' hA' => own_step_call (K := stK) (.stop fun d => k_live (c := ⟨⟨31, (i : Nat), n1, n2, n3, n4, a⟩, A, A1, A2, ab⟩) (c' := ⟨⟨32, (i : Nat), n1, n2, (s.k.vl.getD i 0), n4, a⟩, A, A', A2, ab⟩) (k' := s.k) hs (by simp [KSt.step, KSt.val]) rfl ⟨⟨by simp, v0, v1, v2, v4, fun _ => by simp only; omega⟩, hA', hJ.a⟩ hc hdis (fun r _ => rfl) d)
theorem ks_32 (hJ : KJ kb st s.m ⟨⟨32, n0, n1, n2, n3, n4, a⟩, A, A1, A2, ab⟩) (hs : KU kb s w) (hc : Ans w ab) (hdis : ¬ KR kb s ab) (hF : ∀ r, KR kb s r ∨ r = ab → F r = none) (b : Frame) (cs : List Frame) :
    Own Try.prog false F ((KLay kb).Out st s (fun r => r = ab) ((KLay kb).stp s ⟨⟨32, n0, n1, n2, n3, n4, a⟩, A, A1, A2, ab⟩) w (b :: cs)) (back (.tuple #[]) ((KLay kb).cf st ⟨⟨32, n0, n1, n2, n3, n4, a⟩, A, A1, A2, ab⟩ ++ b :: cs)) w := by
  have hkb : F kb = none := hF _ (.inl (.inl rfl))
  have hnb : F s.nb = none := hF _ (.inl (.inr rfl))
  have hans : ∀ k, ¬ held F ⟨ab, k, none⟩ := fun k => not_heldB (hF _ (.inr rfl)) k
  have hm := hs.wf.n3
  have hmm : s.m = s.k.nx.length := rfl
  have hS := hJ.s
  obtain ⟨_, v0, v1, v2, v4, vp⟩ := hJ.v
  simp only at v0 v1 v2 v4 vp
  refine own_step_back (K := stK) (sa := ⟨st, 0, none⟩) ?_
  have hpos := vp (by simp)
  obtain ⟨i, rfl⟩ : ∃ i : Nat, n0 = i := ⟨n0.toNat, by omega⟩
  obtain ⟨h1, h2, h3, h4⟩ := hs.wf.hd
  have hq := (pk_eq hs.wf (n := (i : Nat)) v1).1
  by_cases e : s.k.hd = ((i : Int), n1)
  · rw [decide_eq_true e] at hq
    refine pk_3a (sv := stepperV st) (i := i) (t := n1) (v := n3) (n := s.k.hd.1) (u := s.k.hd.2) hq hs.c0 hS ?_
    exact kdo_pe1 hc hans hJ.a (.stop fun d => k_ans (c := ⟨⟨32, (i : Nat), n1, n2, n3, n4, a⟩, A, A1, A2, ab⟩) (an := (true, n3)) (k' := s.k) hs (by simp [KSt.step, e]) hdis d)
  · rw [decide_eq_false e] at hq
    by_cases hneg : s.k.hd.1 < 0
    · refine pk_3b (sv := stepperV st) (i := i) (t := n1) (v := n3) (n := s.k.hd.1) (u := s.k.hd.2) hq ⟨h1, by omega⟩ ⟨h3, h4⟩ hneg hs.c0 hS ?_
      exact kdo_pe1 hc hans hJ.a (.stop fun d => k_ans (c := ⟨⟨32, (i : Nat), n1, n2, n3, n4, a⟩, A, A1, A2, ab⟩) (an := (false, 0)) (k' := s.k) hs (by simp [KSt.step, e, hneg]) hdis d)
    · obtain ⟨j, hj⟩ : ∃ j : Nat, s.k.hd.1 = j := ⟨s.k.hd.1.toNat, by omega⟩
      have ej : s.k.hd = ((j : Int), s.k.hd.2) := Prod.ext hj rfl
      have hc0 := hs.c0
      rw [ej] at hc0
      rw [ej] at hq
      refine pk_3c (sv := stepperV st) (i := i) (j := j) (t := n1) (u := s.k.hd.2) (v := n3) hq ⟨by omega, by omega⟩ ⟨h3, h4⟩ hc0 hS fun A' hA' => own_step_call (K := stK) (.stop fun d => k_live (c := ⟨⟨32, (i : Nat), n1, n2, n3, n4, a⟩, A, A1, A2, ab⟩) (c' := ⟨⟨31, (j : Nat), s.k.hd.2, n2, n3, n4, a⟩, A, A', A2, ab⟩) (k' := s.k) hs (by simp [KSt.step, e, hneg, hj]) rfl ⟨⟨by simp, ⟨by simp only; omega, by simp only; omega⟩, ⟨h3, h4⟩, v2, v4, fun _ => by simp only; omega⟩, hA', hJ.a⟩ hc hdis (fun r _ => rfl) d)
theorem ks_40 (hJ : KJ kb st s.m ⟨⟨40, n0, n1, n2, n3, n4, a⟩, A, A1, A2, ab⟩) (hs : KU kb s w) (hc : Ans w ab) (hdis : ¬ KR kb s ab) (hF : ∀ r, KR kb s r ∨ r = ab → F r = none) (b : Frame) (cs : List Frame) :
    Own Try.prog false F ((KLay kb).Out st s (fun r => r = ab) ((KLay kb).stp s ⟨⟨40, n0, n1, n2, n3, n4, a⟩, A, A1, A2, ab⟩) w (b :: cs)) (back (.tuple #[]) ((KLay kb).cf st ⟨⟨40, n0, n1, n2, n3, n4, a⟩, A, A1, A2, ab⟩ ++ b :: cs)) w := by
  have hkb : F kb = none := hF _ (.inl (.inl rfl))
  have hnb : F s.nb = none := hF _ (.inl (.inr rfl))
  have hans : ∀ k, ¬ held F ⟨ab, k, none⟩ := fun k => not_heldB (hF _ (.inr rfl)) k
  have hm := hs.wf.n3
  have hmm : s.m = s.k.nx.length := rfl
  have hS := hJ.s
  obtain ⟨_, v0, v1, v2, v4, vp⟩ := hJ.v
  simp only at v0 v1 v2 v4 vp
  refine own_step_back (K := stK) (sa := ⟨st, 0, none⟩) ?_
  obtain ⟨h1, h2, h3, h4⟩ := hs.wf.hd
  refine em_1 (sv := stepperV st) (n := s.k.hd.1) (t := s.k.hd.2) ⟨h1, by omega⟩ ⟨h3, h4⟩ hs.c0 hS ?_
  exact kdo_em1 hc hans hJ.a (.stop fun d => k_ans (c := ⟨⟨40, n0, n1, n2, n3, n4, a⟩, A, A1, A2, ab⟩) (an := (decide (s.k.hd.1 < 0), 0)) (k' := s.k) hs (by simp [KSt.step]) hdis d)
end
section
variable {s : KS} {a b0 c0 : Int} {i : Nat}
def op2 (w : World) (k a b c : Int) : World := (w.alloc (.cells #[.int .i64 k, .int .i64 a, .int .i64 b, .int .i64 c] 47)).alloc (.cells #[.bool false, .int .i64 0, .slice none 0 0] 44)
theorem op2_old {k a b c : Int} {r : Nat} (h : r < w.heap.size) : (op2 w k a b c).heap[r]? = w.heap[r]? := old2 _ _ _ h
theorem op2_new {k a b c : Int} : (op2 w k a b c).heap[w.heap.size + 1]? = some (.cells #[.bool false, .int .i64 0, .slice none 0 0] 44 (0, 0)) := new2 w _ _ 44
theorem kv_0 (hs : KU kb s w) {pc : Nat} (h : pc ∈ [10, 20, 30, 40]) (a : Int) : KV s.m ⟨pc, 0, 0, 0, 0, 0, a⟩ := by
  have hm : s.m = s.k.nx.length := rfl
  have h2 := hs.wf.n2
  refine ⟨?_, ⟨by simp only; omega, by simp only; omega⟩, ⟨by simp, by simp⟩, ⟨by simp only; omega, by simp only; omega⟩, ⟨by simp, by simp only; omega⟩, fun h => by simp⟩
  simp at h ⊢
  omega
theorem k_beg {c' : KC} {k a b0 c0 : Int} {W : World} {cs : List Frame} (hs : KU kb s w) (hW : W = op2 w k a b0 c0) (hr : (s.k, .inl c'.c) = s.k.begin ⟨k, a, b0, c0⟩) (hab : c'.ab = w.heap.size + 1) (hJ : KJ kb st s.m c') (d : Nat) :
    (KLay kb).Out st s (fun _ => False) ((KLay kb).beg s i ⟨k, a, b0, c0⟩) w cs (G (Frame.enter Try.prog 133 #[.pointer (some ⟨st, 0, none⟩)] .normal) ((KLay kb).cf st c' ++ cs)) (W.at d) := by
  subst hW
  refine ⟨s, .inl c', ⟨rfl, hr⟩, (hs.same fun r hr => op2_old (hs.low hr)).same fun _ _ => rfl, fun q h => .inl h, hJ, ?_, fun q h => .inr (by have h : q = c'.ab := h; omega), fun q h h2 => ?_, rfl⟩
  · show Ans ((op2 w k a b0 c0).at d) c'.ab
    rw [hab]
    exact ⟨_, _, _, op2_new⟩
  · have h : q = c'.ab := h
    have := hs.low h2
    omega
theorem kbeg_pu (hs : KU kb s w) (hwf : Wf F w) (b : Frame) (cs : List Frame) :
    Own Try.prog false F ((KLay kb).Out st s (fun _ => False) ((KLay kb).beg s i ⟨1, a, b0, c0⟩) w (b :: cs)) (G (Frame.enter Try.prog 64 #[.pointer (some ⟨kb, 0, none⟩), stepperV st, .int .i64 i, .agg #[.int .i64 1, .int .i64 a, .int .i64 b0, .int .i64 c0]] .normal) (b :: cs)) w :=
  kdo_pu0 (sv := stepperV st) (wf_under hwf) (Nat.le_refl _) fun A2 hA2 => pu_0 (sv := stepperV st) fun A1 hA1 => tk_0 (sv := stepperV st) (hx := 1) fun A hA => own_step_call (K := stK) (.stop fun d =>
    k_beg (c' := ⟨⟨10, 0, 0, 0, 0, 0, a⟩, A, A1, A2, w.heap.size + 1⟩) hs rfl (by simp [KSt.begin]) rfl ⟨kv_0 hs (by simp) a, ⟨hA, hA1⟩, hA2⟩ d)
theorem kbeg_po (hs : KU kb s w) (hwf : Wf F w) (b : Frame) (cs : List Frame) :
    Own Try.prog false F ((KLay kb).Out st s (fun _ => False) ((KLay kb).beg s i ⟨2, a, b0, c0⟩) w (b :: cs)) (G (Frame.enter Try.prog 64 #[.pointer (some ⟨kb, 0, none⟩), stepperV st, .int .i64 i, .agg #[.int .i64 2, .int .i64 a, .int .i64 b0, .int .i64 c0]] .normal) (b :: cs)) w :=
  kdo_po0 (sv := stepperV st) (wf_under hwf) (Nat.le_refl _) fun A2 hA2 => po_0 (sv := stepperV st) fun A1 hA1 => tk_0 (sv := stepperV st) (hx := 0) fun A hA => own_step_call (K := stK) (.stop fun d =>
    k_beg (c' := ⟨⟨20, 0, 0, 0, 0, 0, 0⟩, A, A1, A2, w.heap.size + 1⟩) hs rfl (by simp [KSt.begin]) rfl ⟨kv_0 hs (by simp) 0, ⟨hA, hA1⟩, hA2⟩ d)
theorem kbeg_pe (hs : KU kb s w) (hwf : Wf F w) (b : Frame) (cs : List Frame) :
    Own Try.prog false F ((KLay kb).Out st s (fun _ => False) ((KLay kb).beg s i ⟨3, a, b0, c0⟩) w (b :: cs)) (G (Frame.enter Try.prog 64 #[.pointer (some ⟨kb, 0, none⟩), stepperV st, .int .i64 i, .agg #[.int .i64 3, .int .i64 a, .int .i64 b0, .int .i64 c0]] .normal) (b :: cs)) w :=
  kdo_pe0 (sv := stepperV st) (wf_under hwf) (Nat.le_refl _) fun A2 hA2 => pk_0 (sv := stepperV st) fun A1 hA1 => own_step_call (K := stK) (.stop fun d =>
    k_beg (c' := ⟨⟨30, 0, 0, 0, 0, 0, 0⟩, A1, A1, A2, w.heap.size + 1⟩) hs rfl (by simp [KSt.begin]) rfl ⟨kv_0 hs (by simp) 0, hA1, hA2⟩ d)
theorem kbeg_em (hs : KU kb s w) (hwf : Wf F w) (b : Frame) (cs : List Frame) :
    Own Try.prog false F ((KLay kb).Out st s (fun _ => False) ((KLay kb).beg s i ⟨4, a, b0, c0⟩) w (b :: cs)) (G (Frame.enter Try.prog 64 #[.pointer (some ⟨kb, 0, none⟩), stepperV st, .int .i64 i, .agg #[.int .i64 4, .int .i64 a, .int .i64 b0, .int .i64 c0]] .normal) (b :: cs)) w :=
  kdo_em0 (sv := stepperV st) (wf_under hwf) (Nat.le_refl _) fun A2 hA2 => em_0 (sv := stepperV st) fun A1 hA1 => own_step_call (K := stK) (.stop fun d =>
    k_beg (c' := ⟨⟨40, 0, 0, 0, 0, 0, 0⟩, A1, A1, A2, w.heap.size + 1⟩) hs rfl (by simp [KSt.begin]) rfl ⟨kv_0 hs (by simp) 0, hA1, hA2⟩ d)
theorem kbeg_other {kd : Int} (h1 : kd ≠ 1) (h2 : kd ≠ 2) (h3 : kd ≠ 3) (h4 : kd ≠ 4) (hs : KU kb s w) (hwf : Wf F w) (b : Frame) (cs : List Frame) :
    Own Try.prog false F ((KLay kb).Out st s (fun _ => False) ((KLay kb).beg s i ⟨kd, a, b0, c0⟩) w (b :: cs)) (G (Frame.enter Try.prog 64 #[.pointer (some ⟨kb, 0, none⟩), stepperV st, .int .i64 i, .agg #[.int .i64 kd, .int .i64 a, .int .i64 b0, .int .i64 c0]] .normal) (b :: cs)) w := by
  refine kdo_other (sv := stepperV st) (wf_under hwf) (Nat.le_refl _) (by simpa using h1) (by simpa using h2) (by simpa using h3) (by simpa using h4) (.stop fun d => ?_)
  refine ⟨s, .inr (false, 0), ⟨rfl, by simp [KSt.begin, h1, h2, h3, h4]⟩, hs.same fun r hr => ?_, fun r hr => .inl hr, trivial, fun q h => h.elim, fun q h => h.elim, rfl⟩
  have hlt := hs.low hr
  exact (ansW_same (by omega)).trans (old2 _ _ _ hlt)
end
theorem begin_len (s : KSt) (o : Op4) : (s.begin o).1.nx.length = s.nx.length := by
  unfold KSt.begin
  repeat' split
  all_goals rfl
theorem klay_ok (kb : Nat) : (KLay kb).Ok where
  call := callable64
  jb := fun st s s' c i o r h hb => by
    have e : s'.m = s.m := by
      have := congrArg (fun x : KSt × KRs => x.1.nx.length) hb.2
      exact this.trans (begin_len _ _)
    show KJ kb st s'.m c
    rw [e]
    exact h
  js := fun st s s' c c1 r h hb => by
    have e : s'.m = s.m := by
      have := congrArg (fun x : KSt × KRs => x.1.nx.length) hb.2
      exact this.trans (step_len _ _)
    show KJ kb st s'.m c
    rw [e]
    exact h
  plain := by
    intro st c
    refine ⟨by simp [KLay], fun u hu => ?_⟩
    have hu : u ∈ stepFr stK ⟨st, 0, none⟩ :: c.fr := hu
    rcases List.mem_cons.1 hu with rfl | hu
    · exact plain_base ⟨_, Try.func79⟩ _ _
    · unfold KC.fr at hu
      split at hu <;>
      · simp only [List.mem_cons, List.mem_nil_iff, or_false, List.not_mem_nil] at hu
        repeat' (rcases hu with rfl | hu)
        all_goals first
          | exact plain_base ⟨_, Try.func78⟩ _ _
          | exact plain_base ⟨_, Try.func80⟩ _ _
          | exact plain_base ⟨_, Try.func45⟩ _ _
          | exact plain_base ⟨_, Try.func43⟩ _ _
          | exact plain_base ⟨_, Try.func44⟩ _ _
          | exact plain_base ⟨_, Try.func46⟩ _ _
          | exact plain_base ⟨_, Try.func64⟩ _ _
          | (subst hu
             exact plain_base ⟨_, Try.func64⟩ _ _)
  sS := fun s w w' h _ hs => KU.same h hs
  sC := fun c w w' h _ hs => ans_same h (hs _ rfl)
  sA := fun _ _ _ _ _ _ => trivial
  lS := fun s w r h hr => KU.low h hr
  lC := by
    rintro c w r h rfl
    obtain ⟨_, _, _, h1⟩ := h.o
    exact (Array.getElem?_eq_some_iff.1 h1).1
  lA := fun _ _ _ _ h => h.elim
  beg := by
    intro s i o st F w c cs hs hwf hF
    obtain ⟨kd, a, b0, c0⟩ := o
    by_cases h1 : kd = 1
    · subst h1
      exact kbeg_pu hs hwf c cs
    · by_cases h2 : kd = 2
      · subst h2
        exact kbeg_po hs hwf c cs
      · by_cases h3 : kd = 3
        · subst h3
          exact kbeg_pe hs hwf c cs
        · by_cases h4 : kd = 4
          · subst h4
            exact kbeg_em hs hwf c cs
          · exact kbeg_other h1 h2 h3 h4 hs hwf c cs
  stp := by
    intro s c st F w b cs hJ hs hc hdis hwf hF
    obtain ⟨⟨pc, n0, n1, n2, n3, n4, a⟩, A, A1, A2, ab⟩ := c
    have hJ : KJ kb st s.m ⟨⟨pc, n0, n1, n2, n3, n4, a⟩, A, A1, A2, ab⟩ := hJ
    have hpc := hJ.v.pc
    have hd : ¬ KR kb s ab := hdis ab rfl
    simp only [List.mem_cons, List.not_mem_nil, or_false] at hpc
    rcases hpc with rfl | rfl | rfl | rfl | rfl | rfl | rfl | rfl | rfl | rfl | rfl | rfl | rfl | rfl | rfl | rfl | rfl | rfl
    · exact ks_10 hJ hs hc hd hF b cs
    · exact ks_11 hJ hs hc hd hF b cs
    · exact ks_12 hJ hs hc hd hF b cs
    · exact ks_13 hJ hs hc hd hF b cs
    · exact ks_14 hJ hs hc hd hF b cs
    · exact ks_15 hJ hs hc hd hF b cs
    · exact ks_16 hJ hs hc hd hF b cs
    · exact ks_20 hJ hs hc hd hF b cs
    · exact ks_21 hJ hs hc hd hF b cs
    · exact ks_22 hJ hs hc hd hF b cs
    · exact ks_23 hJ hs hc hd hF b cs
    · exact ks_24 hJ hs hc hd hF b cs
    · exact ks_25 hJ hs hc hd hF b cs
    · exact ks_26 hJ hs hc hd hF b cs
    · exact ks_30 hJ hs hc hd hF b cs
    · exact ks_31 hJ hs hc hd hF b cs
    · exact ks_32 hJ hs hc hd hF b cs
    · exact ks_40 hJ hs hc hd hF b cs
end Go.Proofs.Ytlcgkpapnpdfpaa
namespace Go.Proofs.Ytlcgkpapnpdfpaa
open Go Go.Conc Go.RowKit Go.Proofs
variable {w w' : World} {kb : Nat}
def KSt.push1 (s : KSt) (v : Int) : KSt :=
  if s.fr.1 < 0 then s else
    { s with fr := (s.nxt s.fr.1, tagOf s.tg s.fr.2), vl := s.vl.set s.fr.1.toNat v, nx := s.nx.set s.fr.1.toNat s.hd.1, hd := (s.fr.1, tagOf s.tg s.hd.2) }
def KSt.pop1 (s : KSt) : KSt :=
  if s.hd.1 < 0 then s else
    { s with hd := (s.nxt s.hd.1, tagOf s.tg s.hd.2), nx := s.nx.set s.hd.1.toNat s.fr.1, fr := (s.hd.1, tagOf s.tg s.fr.2) }
structure Stepr (sv : Value) (main : Bool) (sb : Nat) (X : Nat → World → Prop) : Prop where
  tick : ∀ (m : Nat) (w : World) (c : Frame) (cs : List Frame) (Stop : Goroutine → World → Prop), X m w → m < 4611686018427387904 → (∀ w', X (m + 1) w' → w'.heap.size = w.heap.size → (∀ r, r ≠ sb → w'.heap[r]? = w.heap[r]?) → Own Try.prog main F0 Stop (G (c.finish (.tuple #[])) cs) w') →
    Own Try.prog main F0 Stop (G (Frame.enter Try.prog 79 #[sv] .normal) (c :: cs)) w
  keep : ∀ (m : Nat) (w w' : World), X m w → w'.heap[sb]? = w.heap[sb]? → X m w'
structure AlK (kb sb : Nat) (X : Nat → World → Prop) (w0 : World) (s0 s : KS) (m : Nat) (w : World) : Prop where
  u : KU kb s w
  nb : s.nb = s0.nb
  x : X m w
  sz : w.heap.size = w0.heap.size
  o : ∀ r, r ≠ sb → ¬ KR kb s0 r → w.heap[r]? = w0.heap[r]?
section
variable {sv : Value} {main : Bool} {sb m : Nat} {X : Nat → World → Prop} {w0 : World} {s0 s s' : KS}
theorem AlK.tick (h : AlK kb sb X w0 s0 s m w) (hsb : ¬ KR kb s0 sb) (hx : X (m + 1) w') (hs : w'.heap.size = w.heap.size) (ho : ∀ r, r ≠ sb → w'.heap[r]? = w.heap[r]?) : AlK kb sb X w0 s0 s (m + 1) w' :=
  ⟨h.u.same fun r hr => ho r fun e => hsb (by subst e; rcases hr with hr | hr; exact .inl hr; exact .inr (hr.trans h.nb)), h.nb, hx, hs.trans h.sz, fun r hr hk => (ho r hr).trans (h.o r hr hk)⟩
theorem AlK.set (S : Stepr sv main sb X) (h : AlK kb sb X w0 s0 s m w) (hsb : ¬ KR kb s0 sb) {ad : Addr} {v : Value} (hu : KU kb s' (w.setCell ad v)) (hn : s'.nb = s0.nb) (ha : ad.block = kb ∨ ad.block = s.nb) : AlK kb sb X w0 s0 s' m (w.setCell ad v) := by
  have hk : KR kb s0 ad.block := by
    rcases ha with h1 | h1
    · exact .inl h1
    · exact .inr (h1.trans h.nb)
  exact ⟨hu, hn, S.keep m _ _ h.x (heap_setCell_ne _ _ _ fun e => hsb (by rw [e]; exact hk)), by rw [World.size_setCell]; exact h.sz, fun r hr hkr => (heap_setCell_ne _ _ _ fun e => hkr (by rw [e]; exact hk)).trans (h.o r hr hkr)⟩
theorem notF0 (a : Addr) : ¬ held F0 a := fun h => by obtain ⟨z, hz, _⟩ := h; cases hz
theorem own_push {v : Int} (S : Stepr sv main sb X) (hU : KU kb s w) (hX : X m w) (hm : m + 7 < 4611686018427387904) (hsb : ¬ KR kb s sb) {c : Frame} {cs : List Frame} {Stop : Goroutine → World → Prop}
    (K : ∀ w', AlK kb sb X w s ⟨s.k.push1 v, s.nb⟩ (m + if s.k.fr.1 < 0 then 1 else 7) w' → Own Try.prog main F0 Stop (G (c.finish (.bool (decide (¬ s.k.fr.1 < 0)))) cs) w') :
    Own Try.prog main F0 Stop (G (Frame.enter Try.prog 45 #[.pointer (some ⟨kb, 0, none⟩), sv, .int .i64 v] .normal) (c :: cs)) w := by
  have a0 : AlK kb sb X w s s m w := ⟨hU, rfl, hX, rfl, fun _ _ _ => rfl⟩
  refine pu_0 fun A1 hA1 => tk_0 fun A hA => S.tick _ _ _ _ _ a0.x (by omega) fun w1 hx hz ho => ?_
  have a1 := a0.tick hsb hx hz ho
  clear hx hz ho
  obtain ⟨h1, h2, h3, h4⟩ := hU.wf.fr
  have hmx := hU.wf.n3
  have hmm : s.m = s.k.nx.length := rfl
  by_cases hneg : s.k.fr.1 < 0
  · refine tk_1a (hx := 1) (n := s.k.fr.1) (t := s.k.fr.2) ⟨h1, by omega⟩ ⟨h3, h4⟩ hneg a1.u.c1 hA ?_
    refine pu_1a (sv := sv) hA1 ?_
    have k := K w1 (by simp only [KSt.push1, if_pos hneg]; exact a1)
    simpa [hneg] using k
  obtain ⟨i, ei⟩ : ∃ i : Nat, s.k.fr.1 = i := ⟨s.k.fr.1.toNat, by omega⟩
  have hi : i < s.m := by omega
  refine tk_1b (hx := 1) (n := s.k.fr.1) (t := s.k.fr.2) ⟨h1, by omega⟩ ⟨h3, h4⟩ hneg a1.u.c1 hA fun A hA => S.tick _ _ _ _ _ a1.x (by omega) fun w2 hx hz ho => ?_
  have a2 := a1.tick hsb hx hz ho
  clear hx hz ho
  rw [ei] at hA
  refine tk_2 (hx := 1) (i := i) (t := s.k.fr.2) (to := s.k.nx.getD i 0) hi a2.u.c2 (a2.u.nc hi).1 hA fun A hA => S.tick _ _ _ _ _ a2.x (by omega) fun w3 hx hz ho => ?_
  have a3 := a2.tick hsb hx hz ho
  clear hx hz ho
  obtain ⟨n1, n2⟩ := hU.wf.nxt_ok i
  obtain ⟨t1, t2⟩ := tag_ok s.k.tg s.k.fr.2
  have ex : s.k.fr = ((i : Int), s.k.fr.2) := Prod.ext ei rfl
  have hcx := a3.u.c1
  rw [ex] at hcx
  refine tk_3a (hx := 1) (tg := s.k.tg) (n := (i : Nat)) (t := s.k.fr.2) (to := s.k.nx.getD i 0) (cv := pk ((i : Int), s.k.fr.2)) (by simp) a3.u.c3 ⟨by omega, by omega⟩ ⟨h3, h4⟩ ⟨n1, by omega⟩ hcx (a3.u.z 1) (notF0 _) hA ?_
  have a4 := a3.set S hsb (s' := ⟨{ s.k with fr := (s.k.nx.getD i 0, tagOf s.k.tg s.k.fr.2) }, s.nb⟩) (a3.u.setFr ⟨n1, n2, t1.1, t1.2⟩ t2) rfl (.inl rfl)
  refine pu_1b (sv := sv) (i := i) hA1 fun A1 hA1 => S.tick _ _ _ _ _ a4.x (by omega) fun w5 hx hz ho => ?_
  have a5 := a4.tick hsb hx hz ho
  clear hx hz ho
  refine pu_2 (v := v) (i := i) hi a5.u.c2 (a5.u.nc hi).2.1 ((a5.u.nc hi).2.2 _) (notF0 _) hA1 fun A1 hA1 => ?_
  have a6 := a5.set S hsb (s' := ⟨{ s.k with fr := (s.k.nx.getD i 0, tagOf s.k.tg s.k.fr.2), vl := s.k.vl.set i v }, s.nb⟩) (a5.u.setVl hi) rfl (.inr rfl)
  refine gv_0 (hx := 0) (i := i) fun A hA => S.tick _ _ _ _ _ a6.x (by omega) fun w7 hx hz ho => ?_
  have a7 := a6.tick hsb hx hz ho
  clear hx hz ho
  obtain ⟨g1, g2, g3, g4⟩ := hU.wf.hd
  refine gv_1 (hx := 0) (i := i) (n := s.k.hd.1) (t := s.k.hd.2) a7.u.c0 hA fun A hA => S.tick _ _ _ _ _ a7.x (by omega) fun w8 hx hz ho => ?_
  have a8 := a7.tick hsb hx hz ho
  clear hx hz ho
  refine gv_2 (hx := 0) (i := i) (n := s.k.hd.1) (t := s.k.hd.2) ⟨g1, by omega⟩ ⟨g3, g4⟩ hi a8.u.c2 (a8.u.nc hi).1 ((a8.u.nc hi).2.2 _) (notF0 _) hA fun A hA => ?_
  have a9 := a8.set S hsb (s' := ⟨{ s.k with fr := (s.k.nx.getD i 0, tagOf s.k.tg s.k.fr.2), vl := s.k.vl.set i v, nx := s.k.nx.set i s.k.hd.1 }, s.nb⟩) (a8.u.setNx hi ⟨g1, g2⟩) rfl (.inr rfl)
  refine S.tick _ _ _ _ _ a9.x (by omega) fun w9 hx hz ho => ?_
  have b1 := a9.tick hsb hx hz ho
  clear hx hz ho
  obtain ⟨u1, u2⟩ := tag_ok s.k.tg s.k.hd.2
  refine gv_3a (hx := 0) (tg := s.k.tg) (i := i) (n := s.k.hd.1) (t := s.k.hd.2) (cv := pk s.k.hd) (by simp) b1.u.c3 ⟨g1, by omega⟩ ⟨g3, g4⟩ ⟨by omega, by omega⟩ b1.u.c0 (b1.u.z 0) (notF0 _) hA ?_
  have hsm : ((i : Nat) : Int) < (KS.m ⟨{ s.k with fr := (s.k.nx.getD i 0, tagOf s.k.tg s.k.fr.2), vl := s.k.vl.set i v, nx := s.k.nx.set i s.k.hd.1 }, s.nb⟩ : Nat) := by simp [KS.m]; omega
  have b2 := b1.set S hsb (s' := ⟨{ s.k with fr := (s.k.nx.getD i 0, tagOf s.k.tg s.k.fr.2), vl := s.k.vl.set i v, nx := s.k.nx.set i s.k.hd.1, hd := ((i : Int), tagOf s.k.tg s.k.hd.2) }, s.nb⟩) (b1.u.setHd ⟨by omega, hsm, u1.1, u1.2⟩ u2) rfl (.inl rfl)
  refine pu_3 (sv := sv) hA1 ?_
  have k := K _ (by
    simp only [KSt.push1, if_neg hneg, KSt.nxt, ei, Int.toNat_natCast]
    exact b2)
  have hni : ¬ ((i : Nat) : Int) < 0 := by omega
  simpa [hneg, KSt.val, ei, hni] using k
theorem own_pop (S : Stepr sv main sb X) (hU : KU kb s w) (hX : X m w) (hm : m + 7 < 4611686018427387904) (hsb : ¬ KR kb s sb) {c : Frame} {cs : List Frame} {Stop : Goroutine → World → Prop}
    (K : ∀ w', AlK kb sb X w s ⟨s.k.pop1, s.nb⟩ (m + if s.k.hd.1 < 0 then 1 else 7) w' → Own Try.prog main F0 Stop (G (c.finish (.tuple #[.int .i64 (if s.k.hd.1 < 0 then 0 else s.k.val s.k.hd.1), .bool (decide (¬ s.k.hd.1 < 0))])) cs) w') :
    Own Try.prog main F0 Stop (G (Frame.enter Try.prog 43 #[.pointer (some ⟨kb, 0, none⟩), sv] .normal) (c :: cs)) w := by
  have a0 : AlK kb sb X w s s m w := ⟨hU, rfl, hX, rfl, fun _ _ _ => rfl⟩
  refine po_0 fun A1 hA1 => tk_0 fun A hA => S.tick _ _ _ _ _ a0.x (by omega) fun w1 hx hz ho => ?_
  have a1 := a0.tick hsb hx hz ho
  clear hx hz ho
  obtain ⟨h1, h2, h3, h4⟩ := hU.wf.hd
  have hmx := hU.wf.n3
  have hmm : s.m = s.k.nx.length := rfl
  by_cases hneg : s.k.hd.1 < 0
  · refine tk_1a (hx := 0) (n := s.k.hd.1) (t := s.k.hd.2) ⟨h1, by omega⟩ ⟨h3, h4⟩ hneg a1.u.c0 hA ?_
    refine po_1a (sv := sv) hA1 ?_
    have k := K w1 (by simp only [KSt.pop1, if_pos hneg]; exact a1)
    simpa [hneg] using k
  obtain ⟨i, ei⟩ : ∃ i : Nat, s.k.hd.1 = i := ⟨s.k.hd.1.toNat, by omega⟩
  have hi : i < s.m := by omega
  refine tk_1b (hx := 0) (n := s.k.hd.1) (t := s.k.hd.2) ⟨h1, by omega⟩ ⟨h3, h4⟩ hneg a1.u.c0 hA fun A hA => S.tick _ _ _ _ _ a1.x (by omega) fun w2 hx hz ho => ?_
  have a2 := a1.tick hsb hx hz ho
  clear hx hz ho
  rw [ei] at hA
  refine tk_2 (hx := 0) (i := i) (t := s.k.hd.2) (to := s.k.nx.getD i 0) hi a2.u.c2 (a2.u.nc hi).1 hA fun A hA => S.tick _ _ _ _ _ a2.x (by omega) fun w3 hx hz ho => ?_
  have a3 := a2.tick hsb hx hz ho
  clear hx hz ho
  obtain ⟨n1, n2⟩ := hU.wf.nxt_ok i
  obtain ⟨t1, t2⟩ := tag_ok s.k.tg s.k.hd.2
  have ex : s.k.hd = ((i : Int), s.k.hd.2) := Prod.ext ei rfl
  have hcx := a3.u.c0
  rw [ex] at hcx
  refine tk_3a (hx := 0) (tg := s.k.tg) (n := (i : Nat)) (t := s.k.hd.2) (to := s.k.nx.getD i 0) (cv := pk ((i : Int), s.k.hd.2)) (by simp) a3.u.c3 ⟨by omega, by omega⟩ ⟨h3, h4⟩ ⟨n1, by omega⟩ hcx (a3.u.z 0) (notF0 _) hA ?_
  have a4 := a3.set S hsb (s' := ⟨{ s.k with hd := (s.k.nx.getD i 0, tagOf s.k.tg s.k.hd.2) }, s.nb⟩) (a3.u.setHd ⟨n1, n2, t1.1, t1.2⟩ t2) rfl (.inl rfl)
  refine po_1b (sv := sv) (i := i) hA1 fun A1 hA1 => S.tick _ _ _ _ _ a4.x (by omega) fun w5 hx hz ho => ?_
  have a5 := a4.tick hsb hx hz ho
  clear hx hz ho
  refine po_2 (v := s.k.vl.getD i 0) (i := i) hi a5.u.c2 (a5.u.nc hi).2.1 hA1 fun A1 hA1 => ?_
  have a6 := a5
  refine gv_0 (hx := 1) (i := i) fun A hA => S.tick _ _ _ _ _ a6.x (by omega) fun w7 hx hz ho => ?_
  have a7 := a6.tick hsb hx hz ho
  clear hx hz ho
  obtain ⟨g1, g2, g3, g4⟩ := hU.wf.fr
  refine gv_1 (hx := 1) (i := i) (n := s.k.fr.1) (t := s.k.fr.2) a7.u.c1 hA fun A hA => S.tick _ _ _ _ _ a7.x (by omega) fun w8 hx hz ho => ?_
  have a8 := a7.tick hsb hx hz ho
  clear hx hz ho
  refine gv_2 (hx := 1) (i := i) (n := s.k.fr.1) (t := s.k.fr.2) ⟨g1, by omega⟩ ⟨g3, g4⟩ hi a8.u.c2 (a8.u.nc hi).1 ((a8.u.nc hi).2.2 _) (notF0 _) hA fun A hA => ?_
  have a9 := a8.set S hsb (s' := ⟨{ s.k with hd := (s.k.nx.getD i 0, tagOf s.k.tg s.k.hd.2), nx := s.k.nx.set i s.k.fr.1 }, s.nb⟩) (a8.u.setNx hi ⟨g1, g2⟩) rfl (.inr rfl)
  refine S.tick _ _ _ _ _ a9.x (by omega) fun w9 hx hz ho => ?_
  have b1 := a9.tick hsb hx hz ho
  clear hx hz ho
  obtain ⟨u1, u2⟩ := tag_ok s.k.tg s.k.fr.2
  refine gv_3a (hx := 1) (tg := s.k.tg) (i := i) (n := s.k.fr.1) (t := s.k.fr.2) (cv := pk s.k.fr) (by simp) b1.u.c3 ⟨g1, by omega⟩ ⟨g3, g4⟩ ⟨by omega, by omega⟩ b1.u.c1 (b1.u.z 1) (notF0 _) hA ?_
  have hsm : ((i : Nat) : Int) < (KS.m ⟨{ s.k with hd := (s.k.nx.getD i 0, tagOf s.k.tg s.k.hd.2), nx := s.k.nx.set i s.k.fr.1 }, s.nb⟩ : Nat) := by simp [KS.m]; omega
  have b2 := b1.set S hsb (s' := ⟨{ s.k with hd := (s.k.nx.getD i 0, tagOf s.k.tg s.k.hd.2), nx := s.k.nx.set i s.k.fr.1, fr := ((i : Int), tagOf s.k.tg s.k.fr.2) }, s.nb⟩) (b1.u.setFr ⟨by omega, hsm, u1.1, u1.2⟩ u2) rfl (.inl rfl)
  refine po_3 (sv := sv) hA1 ?_
  have k := K _ (by
    simp only [KSt.pop1, if_neg hneg, KSt.nxt, ei, Int.toNat_natCast]
    exact b2)
  have hni : ¬ ((i : Nat) : Int) < 0 := by omega
  simpa [hneg, KSt.val, ei, hni] using k
theorem own_peek (S : Stepr sv main sb X) (hU : KU kb s w) (hX : X m w) (hm : m + 7 < 4611686018427387904) (hsb : ¬ KR kb s sb) {c : Frame} {cs : List Frame} {Stop : Goroutine → World → Prop}
    (K : ∀ w', AlK kb sb X w s s (m + if s.k.hd.1 < 0 then 1 else 3) w' → Own Try.prog main F0 Stop (G (c.finish (.tuple #[.int .i64 (if s.k.hd.1 < 0 then 0 else s.k.val s.k.hd.1), .bool (decide (¬ s.k.hd.1 < 0))])) cs) w') :
    Own Try.prog main F0 Stop (G (Frame.enter Try.prog 44 #[.pointer (some ⟨kb, 0, none⟩), sv] .normal) (c :: cs)) w := by
  have a0 : AlK kb sb X w s s m w := ⟨hU, rfl, hX, rfl, fun _ _ _ => rfl⟩
  refine pk_0 fun A hA => S.tick _ _ _ _ _ a0.x (by omega) fun w1 hx hz ho => ?_
  have a1 := a0.tick hsb hx hz ho
  clear hx hz ho
  obtain ⟨h1, h2, h3, h4⟩ := hU.wf.hd
  have hmx := hU.wf.n3
  have hmm : s.m = s.k.nx.length := rfl
  by_cases hneg : s.k.hd.1 < 0
  · refine pk_1a (n := s.k.hd.1) (t := s.k.hd.2) ⟨h1, by omega⟩ ⟨h3, h4⟩ hneg a1.u.c0 hA ?_
    have k := K w1 (by simp only [if_pos hneg]; exact a1)
    simpa [hneg] using k
  obtain ⟨i, ei⟩ : ∃ i : Nat, s.k.hd.1 = i := ⟨s.k.hd.1.toNat, by omega⟩
  have hi : i < s.m := by omega
  have ex : s.k.hd = ((i : Int), s.k.hd.2) := Prod.ext ei rfl
  have hc1 := a1.u.c0
  rw [ex] at hc1
  refine pk_1b (i := i) (t := s.k.hd.2) ⟨by omega, by omega⟩ ⟨h3, h4⟩ hc1 hA fun A hA => S.tick _ _ _ _ _ a1.x (by omega) fun w2 hx hz ho => ?_
  have a2 := a1.tick hsb hx hz ho
  clear hx hz ho
  refine pk_2 (i := i) (t := s.k.hd.2) (v0 := s.k.vl.getD i 0) ⟨by omega, by omega⟩ ⟨h3, h4⟩ hi a2.u.c2 (a2.u.nc hi).2.1 hA fun A hA => S.tick _ _ _ _ _ a2.x (by omega) fun w3 hx hz ho => ?_
  have a3 := a2.tick hsb hx hz ho
  clear hx hz ho
  have hc3 := a3.u.c0
  rw [ex] at hc3
  refine pk_3a (i := i) (t := s.k.hd.2) (v := s.k.vl.getD i 0) (n := (i : Nat)) (u := s.k.hd.2) (by simp) hc3 hA ?_
  have k := K _ (by simp only [if_neg hneg]; exact a3)
  have hni : ¬ ((i : Nat) : Int) < 0 := by omega
  simpa [hneg, KSt.val, ei, hni] using k
theorem own_empty (S : Stepr sv main sb X) (hU : KU kb s w) (hX : X m w) (hm : m + 7 < 4611686018427387904) (hsb : ¬ KR kb s sb) {c : Frame} {cs : List Frame} {Stop : Goroutine → World → Prop}
    (K : ∀ w', AlK kb sb X w s s (m + 1) w' → Own Try.prog main F0 Stop (G (c.finish (.bool (decide (s.k.hd.1 < 0)))) cs) w') :
    Own Try.prog main F0 Stop (G (Frame.enter Try.prog 46 #[.pointer (some ⟨kb, 0, none⟩), sv] .normal) (c :: cs)) w := by
  have a0 : AlK kb sb X w s s m w := ⟨hU, rfl, hX, rfl, fun _ _ _ => rfl⟩
  refine em_0 fun A hA => S.tick _ _ _ _ _ a0.x (by omega) fun w1 hx hz ho => ?_
  have a1 := a0.tick hsb hx hz ho
  clear hx hz ho
  obtain ⟨h1, h2, h3, h4⟩ := hU.wf.hd
  have hmx := hU.wf.n3
  exact em_1 (n := s.k.hd.1) (t := s.k.hd.2) ⟨h1, by omega⟩ ⟨h3, h4⟩ a1.u.c0 hA (K _ a1)
end
end Go.Proofs.Ytlcgkpapnpdfpaa
namespace Go.Proofs.Ytlcgkpapnpdfpaa
open Go Go.Conc Go.RowKit Go.Proofs
variable {F : Fz} {w : World}
@[go_sem] theorem neq_nn (w : World) : (binOp .neq 105 .nilIface .nilIface).run Try.prog w = .ok (.bool false) w := by kernel_rfl
@[go_sem] theorem neq_nnE (w : World) (es : Array Event) : (binOp .neq 105 .nilIface .nilIface).events Try.prog w es = es := by kernel_rfl
set_option maxRecDepth 100000 in
theorem own_step_nil {c : Frame} {cs : List Frame} {main : Bool} {Stop : Goroutine → World → Prop} (h : Own Try.prog main F Stop (G (c.finish (.tuple #[])) cs) w) :
    Own Try.prog main F Stop (G (Frame.enter Try.prog 79 #[.nilIface] .normal) (c :: cs)) w := by
  rw [enter_qst]
  walk_nrm
  rw [qsts0_eq]
  refine ogS ?_
  rw [qstr0_eq]
  refine ogR ?_
  simp only [qsto0, Code.opsOf, qstr0, Code.piece, qstBody, Try.f79, Option.getD_some, List.size_toArray, List.length_cons, List.length_nil, Nat.reduceAdd, Nat.zero_add, List.range, List.range.loop]
  (refine oW fun dd K hK => ?_; go_simp; refine qT hK ?_; clear hK K)
  (refine oW fun dd K hK => ?_; go_simp; refine qT hK ?_; clear hK K)
  refine ogE ?_
  rw [qstc3_eq]
  refine ogF ?_
  simp only [Bool.false_eq_true, if_false]
  refine ogK ?_
  refine own_go rfl (fun d => stepG_end) ?_
  refine own_go rfl (fun d => stepG_leave (fn := Try.f79) (v := .tuple #[]) rfl rfl Try.func79 (by simp [results, Try.f79]) (by simp [results, Try.f79, go_sem])) ?_
  exact h
theorem nilS (main : Bool) (sb : Nat) : Stepr .nilIface main sb fun _ _ => True :=
  ⟨fun m w c cs Stop _ _ K => own_step_nil (K w trivial rfl fun _ _ => rfl), fun _ _ _ _ _ => trivial⟩
noncomputable def kstBody : Code := Try.f131.body.getD .skip
noncomputable def kstr0 : Code := Code.piece [] kstBody
noncomputable def ksto0 : Array Oper := Code.opsOf kstr0
theorem kstr0_eq : kstr0 = .region 0 ksto0 false := by kernel_rfl
theorem enter_kst (args : Array Value) : Frame.enter Try.prog 131 args .normal = (Go.Conc.base 131).at { tmps := args ++ Array.replicate (9 - args.size) undef, defers := [] } [.code kstr0] := enter_at args Try.func131 rfl
theorem callable131 : Callable 131 := callable Try.func131 rfl rfl
def kstT (s : Nat → Value) : Array Value := #[s 0, s 1, s 2, s 3, s 4, s 5, s 6, s 7, s 8]
theorem kstT_of {A : Array Value} (h : A.size = 9) : ∃ s, A = kstT s := by
  obtain ⟨s, hs, _⟩ := arr_lit A h
  exact ⟨s, hs⟩
theorem cell_at {a : Addr} {v : Option Value} (h : w.cell? a = v) (d : Nat) : (w.at d).cell? a = v := h
theorem froz_at {a : Addr} {v : Bool} (h : w.frozen? a = v) (d : Nat) : (w.at d).frozen? a = v := h
theorem call_kt (a : Addr) (w : World) : (callMethod (.iface 76 (.pointer (some a))) "Step" #[]).run Try.prog w = .ok (.enter 131 #[.pointer (some a)]) w := by kernel_rfl
theorem call_ktE (a : Addr) (w : World) (es : Array Event) : (callMethod (.iface 76 (.pointer (some a))) "Step" #[]).events Try.prog w es = es := by kernel_rfl
def kcK : StK := ⟨76, 131, callable131, call_kt, call_ktE⟩
set_option maxRecDepth 100000 in
theorem own_tick {sb : Nat} {m : Nat} (hm : m < 4611686018427387904) (hc : w.cell? ⟨sb, 0, none⟩ = some (.int .i64 m)) (hz : w.frozen? ⟨sb, 0, none⟩ = false) (hnh : ¬ held F ⟨sb, 0, none⟩) {c : Frame} {cs : List Frame} {main : Bool} {Stop : Goroutine → World → Prop} (h : Own Try.prog main F Stop (G (c.finish (.tuple #[])) cs) (w.setCell ⟨sb, 0, none⟩ (.int .i64 (m + 1 : Nat)))) :
    Own Try.prog main F Stop (G (Frame.enter Try.prog 131 #[.pointer (some ⟨sb, 0, none⟩)] .normal) (c :: cs)) w := by
  have hw : IntKind.i64.wrap ((m : Int) + 1) = ((m + 1 : Nat) : Int) := by rw [IntWalk.i64_in _ (by omega)]; simp
  rw [enter_kst]
  walk_nrm
  rw [kstr0_eq]
  refine ogR ?_
  simp only [ksto0, Code.opsOf, kstr0, Code.piece, kstBody, Try.f131, Option.getD_some, List.size_toArray, List.length_cons, List.length_nil, Nat.reduceAdd, Nat.zero_add, List.range, List.range.loop]
  (refine oW fun dd K hK => ?_; go_simp; refine qT hK ?_; clear hK K)
  (refine oW fun dd K hK => ?_; go_simp; refine qT hK ?_; clear hK K)
  (refine oW fun dd K hK => ?_; go_simp; refine qT hK ?_; clear hK K)
  (refine oW fun dd K hK => ?_; go_simp; refine qL hK ?_; clear hK K)
  (refine oW fun dd K hK => ?_; go_simp; refine qT hK ?_; clear hK K)
  (refine oW fun dd K hK => ?_; go_simp; refine qT hK ?_; clear hK K)
  (refine oW fun dd K hK => ?_; go_simp; refine qT hK ?_; clear hK K)
  (refine oW fun dd K hK => ?_; have hc0 := (cell_at (w := w) hc dd); have hz0 := (froz_at (w := w) hz dd); go_simp; refine hK _ _ ⟨⟨⟨0, grew_setCell rfl hnh _⟩, fun e he => by (have hm := mem_listed he; clear he hK; simp [go_sem, storedEv, hc0, hz0] at hm; subst hm; exact evT_write _ _ hnh)⟩, ?_⟩; clear hK K hc0 hz0; rw [setCell_at']; refine Own.at ?_ dd)
  refine ogE ?_
  refine own_go rfl (fun d => stepG_end) ?_
  refine own_go rfl (fun d => stepG_leave (fn := Try.f131) (v := .tuple #[]) rfl rfl Try.func131 (by simp [results, Try.f131]) (by simp [results, Try.f131, go_sem])) ?_
  exact h
def CntAt (sb m : Nat) (w : World) : Prop := w.heap[sb]? = some (.cells #[.int .i64 m] 78 (0, 0))
theorem cntS (main : Bool) (sb : Nat) : Stepr (.iface 76 (.pointer (some ⟨sb, 0, none⟩))) main sb (CntAt sb) :=
  ⟨fun m w c cs Stop hx hm K => own_step_call (K := kcK) (own_tick hm (by simp [World.cell?, show w.heap[sb]? = _ from hx]) (by simp [World.frozen?, show w.heap[sb]? = _ from hx]) (notF0 _) (own_step_back (K := kcK) (K _ (by
      have hx : w.heap[sb]? = _ := hx
      show (w.setCell ⟨sb, 0, none⟩ _).heap[sb]? = _
      rw [heap_setCell_eq hx]; rfl) (World.size_setCell _ _ _) fun r hr => heap_setCell_ne _ _ _ hr))), fun m w w' hx he => by
    show w'.heap[sb]? = _
    rw [he]; exact hx⟩
noncomputable def kszBody : Code := Try.f40.body.getD .skip
noncomputable def kszs0 : Code := Code.piece [] kszBody
noncomputable def kszr0 : Code := Code.piece [true] kszBody
noncomputable def kszo0 : Array Oper := Code.opsOf kszr0
noncomputable def kszs1 : Code := Code.piece [false] kszBody
noncomputable def kszs2 : Code := Code.piece [false, true] kszBody
noncomputable def kszr1 : Code := Code.piece [false, true, true] kszBody
noncomputable def kszo1 : Array Oper := Code.opsOf kszr1
noncomputable def kszc4 : Code := Code.piece [false, true, false] kszBody
noncomputable def kszs3 : Code := Code.piece [false, true, false, true] kszBody
noncomputable def kszr2 : Code := Code.piece [false, true, false, true, true] kszBody
noncomputable def kszo2 : Array Oper := Code.opsOf kszr2
noncomputable def kszs4 : Code := Code.piece [false, false] kszBody
noncomputable def kszr3 : Code := Code.piece [false, false, true] kszBody
noncomputable def kszo3 : Array Oper := Code.opsOf kszr3
theorem kszs0_eq : kszs0 = .seq kszr0 kszs1 := by kernel_rfl
theorem kszr0_eq : kszr0 = .region 0 kszo0 false := by kernel_rfl
theorem kszs1_eq : kszs1 = .seq kszs2 kszs4 := by kernel_rfl
theorem kszs2_eq : kszs2 = .seq kszr1 kszc4 := by kernel_rfl
theorem kszr1_eq : kszr1 = .region 1 kszo1 false := by kernel_rfl
theorem kszc4_eq : kszc4 = .cond (.tmp 4) kszs3 .skip := by kernel_rfl
theorem kszs3_eq : kszs3 = .seq kszr2 .ret := by kernel_rfl
theorem kszr2_eq : kszr2 = .region 2 kszo2 false := by kernel_rfl
theorem kszs4_eq : kszs4 = .seq kszr3 .ret := by kernel_rfl
theorem kszr3_eq : kszr3 = .region 3 kszo3 false := by kernel_rfl
theorem enter_ksz (args : Array Value) : Frame.enter Try.prog 40 args .normal = (Go.Conc.base 40).at { tmps := args ++ Array.replicate (10 - args.size) undef, defers := [] } [.code kszs0] := enter_at args Try.func40 rfl
theorem callable40 : Callable 40 := callable Try.func40 rfl rfl
def kszT (s : Nat → Value) : Array Value := #[s 0, s 1, s 2, s 3, s 4, s 5, s 6, s 7, s 8, s 9]
theorem kszT_of {A : Array Value} (h : A.size = 10) : ∃ s, A = kszT s := by
  obtain ⟨s, hs, _⟩ := arr_lit A h
  exact ⟨s, hs⟩
set_option maxRecDepth 100000 in
theorem own_size {kb : Nat} {s : KS} (hU : KU kb s w) {v : Int} (hv : ((s.m : Nat) : Int) = v) {c : Frame} {cs : List Frame} {main : Bool} {Stop : Goroutine → World → Prop} (h : Own Try.prog main F Stop (G (c.finish (.int .i64 v)) cs) w) :
    Own Try.prog main F Stop (G (Frame.enter Try.prog 40 #[.pointer (some ⟨kb, 0, none⟩)] .normal) (c :: cs)) w := by
  have c2 := hU.c2.c2
  clear hU
  subst hv
  rw [enter_ksz]
  walk_nrm
  rw [kszs0_eq]
  refine ogS ?_
  rw [kszr0_eq]
  refine ogR ?_
  simp only [kszo0, Code.opsOf, kszr0, Code.piece, kszBody, Try.f40, Option.getD_some, List.size_toArray, List.length_cons, List.length_nil, Nat.reduceAdd, Nat.zero_add, List.range, List.range.loop]
  (refine oW fun dd K hK => ?_; go_simp; refine qT hK ?_; clear hK K)
  refine ogE ?_
  rw [kszs1_eq]
  refine ogS ?_
  rw [kszs2_eq]
  refine ogS ?_
  rw [kszr1_eq]
  refine ogR ?_
  simp only [kszo1, Code.opsOf, kszr1, Code.piece, kszBody, Try.f40, Option.getD_some, List.size_toArray, List.length_cons, List.length_nil, Nat.reduceAdd, Nat.zero_add, List.range, List.range.loop]
  (refine oW fun dd K hK => ?_; go_simp; refine qT hK ?_; clear hK K)
  (refine oW fun dd K hK => ?_; go_simp; refine qT hK ?_; clear hK K)
  refine ogE ?_
  rw [kszc4_eq]
  refine ogF ?_
  simp only [Bool.false_eq_true, if_false]
  refine ogK ?_
  rw [kszs4_eq]
  refine ogS ?_
  rw [kszr3_eq]
  refine ogR ?_
  simp only [kszo3, Code.opsOf, kszr3, Code.piece, kszBody, Try.f40, Option.getD_some, List.size_toArray, List.length_cons, List.length_nil, Nat.reduceAdd, Nat.zero_add, List.range, List.range.loop]
  (refine oW fun dd K hK => ?_; go_simp; refine qT hK ?_; clear hK K)
  (refine oW fun dd K hK => ?_; go_simp; refine qT hK ?_; clear hK K)
  (refine oW fun dd K hK => ?_; go_simp; refine qT hK ?_; clear hK K)
  (refine oW fun dd K hK => ?_; go_simp; refine qL hK ?_; clear hK K)
  (refine oW fun dd K hK => ?_; go_simp; refine qT hK ?_; clear hK K)
  (refine oW fun dd K hK => ?_; go_simp; refine qT hK ?_; clear hK K)
  refine ogE ?_
  refine ogX ?_
  refine own_go rfl (fun d => stepG_leave (fn := Try.f40) (v := .int .i64 (s.m : Nat)) rfl rfl Try.func40 (by simp [results, Try.f40]) (by simp [results, Try.f40, go_sem])) ?_
  exact h
end Go.Proofs.Ytlcgkpapnpdfpaa
namespace Go.Proofs.Ytlcgkpapnpdfpaa
open Go Go.Conc Go.RowKit Go.Proofs
variable {F : Fz} {w : World}
noncomputable def diBody : Code := Try.f81.body.getD .skip
noncomputable def dis0 : Code := Code.piece [] diBody
noncomputable def dir0 : Code := Code.piece [true] diBody
noncomputable def dio0 : Array Oper := Code.opsOf dir0
noncomputable def dis1 : Code := Code.piece [false] diBody
noncomputable def dir1 : Code := Code.piece [false, true] diBody
noncomputable def dio1 : Array Oper := Code.opsOf dir1
noncomputable def dis2 : Code := Code.piece [false, false] diBody
noncomputable def dir2 : Code := Code.piece [false, false, true] diBody
noncomputable def dio2 : Array Oper := Code.opsOf dir2
noncomputable def dis3 : Code := Code.piece [false, false, false] diBody
noncomputable def dir3 : Code := Code.piece [false, false, false, true] diBody
noncomputable def dio3 : Array Oper := Code.opsOf dir3
noncomputable def dis4 : Code := Code.piece [false, false, false, false] diBody
noncomputable def dis5 : Code := Code.piece [false, false, false, false, true] diBody
noncomputable def dir4 : Code := Code.piece [false, false, false, false, true, true] diBody
noncomputable def dio4 : Array Oper := Code.opsOf dir4
noncomputable def dib0 : Code := Code.piece [false, false, false, false, true, false] diBody
noncomputable def dil6 : Code := Code.piece [false, false, false, false, true, false, true] diBody
noncomputable def dis7 : Code := Code.piece [false, false, false, false, true, false, true, true] diBody
noncomputable def dir5 : Code := Code.piece [false, false, false, false, true, false, true, true, true] diBody
noncomputable def dio5 : Array Oper := Code.opsOf dir5
noncomputable def dis8 : Code := Code.piece [false, false, false, false, true, false, true, true, false] diBody
noncomputable def dic18 : Code := Code.piece [false, false, false, false, true, false, true, true, false, true] diBody
noncomputable def dis9 : Code := Code.piece [false, false, false, false, true, false, true, true, false, false] diBody
noncomputable def dib1 : Code := Code.piece [false, false, false, false, true, false, true, true, false, false, true] diBody
noncomputable def dis10 : Code := Code.piece [false, false, false, false, true, false, true, true, false, false, true, true] diBody
noncomputable def dir6 : Code := Code.piece [false, false, false, false, true, false, true, true, false, false, true, true, true] diBody
noncomputable def dio6 : Array Oper := Code.opsOf dir6
noncomputable def dis11 : Code := Code.piece [false, false, false, false, true, false, true, true, false, false, true, true, false] diBody
noncomputable def dir7 : Code := Code.piece [false, false, false, false, true, false, true, true, false, false, true, true, false, true] diBody
noncomputable def dio7 : Array Oper := Code.opsOf dir7
noncomputable def dir8 : Code := Code.piece [false, false, false, false, true, false, true, true, false, false, true, true, false, false] diBody
noncomputable def dio8 : Array Oper := Code.opsOf dir8
noncomputable def dir9 : Code := Code.piece [false, false, false, false, true, false, true, true, false, false, false] diBody
noncomputable def dio9 : Array Oper := Code.opsOf dir9
noncomputable def dis12 : Code := Code.piece [false, false, false, false, false] diBody
noncomputable def dir10 : Code := Code.piece [false, false, false, false, false, true] diBody
noncomputable def dio10 : Array Oper := Code.opsOf dir10
theorem dis0_eq : dis0 = .seq dir0 dis1 := by kernel_rfl
theorem dir0_eq : dir0 = .region 0 dio0 false := by kernel_rfl
theorem dis1_eq : dis1 = .seq dir1 dis2 := by kernel_rfl
theorem dir1_eq : dir1 = .region 1 dio1 false := by kernel_rfl
theorem dis2_eq : dis2 = .seq dir2 dis3 := by kernel_rfl
theorem dir2_eq : dir2 = .region 2 dio2 false := by kernel_rfl
theorem dis3_eq : dis3 = .seq dir3 dis4 := by kernel_rfl
theorem dir3_eq : dir3 = .region 3 dio3 false := by kernel_rfl
theorem dis4_eq : dis4 = .seq dis5 dis12 := by kernel_rfl
theorem dis5_eq : dis5 = .seq dir4 dib0 := by kernel_rfl
theorem dir4_eq : dir4 = .region 4 dio4 false := by kernel_rfl
theorem dib0_eq : dib0 = .block 0 dil6 := by kernel_rfl
theorem dil6_eq : dil6 = .loop dis7 := by kernel_rfl
theorem dis7_eq : dis7 = .seq dir5 dis8 := by kernel_rfl
theorem dir5_eq : dir5 = .region 5 dio5 false := by kernel_rfl
theorem dis8_eq : dis8 = .seq dic18 dis9 := by kernel_rfl
theorem dic18_eq : dic18 = .cond (.tmp 18) .skip (.exit 0) := by kernel_rfl
theorem dis9_eq : dis9 = .seq dib1 dir9 := by kernel_rfl
theorem dib1_eq : dib1 = .block 1 dis10 := by kernel_rfl
theorem dis10_eq : dis10 = .seq dir6 dis11 := by kernel_rfl
theorem dir6_eq : dir6 = .region 6 dio6 false := by kernel_rfl
theorem dis11_eq : dis11 = .seq dir7 dir8 := by kernel_rfl
theorem dir7_eq : dir7 = .region 7 dio7 true := by kernel_rfl
theorem dir8_eq : dir8 = .region 8 dio8 false := by kernel_rfl
theorem dir9_eq : dir9 = .region 9 dio9 false := by kernel_rfl
theorem dis12_eq : dis12 = .seq dir10 .ret := by kernel_rfl
theorem dir10_eq : dir10 = .region 10 dio10 true := by kernel_rfl
theorem enter_di (args : Array Value) : Frame.enter Try.prog 81 args .normal = (Go.Conc.base 81).at { tmps := args ++ Array.replicate (38 - args.size) undef, defers := [] } [.code dis0] := enter_at args Try.func81 rfl
theorem callable81 : Callable 81 := callable Try.func81 rfl rfl
def diT (s : Nat → Value) : Array Value := #[s 0, s 1, s 2, s 3, s 4, s 5, s 6, s 7, s 8, s 9, s 10, s 11, s 12, s 13, s 14, s 15, s 16, s 17, s 18, s 19, s 20, s 21, s 22, s 23, s 24, s 25, s 26, s 27, s 28, s 29, s 30, s 31, s 32, s 33, s 34, s 35, s 36, s 37]
theorem diT_of {A : Array Value} (h : A.size = 38) : ∃ s, A = diT s := by
  obtain ⟨s, hs, _⟩ := arr_lit A h
  exact ⟨s, hs⟩
theorem info42 : ∃ i, Try.prog.info? 42 = some i ∧ i.zero = some (.slice none 0 0) ∧ i.size = 1 ∧ i.bytes = 24 := by
  have h : (Try.prog.info? 42).map (fun i => (i.size, i.bytes)) = some (1, 24) := by kernel_rfl
  have h0 : (Try.prog.info? 42).bind (·.zero) = some (.slice none 0 0) := by kernel_rfl
  obtain ⟨i, hi, h1⟩ := Option.map_eq_some_iff.1 h
  rw [hi] at h0
  simp only [Prod.mk.injEq] at h1
  exact ⟨i, hi, h0, h1.1, h1.2⟩
section
variable {n : Nat} {es : Array Event}
@[go_sem] theorem mkSlice29 (h : n ≤ 64) : (Instr.makeSlice 29 (.int .i64 n) (.int .i64 n)).run Try.prog w = .ok (.slice (some ⟨w.heap.size, 0, none⟩) n n) (w.alloc (.cells (madeCells #[.slice none 0 0] n) 42)) := by
  obtain ⟨i, hi, hz, hs, hb⟩ := info42
  have := run_make (P := Try.prog) w 29 42 i (.slice none 0 0) Try.underlying29 hi hz .i64 .i64 n n (by omega) (by omega) (by rw [hb]; omega) (by omega)
  rw [hs] at this
  simpa [Value.cells] using this
@[go_sem] theorem mkSlice29e (h : n ≤ 64) : (Instr.makeSlice 29 (.int .i64 n) (.int .i64 n)).events Try.prog w es = es := by
  obtain ⟨i, hi, hz, hs, hb⟩ := info42
  exact events_make (P := Try.prog) w 29 42 i (.slice none 0 0) Try.underlying29 hi hz .i64 .i64 n n (by omega) (by omega) (by rw [hb]; omega) (by omega) (by rw [hb]; omega) es
end
theorem set_new27 (X : World) (u v : Value) : (X.alloc (.cells #[u] 29)).setCell ⟨X.heap.size, 0, none⟩ v = X.alloc (.cells #[v] 29) := by go_simp
set_option maxRecDepth 100000 in
set_option maxHeartbeats 2000000 in
theorem di_0 {nn : Nat} (hU : Under F nn) (hn : nn ≤ w.heap.size) {ta : Option Addr} {tl tc n df : Nat} {first capt : Array Value} (hn1 : min tl 64 = n) {cs : List Frame} {main : Bool} {Stop : Goroutine → World → Prop}
    (h : ∀ A, Slots 38 A [(0, .slice ta tl tc), (3, .pointer (some ⟨w.heap.size, 0, none⟩)), (6, .int .i64 n)] → Own Try.prog main F Stop (G ((Go.Conc.base 81).at ⟨A, []⟩ [.code dis2]) cs) (w.alloc (.cells #[.func (.func df) first capt] 98))) :
    Own Try.prog main F Stop (G (Frame.enter Try.prog 81 #[.slice ta tl tc, .func (.func df) first capt] .normal) cs) w := by
  have hn2 : (if (64 : Int) < (tl : Int) then (64 : Int) else tl) = (n : Int) := by split <;> omega
  rw [enter_di]
  walk_nrm
  rw [dis0_eq]
  refine ogS ?_
  rw [dir0_eq]
  refine ogR ?_
  simp only [dio0, Code.opsOf, dir0, Code.piece, diBody, Try.f81, Option.getD_some, List.size_toArray, List.length_cons, List.length_nil, Nat.reduceAdd, Nat.zero_add, List.range, List.range.loop]
  (refine oW fun dd K hK => ?_; go_simp; refine qA hK hU ?_; clear hK K)
  (refine oW fun dd K hK => ?_; go_simp; refine qT hK ?_; clear hK K)
  (refine oW fun dd K hK => ?_; go_simp; refine qT hK ?_; clear hK K)
  refine ogE ?_
  rw [dis1_eq]
  refine ogS ?_
  rw [dir1_eq]
  refine ogR ?_
  simp only [dio1, Code.opsOf, dir1, Code.piece, diBody, Try.f81, Option.getD_some, List.size_toArray, List.length_cons, List.length_nil, Nat.reduceAdd, Nat.zero_add, List.range, List.range.loop]
  (refine oW fun dd K hK => ?_; go_simp; refine qT hK ?_; clear hK K)
  (refine oW fun dd K hK => ?_; go_simp; refine qT hK ?_; clear hK K)
  (refine oW fun dd K hK => ?_; go_simp; refine qT hK ?_; clear hK K)
  (refine oW fun dd K hK => ?_; go_simp; refine qT hK ?_; clear hK K)
  refine ogE ?_
  refine h _ ?_
  exact ⟨rfl, rfl, rfl, rfl, trivial⟩
set_option maxRecDepth 100000 in
set_option maxHeartbeats 2000000 in
theorem di_1 {nn : Nat} (hU : Under F nn) (hn : nn ≤ w.heap.size) {ta : Option Addr} {tl tc n db : Nat} (hn64 : n ≤ 64) {A : Array Value} (hA : Slots 38 A [(0, .slice ta tl tc), (3, .pointer (some ⟨db, 0, none⟩)), (6, .int .i64 n)]) {cs : List Frame} {main : Bool} {Stop : Goroutine → World → Prop}
    (h : ∀ A, Slots 38 A [(0, .slice ta tl tc), (3, .pointer (some ⟨db, 0, none⟩)), (6, .int .i64 n), (7, .pointer (some ⟨w.heap.size + 1, 0, none⟩)), (8, .slice none 0 0), (16, .int .i64 n), (17, .int .i64 (0 : Nat))] → Own Try.prog main F Stop (G ((Go.Conc.base 81).at ⟨A, []⟩ [.code dis7, .inLoop dis7, .inBlock 0, .code dis12]) cs) ((w.alloc (.cells (madeCells #[.slice none 0 0] n) 42)).alloc (.cells #[.slice (some ⟨w.heap.size, 0, none⟩) n n] 29))) :
    Own Try.prog main F Stop (G ((Go.Conc.base 81).at ⟨A, []⟩ [.code dis2]) cs) w := by
  obtain ⟨hsz, h0, h3, h6, _⟩ := hA
  obtain ⟨s, rfl⟩ := diT_of hsz
  change s 0 = _ at h0
  change s 3 = _ at h3
  change s 6 = _ at h6
  clear hsz
  simp only [diT, h0, h3, h6]
  clear h0 h3 h6
  rw [dis2_eq]
  refine ogS ?_
  rw [dir2_eq]
  refine ogR ?_
  simp only [dio2, Code.opsOf, dir2, Code.piece, diBody, Try.f81, Option.getD_some, List.size_toArray, List.length_cons, List.length_nil, Nat.reduceAdd, Nat.zero_add, List.range, List.range.loop]
  (refine oW fun dd K hK => ?_; go_simp; refine qT hK ?_; clear hK K)
  (refine oW fun dd K hK => ?_; go_simp; refine hK _ _ ⟨⟨⟨0, grew_alloc hU (by first | (simp [go_sem]; done) | (simp [go_sem]; omega)) _⟩, fun e he => by (have hm := mem_listed he; clear he hK; simp [go_sem, storedEv, mkSlice29e hn64] at hm)⟩, ?_⟩; clear hK K; rw [alloc_at']; refine Own.at ?_ dd)
  (refine oW fun dd K hK => ?_; go_simp; refine qA hK hU ?_; clear hK K)
  (refine oW fun dd K hK => ?_; go_simp; refine qS hK hU ?_; clear hK K)
  have e1 := set_new27 (w.alloc (.cells (madeCells #[.slice none 0 0] n) 42)) (.slice none 0 0) (.slice (some ⟨w.heap.size, 0, none⟩) n n)
  simp only [World.size_alloc] at e1
  rw [e1]
  clear e1
  refine ogE ?_
  rw [dis3_eq]
  refine ogS ?_
  rw [dir3_eq]
  refine ogR ?_
  simp only [dio3, Code.opsOf, dir3, Code.piece, diBody, Try.f81, Option.getD_some, List.size_toArray, List.length_cons, List.length_nil, Nat.reduceAdd, Nat.zero_add, List.range, List.range.loop]
  (refine oW fun dd K hK => ?_; go_simp; refine qT hK ?_; clear hK K)
  refine ogE ?_
  rw [dis4_eq]
  refine ogS ?_
  rw [dis5_eq]
  refine ogS ?_
  rw [dir4_eq]
  refine ogR ?_
  simp only [dio4, Code.opsOf, dir4, Code.piece, diBody, Try.f81, Option.getD_some, List.size_toArray, List.length_cons, List.length_nil, Nat.reduceAdd, Nat.zero_add, List.range, List.range.loop]
  (refine oW fun dd K hK => ?_; go_simp; refine qT hK ?_; clear hK K)
  (refine oW fun dd K hK => ?_; go_simp; refine qT hK ?_; clear hK K)
  refine ogE ?_
  rw [dib0_eq]
  refine ogB ?_
  rw [dil6_eq]
  refine ogP ?_
  refine h _ ?_
  exact ⟨rfl, rfl, rfl, rfl, rfl, rfl, rfl, rfl, trivial⟩
set_option maxRecDepth 100000 in
set_option maxHeartbeats 2000000 in
theorem di_5 {ta : Option Addr} {tl tc n db av : Nat} {l : Value} {A : Array Value} (hA : Slots 38 A [(0, .slice ta tl tc), (3, .pointer (some ⟨db, 0, none⟩)), (6, .int .i64 n), (7, .pointer (some ⟨av, 0, none⟩)), (8, l), (16, .int .i64 n), (17, .int .i64 n)]) {cs : List Frame} {main : Bool} {Stop : Goroutine → World → Prop}
    (h : ∀ A, Slots 38 A [(0, .slice ta tl tc), (3, .pointer (some ⟨db, 0, none⟩)), (6, .int .i64 n), (7, .pointer (some ⟨av, 0, none⟩)), (8, l), (16, .int .i64 n), (17, .int .i64 n)] → Own Try.prog main F Stop (G ((Go.Conc.base 81).at ⟨A, []⟩ [.code dir10, .code .ret]) cs) w) :
    Own Try.prog main F Stop (G ((Go.Conc.base 81).at ⟨A, []⟩ [.code dis7, .inLoop dis7, .inBlock 0, .code dis12]) cs) w := by
  obtain ⟨hsz, h0, h3, h6, h7, h8, h16, h17, _⟩ := hA
  obtain ⟨s, rfl⟩ := diT_of hsz
  change s 0 = _ at h0
  change s 3 = _ at h3
  change s 6 = _ at h6
  change s 7 = _ at h7
  change s 8 = _ at h8
  change s 16 = _ at h16
  change s 17 = _ at h17
  clear hsz
  simp only [diT, h0, h3, h6, h7, h8, h16, h17]
  clear h0 h3 h6 h7 h8 h16 h17
  have hlt : decide ((n : Int) < (n : Int)) = false := by simp
  rw [dis7_eq]
  refine ogS ?_
  rw [dir5_eq]
  refine ogR ?_
  simp only [dio5, Code.opsOf, dir5, Code.piece, diBody, Try.f81, Option.getD_some, List.size_toArray, List.length_cons, List.length_nil, Nat.reduceAdd, Nat.zero_add, List.range, List.range.loop]
  (refine oW fun dd K hK => ?_; go_simp; refine qT hK ?_; clear hK K)
  refine ogE ?_
  rw [dis8_eq]
  refine ogS ?_
  rw [dic18_eq]
  refine ogF ?_
  simp only [Bool.false_eq_true, if_false]
  refine own_go rfl (fun d => stepG_exit rfl) ?_
  rw [dis12_eq]
  refine ogS ?_
  refine h _ ?_
  exact ⟨rfl, rfl, rfl, rfl, rfl, rfl, rfl, rfl, trivial⟩
set_option maxRecDepth 100000 in
set_option maxHeartbeats 2000000 in
theorem di_2 {nn : Nat} (hU : Under F nn) (hn : nn ≤ w.heap.size) {ta : Option Addr} {tl tc n db av k : Nat} {l : Value} (hk : k < n) {A : Array Value} (hA : Slots 38 A [(0, .slice ta tl tc), (3, .pointer (some ⟨db, 0, none⟩)), (6, .int .i64 n), (7, .pointer (some ⟨av, 0, none⟩)), (8, l), (16, .int .i64 n), (17, .int .i64 k)]) {cs : List Frame} {main : Bool} {Stop : Goroutine → World → Prop}
    (h : ∀ A, Slots 38 A ((9, .pointer (some ⟨w.heap.size, 0, none⟩)) :: [(0, .slice ta tl tc), (3, .pointer (some ⟨db, 0, none⟩)), (6, .int .i64 n), (7, .pointer (some ⟨av, 0, none⟩)), (8, l), (16, .int .i64 n), (17, .int .i64 k)]) → Own Try.prog main F Stop (G ((Go.Conc.base 81).at ⟨A, []⟩ [.code dis11, .inBlock 1, .code dir9, .inLoop dis7, .inBlock 0, .code dis12]) cs) (w.alloc (.cells #[.int .i64 k] 3))) :
    Own Try.prog main F Stop (G ((Go.Conc.base 81).at ⟨A, []⟩ [.code dis7, .inLoop dis7, .inBlock 0, .code dis12]) cs) w := by
  obtain ⟨hsz, h0, h3, h6, h7, h8, h16, h17, _⟩ := hA
  obtain ⟨s, rfl⟩ := diT_of hsz
  change s 0 = _ at h0
  change s 3 = _ at h3
  change s 6 = _ at h6
  change s 7 = _ at h7
  change s 8 = _ at h8
  change s 16 = _ at h16
  change s 17 = _ at h17
  clear hsz
  simp only [diT, h0, h3, h6, h7, h8, h16, h17]
  clear h0 h3 h6 h7 h8 h16 h17
  have hlt : decide ((k : Int) < (n : Int)) = true := by simp; omega
  have hlt2 : decide (k < n) = true := by simp; omega
  rw [dis7_eq]
  refine ogS ?_
  rw [dir5_eq]
  refine ogR ?_
  simp only [dio5, Code.opsOf, dir5, Code.piece, diBody, Try.f81, Option.getD_some, List.size_toArray, List.length_cons, List.length_nil, Nat.reduceAdd, Nat.zero_add, List.range, List.range.loop]
  (refine oW fun dd K hK => ?_; go_simp; refine qT hK ?_; clear hK K)
  refine ogE ?_
  rw [dis8_eq]
  refine ogS ?_
  rw [dic18_eq]
  refine ogT ?_
  simp only [if_true]
  refine ogK ?_
  rw [dis9_eq]
  refine ogS ?_
  rw [dib1_eq]
  refine ogB ?_
  rw [dis10_eq]
  refine ogS ?_
  rw [dir6_eq]
  refine ogR ?_
  simp only [dio6, Code.opsOf, dir6, Code.piece, diBody, Try.f81, Option.getD_some, List.size_toArray, List.length_cons, List.length_nil, Nat.reduceAdd, Nat.zero_add, List.range, List.range.loop]
  (refine oW fun dd K hK => ?_; go_simp; refine qT hK ?_; clear hK K)
  (refine oW fun dd K hK => ?_; go_simp; refine qA hK hU ?_; clear hK K)
  (refine oW fun dd K hK => ?_; go_simp; refine qS hK hU ?_; clear hK K)
  rw [set_new]
  refine ogE ?_
  refine h _ ?_
  exact ⟨rfl, rfl, rfl, rfl, rfl, rfl, rfl, rfl, rfl, trivial⟩
end Go.Proofs.Ytlcgkpapnpdfpaa
namespace Go.Proofs.Ytlcgkpapnpdfpaa
open Go Go.Conc Go.RowKit Go.Proofs
variable {F : Fz} {w : World}
structure SD (nn ib tb o k ol oc : Nat) (oa : Option Addr) (u : World) : Prop where
  top : nn ≤ u.heap.size
  il : ib < u.heap.size
  tl : tb < u.heap.size
  ci : u.cell? ⟨ib, 0, none⟩ = some (.int .i64 k)
  zi : u.frozen? ⟨ib, 0, none⟩ = false
  ct : u.cell? ⟨tb, o + k, none⟩ = some (.slice oa ol oc)
  zt : u.frozen? ⟨tb, o + k, none⟩ = false
section
variable {nn ib tb o k ol oc : Nat} {oa : Option Addr} {u : World}
theorem SD.at (h : SD nn ib tb o k ol oc oa u) (d : Nat) : SD nn ib tb o k ol oc oa (u.at d) := ⟨h.top, h.il, h.tl, h.ci, h.zi, h.ct, h.zt⟩
theorem SD.alloc (h : SD nn ib tb o k ol oc oa u) (ob : Obj) : SD nn ib tb o k ol oc oa (u.alloc ob) := by
  have e1 : (u.alloc ob).heap[ib]? = u.heap[ib]? := heap_alloc_lt _ _ h.il
  have e2 : (u.alloc ob).heap[tb]? = u.heap[tb]? := heap_alloc_lt _ _ h.tl
  refine ⟨by simp; have := h.top; omega, by simp; have := h.il; omega, by simp; have := h.tl; omega, ?_, ?_, ?_, ?_⟩
  · rw [← h.ci]; unfold World.cell?; simp only [e1]
  · rw [← h.zi]; unfold World.frozen?; simp only [e1]
  · rw [← h.ct]; unfold World.cell?; simp only [e2]
  · rw [← h.zt]; unfold World.frozen?; simp only [e2]
end
theorem set_new32 (X : World) (u v : Value) : (X.alloc (.cells #[u] 34)).setCell ⟨X.heap.size, 0, none⟩ v = X.alloc (.cells #[v] 34) := by go_simp
theorem info47 : ∃ i, Try.prog.info? 47 = some i ∧ i.size = 4 := by
  have h : (Try.prog.info? 47).map (fun i => i.size) = some 4 := by kernel_rfl
  obtain ⟨i, hi, h1⟩ := Option.map_eq_some_iff.1 h
  exact ⟨i, hi, h1⟩
theorem slice_h {w : World} {a : Option Addr} {ol oc m : Nat} (hmc : m ≤ oc) : (Instr.sliceAt 34 (.slice a ol oc) none (some (.int .i64 m)) none).run Try.prog w = .ok (.slice a m oc) w := by
  obtain ⟨i, hi, hs⟩ := info47
  have hu : Try.prog.underlying 34 = some (.slice 47) := Try.underlying34
  have e : a.map (fun x : Addr => x.add 0) = a := by
    cases a with
    | none => rfl
    | some x => simp [Addr.add]
  have hm : (m : Int) ≤ oc := by omega
  simp [Instr.sliceAt, Instr.slice, run_underlying hu, Instr.sliceBounds, run_sliceBound, sizeOf, typeInfo, hi, hs, hmc, hm, e]
theorem slice_he {w : World} {es : Array Event} {a : Option Addr} {ol oc m : Nat} (hmc : m ≤ oc) : (Instr.sliceAt 34 (.slice a ol oc) none (some (.int .i64 m)) none).events Try.prog w es = es := by
  obtain ⟨i, hi, hs⟩ := info47
  have hu : Try.prog.underlying 34 = some (.slice 47) := Try.underlying34
  have hm : (m : Int) ≤ oc := by omega
  simp [Instr.sliceAt, Instr.slice, run_underlying hu, Instr.sliceBounds, Instr.sliceBound, asIntOf, run_sliceBound, sizeOf, typeInfo, hi, hs, hmc, hm]
set_option maxRecDepth 100000 in
set_option maxHeartbeats 8000000 in
theorem di_3 {nn : Nat} (hU : Under F nn) {tb o tl tc n db av ib k ol oc m : Nat} {oa : Option Addr} {l : Value} (hkt : k < tl) (hm0 : min ol 65536 = m) (hoc : ol ≤ oc) (hs : SD nn ib tb o k ol oc oa w) {A : Array Value} (hA : Slots 38 A ((9, .pointer (some ⟨ib, 0, none⟩)) :: [(0, .slice (some ⟨tb, o, none⟩) tl tc), (3, .pointer (some ⟨db, 0, none⟩)), (6, .int .i64 n), (7, .pointer (some ⟨av, 0, none⟩)), (8, l), (16, .int .i64 n), (17, .int .i64 k)])) {cs : List Frame} {main : Bool} {Stop : Goroutine → World → Prop} {kk : List Item}
    (h : ∀ A, Slots 38 A ((9, .pointer (some ⟨ib, 0, none⟩)) :: (10, .pointer (some ⟨w.heap.size, 0, none⟩)) :: [(0, .slice (some ⟨tb, o, none⟩) tl tc), (3, .pointer (some ⟨db, 0, none⟩)), (6, .int .i64 n), (7, .pointer (some ⟨av, 0, none⟩)), (8, l), (16, .int .i64 n), (17, .int .i64 k)]) → Own Try.prog main F Stop (G ((Go.Conc.base 81).at ⟨A, []⟩ kk) cs) (w.alloc (.cells #[.slice oa m oc] 34))) :
    Own Try.prog main F Stop (G ((Go.Conc.base 81).at ⟨A, []⟩ (.code dir7 :: kk)) cs) w := by
  obtain ⟨hsz, h9, h0, h3, h6, h7, h8, h16, h17, _⟩ := hA
  obtain ⟨s, rfl⟩ := diT_of hsz
  change s 9 = _ at h9
  change s 0 = _ at h0
  change s 3 = _ at h3
  change s 6 = _ at h6
  change s 7 = _ at h7
  change s 8 = _ at h8
  change s 16 = _ at h16
  change s 17 = _ at h17
  clear hsz
  simp only [diT, h9, h0, h3, h6, h7, h8, h16, h17]
  clear h9 h0 h3 h6 h7 h8 h16 h17
  have hmc : m ≤ oc := by omega
  have hm2 : (if (65536 : Int) < (ol : Int) then (65536 : Int) else ol) = (m : Int) := by split <;> omega
  have hS : ∀ u d, SD nn ib tb o k ol oc oa u → SD nn ib tb o k ol oc oa (World.at u d) := fun u d h => h.at d
  rw [dir7_eq]
  refine own_drawnM (SD nn ib tb o k ol oc oa) (last := 12) run_mixed (ll_of (by kernel_rfl)) (by decide) ?_
  simp only [dio7, Code.opsOf, dir7, Code.piece, diBody, Try.f81, Option.getD_some, List.size_toArray, List.length_cons, List.length_nil, Nat.reduceAdd, Nat.zero_add, List.range, List.range.loop]
  have hZ : ∀ a u d, Own Try.prog main F Stop (G ((Go.Conc.base 81).at a (.inRegion dio7 [12] :: kk)) cs) u → Own Try.prog main F Stop (G ((Go.Conc.base 81).at a (.inRegion dio7 [12] :: kk)) cs) (World.at u d) := fun a u d h => h.at d
  simp only [dio7, Code.opsOf, dir7, Code.piece, diBody, Try.f81, Option.getD_some, List.size_toArray, List.length_cons, List.length_nil, Nat.reduceAdd, Nat.zero_add, List.range, List.range.loop] at hZ
  refine anyM_take hS hZ (i := 0) (v := .slice (some ⟨tb, o, none⟩) tl tc) hs rfl rfl (by kernel_rfl) (by kernel_rfl) (by kernel_rfl) (fun u hu => .inl ⟨rfl, fun d => ⟨by simp [go_sem, execOp, Act.eval], fun e he => by have hm := mem_listed he; simp [go_sem, execOp, Act.eval] at hm⟩⟩) ?_
  walk_nrm
  refine anyM_take hS hZ (i := 1) (v := .int .i64 k) hs rfl rfl (by kernel_rfl) (by kernel_rfl) (by kernel_rfl) (fun u hu => .inl ⟨rfl, fun d => ⟨by simp [go_sem, execOp, Act.eval, hu.ci, hu.zi], fun e he => by have hm := mem_listed he; simp [go_sem, execOp, Act.eval, hu.ci, hu.zi] at hm; subst hm; exact evT_read _ _⟩⟩) ?_
  walk_nrm
  refine anyM_take hS hZ (i := 2) (v := .pointer (some ⟨tb, o + k, none⟩)) hs rfl rfl (by kernel_rfl) (by kernel_rfl) (by kernel_rfl) (fun u hu => .inl ⟨rfl, fun d => ⟨by simp [go_sem, execOp, Act.eval, hkt], fun e he => by have hm := mem_listed he; simp [go_sem, execOp, Act.eval, hkt] at hm⟩⟩) ?_
  walk_nrm
  refine anyM_take hS hZ (i := 3) (v := .slice oa ol oc) hs rfl rfl (by kernel_rfl) (by kernel_rfl) (by kernel_rfl) (fun u hu => .inl ⟨rfl, fun d => ⟨by simp [go_sem, execOp, Act.eval, hu.ct, hu.zt], fun e he => by have hm := mem_listed he; simp [go_sem, execOp, Act.eval, hu.ct, hu.zt] at hm; subst hm; exact evT_read _ _⟩⟩) ?_
  walk_nrm
  refine anyM_take hS hZ (i := 4) (v := .slice (some ⟨tb, o, none⟩) tl tc) hs rfl rfl (by kernel_rfl) (by kernel_rfl) (by kernel_rfl) (fun u hu => .inl ⟨rfl, fun d => ⟨by simp [go_sem, execOp, Act.eval], fun e he => by have hm := mem_listed he; simp [go_sem, execOp, Act.eval] at hm⟩⟩) ?_
  walk_nrm
  refine anyM_take hS hZ (i := 5) (v := .int .i64 k) hs rfl rfl (by kernel_rfl) (by kernel_rfl) (by kernel_rfl) (fun u hu => .inl ⟨rfl, fun d => ⟨by simp [go_sem, execOp, Act.eval, hu.ci, hu.zi], fun e he => by have hm := mem_listed he; simp [go_sem, execOp, Act.eval, hu.ci, hu.zi] at hm; subst hm; exact evT_read _ _⟩⟩) ?_
  walk_nrm
  refine anyM_take hS hZ (i := 6) (v := .pointer (some ⟨tb, o + k, none⟩)) hs rfl rfl (by kernel_rfl) (by kernel_rfl) (by kernel_rfl) (fun u hu => .inl ⟨rfl, fun d => ⟨by simp [go_sem, execOp, Act.eval, hkt], fun e he => by have hm := mem_listed he; simp [go_sem, execOp, Act.eval, hkt] at hm⟩⟩) ?_
  walk_nrm
  refine anyM_take hS hZ (i := 7) (v := .slice oa ol oc) hs rfl rfl (by kernel_rfl) (by kernel_rfl) (by kernel_rfl) (fun u hu => .inl ⟨rfl, fun d => ⟨by simp [go_sem, execOp, Act.eval, hu.ct, hu.zt], fun e he => by have hm := mem_listed he; simp [go_sem, execOp, Act.eval, hu.ct, hu.zt] at hm; subst hm; exact evT_read _ _⟩⟩) ?_
  walk_nrm
  refine anyM_take hS hZ (i := 8) (v := .int .i64 ol) hs rfl rfl (by kernel_rfl) (by kernel_rfl) (by kernel_rfl) (fun u hu => .inl ⟨rfl, fun d => ⟨by simp [go_sem, execOp, Act.eval], fun e he => by have hm := mem_listed he; simp [go_sem, execOp, Act.eval] at hm⟩⟩) ?_
  walk_nrm
  refine anyM_take hS hZ (i := 9) (v := .int .i64 m) hs rfl rfl (by kernel_rfl) (by kernel_rfl) (by kernel_rfl) (fun u hu => .inl ⟨rfl, fun d => ⟨by simp [go_sem, execOp, Act.eval, hm2], fun e he => by have hm := mem_listed he; simp [go_sem, execOp, Act.eval, hm2] at hm⟩⟩) ?_
  walk_nrm
  refine anyM_take hS hZ (i := 10) (v := .slice oa m oc) hs rfl rfl (by kernel_rfl) (by kernel_rfl) (by kernel_rfl) (fun u hu => .inl ⟨rfl, fun d => ⟨by simp [go_sem, execOp, Act.eval, slice_h hmc, slice_he hmc], fun e he => by have hm := mem_listed he; simp [go_sem, execOp, Act.eval, slice_h hmc, slice_he hmc] at hm⟩⟩) ?_
  walk_nrm
  refine anyM_all (r := [11]) (by kernel_rfl) (by kernel_rfl) (fun i hi hil => ?_)
  simp only [List.mem_cons, List.not_mem_nil, or_false] at hi
  subst hi
  refine opm_k rfl rfl (fun d K' hK' => ?_)
  go_simp
  refine hK' _ _ ⟨⟨⟨0, grew_alloc hU (show nn ≤ (w.at d).heap.size from hs.top) _⟩, fun e he => by (have hm := mem_listed he; simp [go_sem] at hm)⟩, (hs.at d).alloc _, ?_⟩
  clear hK' K'
  rw [alloc_at']
  refine anyM_at hS hZ _ _ _ _ ?_ d
  refine anyM_end (by kernel_rfl) ?_ _
  have hn := hs.top
  (refine oW fun dd K hK => ?_; go_simp; refine qS hK hU ?_; clear hK K)
  rw [set_new32]
  refine ogE ?_
  refine h _ ?_
  exact ⟨rfl, rfl, rfl, rfl, rfl, rfl, rfl, rfl, rfl, rfl, trivial⟩
end Go.Proofs.Ytlcgkpapnpdfpaa
