/-
  StackNone: a nil stack and the zero one
  Part 5 of 5.
-/
import Derived.Test.YtlcgkpapnpdfpaaZD
import Derived.Deep.RegionLaw
import Derived.Deep.RegionLawGrows
import Derived.Deep.DeepAppendRoom
import Derived.ArgAppend
import Derived.Laws.LoneSync
import Derived.Laws.MakeOwn
import Derived.Deep.DrawnRows
import Derived.ProofKit
import Derived.Conc.LeavingOf
import Derived.Test.YtlcgkpapnpdfpaaRows
set_option linter.unusedSimpArgs false
set_option linter.unusedVariables false
namespace Go.Proofs.Ytlcgkpapnpdfpaa
open Go Go.Conc Go.RowKit Go.Proofs
variable {w : World}
theorem mask_F0 (w : World) : mask F0 w = w := by
  have e : (mask F0 w).heap = w.heap := by
    apply Array.ext_getElem?
    intro r
    rw [mask_get]
    cases h : w.heap[r]? with
    | none => rfl
    | some o => cases o <;> rfl
  calc mask F0 w = { w with heap := (mask F0 w).heap } := rfl
    _ = w := by rw [e]
theorem under_F0 : Under F0 0 := fun r z h => by cases h
theorem wf_F0 (w : World) : Wf F0 w := ⟨fun r z h => by cases h⟩
theorem info112 : ∃ i, Try.prog.info? 112 = some i ∧ i.zero = some .nilFunc ∧ i.size = 1 ∧ i.bytes = 8 := by
  have h : (Try.prog.info? 112).map (fun i => (i.size, i.bytes)) = some (1, 8) := by kernel_rfl
  have h0 : (Try.prog.info? 112).bind (·.zero) = some .nilFunc := by kernel_rfl
  obtain ⟨i, hi, h1⟩ := Option.map_eq_some_iff.1 h
  rw [hi] at h0
  simp only [Prod.mk.injEq] at h1
  exact ⟨i, hi, h0, h1.1, h1.2⟩
def cl68 (ob db ib av : Nat) : Value := .func (.func 99) #[] #[.pointer (some ⟨ob, 0, none⟩), .pointer (some ⟨db, 0, none⟩), .pointer (some ⟨ib, 0, none⟩), .pointer (some ⟨av, 0, none⟩)]
set_option maxRecDepth 100000 in
set_option maxHeartbeats 8000000 in
theorem di_4 {ta : Option Addr} {tl tc n db av ib ob k base : Nat} {l : Value} {xs : List Value} (hk : k < 64) (hb : base ≤ w.heap.size) (hrow : w.ownsRow base 112 1 l k xs) {A : Array Value} (hA : Slots 38 A ((9, .pointer (some ⟨ib, 0, none⟩)) :: (10, .pointer (some ⟨ob, 0, none⟩)) :: [(0, .slice ta tl tc), (3, .pointer (some ⟨db, 0, none⟩)), (6, .int .i64 n), (7, .pointer (some ⟨av, 0, none⟩)), (8, l), (16, .int .i64 n), (17, .int .i64 k)])) {cs : List Frame} {main : Bool} {Stop : Goroutine → World → Prop}
    (h : ∀ (w' : World) (l' : Value) (A : Array Value), w'.ownsRow base 112 1 l' (k + 1) (xs ++ [cl68 ob db ib av]) → w.heap.size ≤ w'.heap.size → (∀ r, r < w.heap.size → some r ≠ Value.ownBlock l → w'.heap[r]? = w.heap[r]?) → Slots 38 A [(0, .slice ta tl tc), (3, .pointer (some ⟨db, 0, none⟩)), (6, .int .i64 n), (7, .pointer (some ⟨av, 0, none⟩)), (8, l'), (16, .int .i64 n), (17, .int .i64 (k + 1 : Nat))] → Own Try.prog main F0 Stop (G ((Go.Conc.base 81).at ⟨A, []⟩ [.code dis7, .inLoop dis7, .inBlock 0, .code dis12]) cs) w') :
    Own Try.prog main F0 Stop (G ((Go.Conc.base 81).at ⟨A, []⟩ [.code dir8, .inBlock 1, .code dir9, .inLoop dis7, .inBlock 0, .code dis12]) cs) w := by
  have hU := under_F0
  have hn : 0 ≤ w.heap.size := Nat.zero_le _
  have hk64 : IntKind.i64.wrap ((k : Int) + 1) = (k : Int) + 1 := IntWalk.i64_in _ (by omega)
  obtain ⟨hsz, h9, h10, h0, h3, h6, h7, h8, h16, h17, _⟩ := hA
  obtain ⟨s, rfl⟩ := diT_of hsz
  change s 9 = _ at h9
  change s 10 = _ at h10
  change s 0 = _ at h0
  change s 3 = _ at h3
  change s 6 = _ at h6
  change s 7 = _ at h7
  change s 8 = _ at h8
  change s 16 = _ at h16
  change s 17 = _ at h17
  clear hsz
  simp only [diT, h9, h10, h0, h3, h6, h7, h8, h16, h17]
  clear h9 h10 h0 h3 h6 h7 h8 h16 h17
  rw [dir8_eq]
  refine ogR ?_
  simp only [dio8, Code.opsOf, dir8, Code.piece, diBody, Try.f81, Option.getD_some, List.size_toArray, List.length_cons, List.length_nil, Nat.reduceAdd, Nat.zero_add, List.range, List.range.loop]
  (refine oW fun dd K hK => ?_; go_simp; refine qT hK ?_; clear hK K)
  (refine oW fun dd K hK => ?_; go_simp; refine qT hK ?_; clear hK K)
  (refine oW fun dd K hK => ?_; go_simp; refine qA hK hU ?_; clear hK K)
  have hrow2 := hrow.alloc (.cells #[cl68 ob db ib av] 112)
  have hcell := cell_one_new w (cl68 ob db ib av) 112
  have hsz : (w.alloc (.cells #[cl68 ob db ib av] 112)).heap.size = w.heap.size + 1 := by simp
  have hold : ∀ r, r < w.heap.size → (w.alloc (.cells #[cl68 ob db ib av] 112)).heap[r]? = w.heap[r]? := fun r hr => heap_alloc_lt _ _ hr
  change Own _ _ _ _ _ (w.alloc (.cells #[cl68 ob db ib av] 112))
  generalize w.alloc (.cells #[cl68 ob db ib av] 112) = W at hrow2 hcell hsz hold ⊢
  obtain ⟨i0, hi0, hz0, hz1, hz2⟩ := info112
  refine own_opm (by decide) ?_
  refine opm_lift (S' := fun _ => false) (px := false) (ready0.shut false) (by simp) rfl rfl rfl (wf_F0 _) (fun d => ?_)
  rw [mask_F0]
  obtain ⟨l', u, hr, hown, hgrow, _⟩ := run_append_own (P := Try.prog) (W.at d) base 139 139 112 i0 _ 1 8 Try.underlying139 hi0 hz0 hz1 hz2 rfl (by decide) l k xs hrow2 ⟨w.heap.size, 0, none⟩ 1 1 [cl68 ob db ib av] rfl
    hcell (fun q hq => by simp at hq; subst hq; rfl) (by unfold maxLen; omega) (by omega) (by show base ≤ W.heap.size; omega)
  refine ⟨l', u, run_append_op (.tmp 31) (.tmp 33) 139 rfl rfl rfl hr, fun w' hu hg hwf' => ?_⟩
  rw [mask_F0] at hu
  subst hu
  have hsz2 : W.heap.size ≤ u.heap.size := hgrow.size
  have hold2 : ∀ r, r < w.heap.size → some r ≠ Value.ownBlock l → u.heap[r]? = w.heap[r]? := fun r h1 h2 => (hgrow.block r (by show r < W.heap.size; omega) h2).trans (hold r h1)
  have hsz3 : w.heap.size ≤ u.heap.size := by omega
  clear hrow2 hcell hsz hold hr hgrow hsz2 hg hwf' hz0 hz1 hz2 hi0
  walk_nrm
  (refine oW fun dd K hK => ?_; go_simp; refine qT hK ?_; clear hK K)
  refine ogE ?_
  refine ogI ?_
  rw [dir9_eq]
  refine ogR ?_
  simp only [dio9, Code.opsOf, dir9, Code.piece, diBody, Try.f81, Option.getD_some, List.size_toArray, List.length_cons, List.length_nil, Nat.reduceAdd, Nat.zero_add, List.range, List.range.loop]
  (refine oW fun dd K hK => ?_; go_simp; refine qT hK ?_; clear hK K)
  (refine oW fun dd K hK => ?_; go_simp; refine qT hK ?_; clear hK K)
  refine ogE ?_
  refine ogL ?_
  refine h _ l' _ hown hsz3 hold2 ?_
  exact ⟨rfl, rfl, rfl, rfl, rfl, rfl, rfl, rfl, trivial⟩
end Go.Proofs.Ytlcgkpapnpdfpaa
namespace Go.Proofs.Ytlcgkpapnpdfpaa
open Go Go.Conc Go.RowKit Go.Proofs
variable {w : World}
structure SV (av : Nat) (v : Value) (u : World) : Prop where
  c : u.cell? ⟨av, 0, none⟩ = some v
  z : u.frozen? ⟨av, 0, none⟩ = false
set_option maxRecDepth 100000 in
set_option maxHeartbeats 8000000 in
theorem di_6 {ta : Option Addr} {tl tc n db av : Nat} {l x : Value} (hs : SV av x w) {A : Array Value} (hA : Slots 38 A [(0, .slice ta tl tc), (3, .pointer (some ⟨db, 0, none⟩)), (6, .int .i64 n), (7, .pointer (some ⟨av, 0, none⟩)), (8, l), (16, .int .i64 n), (17, .int .i64 n)]) {c : Frame} {cs : List Frame} {Stop : Goroutine → World → Prop}
    (h : Own Try.prog true F0 Stop (G (c.finish (.tuple #[l, x])) cs) w) :
    Own Try.prog true F0 Stop (G ((Go.Conc.base 81).at ⟨A, []⟩ [.code dir10, .code .ret]) (c :: cs)) w := by
  obtain ⟨hsz, h0, h3, h6, h7, h8, h16, h17, _⟩ := hA
  obtain ⟨s, rfl⟩ := diT_of hsz
  change s 0 = _ at h0
  change s 3 = _ at h3
  change s 6 = _ at h6
  change s 7 = _ at h7
  change s 8 = _ at h8
  change s 16 = _ at h16
  change s 17 = _ at h17
  clear hsz
  simp only [diT, h0, h3, h6, h7, h8, h16, h17]
  clear h0 h3 h6 h7 h8 h16 h17
  have hS : ∀ u d, SV av x u → SV av x (World.at u d) := fun u d h => ⟨h.c, h.z⟩
  rw [dir10_eq]
  refine own_drawnM (SV av x) (last := 3) run_mixed (ll_of (by kernel_rfl)) (by decide) ?_
  simp only [dio10, Code.opsOf, dir10, Code.piece, diBody, Try.f81, Option.getD_some, List.size_toArray, List.length_cons, List.length_nil, Nat.reduceAdd, Nat.zero_add, List.range, List.range.loop]
  have hZ : ∀ a u d, Own Try.prog true F0 Stop (G ((Go.Conc.base 81).at a [.inRegion dio10 [3], .code .ret]) (c :: cs)) u → Own Try.prog true F0 Stop (G ((Go.Conc.base 81).at a [.inRegion dio10 [3], .code .ret]) (c :: cs)) (World.at u d) := fun a u d h => h.at d
  simp only [dio10, Code.opsOf, dir10, Code.piece, diBody, Try.f81, Option.getD_some, List.size_toArray, List.length_cons, List.length_nil, Nat.reduceAdd, Nat.zero_add, List.range, List.range.loop] at hZ
  refine anyM_take hS hZ (i := 0) (v := l) hs rfl rfl (by kernel_rfl) (by kernel_rfl) (by kernel_rfl) (fun u hu => .inl ⟨rfl, fun d => ⟨by simp [go_sem, execOp, Act.eval], fun e he => by have hm := mem_listed he; simp [go_sem, execOp, Act.eval] at hm⟩⟩) ?_
  walk_nrm
  refine anyM_take hS hZ (i := 1) (v := x) hs rfl rfl (by kernel_rfl) (by kernel_rfl) (by kernel_rfl) (fun u hu => .inl ⟨rfl, fun d => ⟨by simp [go_sem, execOp, Act.eval, hu.c, hu.z], fun e he => by have hm := mem_listed he; simp [go_sem, execOp, Act.eval, hu.c, hu.z] at hm; subst hm; exact evT_read _ _⟩⟩) ?_
  walk_nrm
  refine anyM_take hS hZ (i := 2) (v := l) hs rfl rfl (by kernel_rfl) (by kernel_rfl) (by kernel_rfl) (fun u hu => .inl ⟨rfl, fun d => ⟨by simp [go_sem, execOp, Act.eval], fun e he => by have hm := mem_listed he; simp [go_sem, execOp, Act.eval] at hm⟩⟩) ?_
  walk_nrm
  refine anyM_end (by kernel_rfl) ?_ _
  (refine oW fun dd K hK => ?_; go_simp; refine qT hK ?_; clear hK K)
  refine ogE ?_
  refine ogX ?_
  refine own_go rfl (fun d => stepG_leave (fn := Try.f81) (v := .tuple #[l, x]) rfl rfl Try.func81 (by simp [results, Try.f81, go_sem]) (by simp [results, Try.f81, go_sem])) ?_
  exact h
structure DI (w0 : World) (n k db aa av : Nat) (dv : Value) (oa : Nat → Option Addr) (m oc ib ob : Nat → Nat) (l : Value) (w : World) : Prop where
  size : w0.heap.size ≤ w.heap.size
  old : ∀ r, r < w0.heap.size → w.heap[r]? = w0.heap[r]?
  hdb : w.heap[db]? = some (.cells #[dv] 98 (0, 0))
  haa : w.heap[aa]? = some (.cells (madeCells #[.slice none 0 0] n) 42 (0, 0))
  hav : w.heap[av]? = some (.cells #[.slice (some ⟨aa, 0, none⟩) n n] 29 (0, 0))
  hib : ∀ j, j < k → w.heap[ib j]? = some (.cells #[.int .i64 j] 3 (0, 0))
  hob : ∀ j, j < k → w.heap[ob j]? = some (.cells #[.slice (oa j) (m j) (oc j)] 34 (0, 0))
  lo : ∀ j, j < k → w0.heap.size ≤ ib j ∧ w0.heap.size ≤ ob j
  new : w0.heap.size ≤ db ∧ w0.heap.size ≤ aa ∧ w0.heap.size ≤ av
  row : w.ownsRow w0.heap.size 112 1 l k ((List.range k).map fun j => cl68 (ob j) db (ib j) av)
theorem DI.same {w0 w w' : World} {n k db aa av : Nat} {dv : Value} {oa : Nat → Option Addr} {m oc ib ob : Nat → Nat} {l : Value} (h : DI w0 n k db aa av dv oa m oc ib ob l w) (hsz : w.heap.size ≤ w'.heap.size) (hs : ∀ r, r < w.heap.size → w'.heap[r]? = w.heap[r]?) : DI w0 n k db aa av dv oa m oc ib ob l w' := by
  have lt : ∀ {r : Nat} {o : Obj}, w.heap[r]? = some o → w'.heap[r]? = some o := fun hr => (hs _ (Array.getElem?_eq_some_iff.1 hr).1).trans hr
  exact ⟨Nat.le_trans h.size hsz, fun r hr => (hs r (Nat.lt_of_lt_of_le hr h.size)).trans (h.old r hr), lt h.hdb, lt h.haa, lt h.hav, fun j hj => lt (h.hib j hj), fun j hj => lt (h.hob j hj), h.lo, h.new, ownsRow_same2 h.row fun b hb _ => hs b (h.row.lt b hb).2⟩
set_option maxRecDepth 100000 in
theorem own_doing_loop {w0 : World} {tb o tl tc n db aa av : Nat} {dv : Value} (hntl : n ≤ tl) (hn64 : n ≤ 64) {oa : Nat → Option Addr} {ol m oc : Nat → Nat} (htb : 0 < n → tb < w0.heap.size) (hth : ∀ j, j < n → w0.cell? ⟨tb, o + j, none⟩ = some (.slice (oa j) (ol j) (oc j)) ∧ w0.frozen? ⟨tb, o + j, none⟩ = false ∧ ol j ≤ oc j ∧ min (ol j) 65536 = m j) {ta : Option Addr} (hta : 0 < n → ta = some ⟨tb, o, none⟩) {c : Frame} {cs : List Frame} {Stop : Goroutine → World → Prop}
    (K : ∀ w' l ib ob, DI w0 n n db aa av dv oa m oc ib ob l w' → Own Try.prog true F0 Stop (G (c.finish (.tuple #[l, .slice (some ⟨aa, 0, none⟩) n n])) cs) w') :
    ∀ (q k : Nat), k + q = n → ∀ (w : World) (l : Value) (ib ob : Nat → Nat) (A : Array Value), DI w0 n k db aa av dv oa m oc ib ob l w → Slots 38 A [(0, .slice ta tl tc), (3, .pointer (some ⟨db, 0, none⟩)), (6, .int .i64 n), (7, .pointer (some ⟨av, 0, none⟩)), (8, l), (16, .int .i64 n), (17, .int .i64 k)] →
      Own Try.prog true F0 Stop (G ((Go.Conc.base 81).at ⟨A, []⟩ [.code dis7, .inLoop dis7, .inBlock 0, .code dis12]) (c :: cs)) w := by
  intro q
  induction q with
  | zero =>
    intro k hk w l ib ob A hD hA
    obtain rfl : k = n := by omega
    refine di_5 hA fun A2 hA2 => ?_
    refine di_6 (x := .slice (some ⟨aa, 0, none⟩) k k) ⟨by simp [World.cell?, hD.hav], by simp [World.frozen?, hD.hav]⟩ hA2 ?_
    exact K w l ib ob hD
  | succ q ih =>
    intro k hk w l ib ob A hD hA
    have hkn : k < n := by omega
    obtain rfl := hta (by omega)
    obtain ⟨t1, t2, t3, t4⟩ := hth k hkn
    have htl := htb (by omega)
    have htb2 := hD.old tb htl
    have hsz0 := hD.size
    refine di_2 under_F0 (Nat.zero_le _) hkn hA fun A2 hA2 => ?_
    have e1 : ∀ r, r < w.heap.size → (w.alloc (.cells #[.int .i64 k] 3)).heap[r]? = w.heap[r]? := fun r hr => heap_alloc_lt _ _ hr
    have e2 := heap_alloc_new w (.cells #[.int .i64 k] 3)
    have e3 : (w.alloc (.cells #[.int .i64 k] 3)).heap.size = w.heap.size + 1 := by simp
    generalize w.alloc (.cells #[.int .i64 k] 3) = W1 at e1 e2 e3 ⊢
    rw [dis11_eq]
    refine ogS ?_
    have htb3 : W1.heap[tb]? = w0.heap[tb]? := (e1 tb (by omega)).trans htb2
    refine di_3 (nn := 0) (m := m k) under_F0 (by omega) t4 t3 ⟨Nat.zero_le _, by omega, by omega, by simp [World.cell?, e2], by simp [World.frozen?, e2], by rw [← t1]; unfold World.cell?; simp only [htb3], by rw [← t2]; unfold World.frozen?; simp only [htb3]⟩ hA2 fun A3 hA3 => ?_
    have f1 : ∀ r, r < W1.heap.size → (W1.alloc (.cells #[.slice (oa k) (m k) (oc k)] 34)).heap[r]? = W1.heap[r]? := fun r hr => heap_alloc_lt _ _ hr
    have f2 := heap_alloc_new W1 (.cells #[.slice (oa k) (m k) (oc k)] 34)
    have f3 : (W1.alloc (.cells #[.slice (oa k) (m k) (oc k)] 34)).heap.size = W1.heap.size + 1 := by simp
    generalize W1.alloc (.cells #[.slice (oa k) (m k) (oc k)] 34) = W2 at f1 f2 f3 ⊢
    have hD2 : DI w0 n k db aa av dv oa m oc ib ob l W2 := hD.same (by omega) fun r hr => (f1 r (by omega)).trans (e1 r hr)
    refine di_4 (base := w0.heap.size) (by omega) (by omega) hD2.row hA3 fun w' l' A4 g1 g2 g3 hA4 => ?_
    have hne : ∀ {r : Nat} {cc : Array Value} {t : TypeId}, W2.heap[r]? = some (.cells cc t (0, 0)) → t ≠ 112 → w'.heap[r]? = some (.cells cc t (0, 0)) := fun hr ht => (g3 _ (Array.getElem?_eq_some_iff.1 hr).1 (own_type hD2.row hr (fun e => ht e.symm))).trans hr
    have hold : ∀ r, r < w0.heap.size → w'.heap[r]? = w0.heap[r]? := fun r hr => (g3 r (by omega) (fun e => by
      have := (hD2.row.lt r e.symm).1; omega)).trans (hD2.old r hr)
    refine ih (k + 1) (by omega) w' l' (fun j => if j = k then w.heap.size else ib j) (fun j => if j = k then W1.heap.size else ob j) A4 ⟨by omega, hold, hne hD2.hdb (by decide), hne hD2.haa (by decide), hne hD2.hav (by decide), fun j hj => ?_, fun j hj => ?_, fun j hj => ?_, hD.new, ?_⟩ hA4
    · by_cases e : j = k
      · subst e
        simp only [if_true]
        exact hne ((f1 _ (by omega)).trans e2) (by decide)
      · simp only [if_neg e]
        exact hne (hD2.hib j (by omega)) (by decide)
    · by_cases e : j = k
      · subst e
        simp only [if_true]
        exact hne f2 (by decide)
      · simp only [if_neg e]
        exact hne (hD2.hob j (by omega)) (by decide)
    · by_cases e : j = k
      · subst e
        simp only [if_true]
        omega
      · simp only [if_neg e]
        exact hD.lo j (by omega)
    · have e5 : ((List.range (k + 1)).map fun j => cl68 (if j = k then W1.heap.size else ob j) db (if j = k then w.heap.size else ib j) av) = ((List.range k).map fun j => cl68 (ob j) db (ib j) av) ++ [cl68 W1.heap.size db w.heap.size av] := by
        rw [List.range_succ, List.map_append]
        congr 1
        · apply List.map_congr_left
          intro j hj
          have : j < k := List.mem_range.1 hj
          simp only [if_neg (show ¬ j = k by omega)]
        · simp
      rw [e5]
      exact g1
theorem own_doing {tb o tl tc n df : Nat} {first capt : Array Value} (hn1 : min tl 64 = n) {oa : Nat → Option Addr} {ol m oc : Nat → Nat} (htb : 0 < n → tb < w.heap.size) (hth : ∀ j, j < n → w.cell? ⟨tb, o + j, none⟩ = some (.slice (oa j) (ol j) (oc j)) ∧ w.frozen? ⟨tb, o + j, none⟩ = false ∧ ol j ≤ oc j ∧ min (ol j) 65536 = m j) {ta : Option Addr} (hta : 0 < n → ta = some ⟨tb, o, none⟩) {c : Frame} {cs : List Frame} {Stop : Goroutine → World → Prop}
    (K : ∀ w' l ib ob db aa av, DI w n n db aa av (.func (.func df) first capt) oa m oc ib ob l w' → Own Try.prog true F0 Stop (G (c.finish (.tuple #[l, .slice (some ⟨aa, 0, none⟩) n n])) cs) w') :
    Own Try.prog true F0 Stop (G (Frame.enter Try.prog 81 #[.slice ta tl tc, .func (.func df) first capt] .normal) (c :: cs)) w := by
  refine di_0 under_F0 (Nat.zero_le _) hn1 fun A hA => ?_
  refine di_1 under_F0 (Nat.zero_le _) (by omega) hA fun A2 hA2 => ?_
  have e1 : ∀ r, r < w.heap.size → (((w.alloc (.cells #[.func (.func df) first capt] 98)).alloc (.cells (madeCells #[.slice none 0 0] n) 42)).alloc (.cells #[.slice (some ⟨(w.alloc (.cells #[.func (.func df) first capt] 98)).heap.size, 0, none⟩) n n] 29)).heap[r]? = w.heap[r]? := fun r hr => by
    rw [heap_alloc_lt _ _ (by simp; omega), heap_alloc_lt _ _ (by simp; omega), heap_alloc_lt _ _ hr]
  refine own_doing_loop (w0 := w) (n := n) (tl := tl) (dv := .func (.func df) first capt) (oa := oa) (ol := ol) (m := m) (oc := oc) (tb := tb) (o := o) (db := w.heap.size) (aa := w.heap.size + 1) (av := w.heap.size + 2) (by omega) (by omega) htb hth hta (fun w' l ib ob hD => K w' l ib ob _ _ _ hD) n 0 (by omega) _ (.slice none 0 0) (fun _ => 0) (fun _ => 0) A2 ⟨by simp; omega, e1, ?_, ?_, ?_, fun j hj => by omega, fun j hj => by omega, fun j hj => by omega, ⟨by omega, by omega, by omega⟩, World.ownsRow_nil _ _ _ _⟩ (by simpa using hA2)
  · rw [heap_alloc_lt _ _ (by simp; omega), heap_alloc_lt _ _ (by simp)]
    exact heap_alloc_new _ _
  · have := heap_alloc_new (w.alloc (.cells #[.func (.func df) first capt] 98)) (.cells (madeCells #[.slice none 0 0] n) 42)
    rw [heap_alloc_lt _ _ (by simp)]
    simpa using this
  · have := heap_alloc_new ((w.alloc (.cells #[.func (.func df) first capt] 98)).alloc (.cells (madeCells #[.slice none 0 0] n) 42)) (.cells #[.slice (some ⟨(w.alloc (.cells #[.func (.func df) first capt] 98)).heap.size, 0, none⟩) n n] 29)
    simpa using this
end Go.Proofs.Ytlcgkpapnpdfpaa
namespace Go.Proofs.Ytlcgkpapnpdfpaa
open Go Go.Conc Go.RowKit Go.Proofs
variable {F : Fz} {w : World}
theorem built29 (a b c : Option Addr) (n m k l : Nat) (s : Bool) : Try.prog.built 31 [(0, .slice a n m), (1, .slice b k l), (3, .bool s)] = some #[.slice a n m, .slice b k l, .slice none 0 0, .bool s] := by kernel_rfl
@[go_sem] theorem run_build29 (a b : Option Addr) (n m k l : Nat) (s : Bool) (w : World) : (Instr.build 31 #[(0, .slice a n m), (1, .slice b k l), (3, .bool s)]).run Try.prog w = .ok (.agg #[.slice a n m, .slice b k l, .slice none 0 0, .bool s]) w := run_build w _ _ _ (built29 a b a n m k l s)
@[go_sem] theorem ev_build29 (a b : Option Addr) (n m k l : Nat) (s : Bool) (w : World) (es : Array Event) : (Instr.build 31 #[(0, .slice a n m), (1, .slice b k l), (3, .bool s)]).events Try.prog w es = es := ev_build w es _ _ _ _ Try.underlying31 (built29 a b a n m k l s)
def trW (w : World) (tb : Nat) (a b c d : Value) : World := (((w.setCell ⟨tb, 0, none⟩ a).setCell ⟨tb, 1, none⟩ b).setCell ⟨tb, 2, none⟩ c).setCell ⟨tb, 3, none⟩ d
structure TrAt (w : World) (tb : Nat) (a b c d : Value) : Prop where
  o : w.heap[tb]? = some (.cells #[a, b, c, d] 31 (0, 0))
section
variable {tb : Nat} {a b c d : Value}
theorem TrAt.at (h : TrAt w tb a b c d) (e : Nat) : TrAt (w.at e) tb a b c d := ⟨h.o⟩
theorem TrAt.c0 (h : TrAt w tb a b c d) : w.cell? ⟨tb, 0, none⟩ = some a := by simp [World.cell?, h.o]
theorem TrAt.c1 (h : TrAt w tb a b c d) : w.cell? ⟨tb, 1, none⟩ = some b := by simp [World.cell?, h.o]
theorem TrAt.c2 (h : TrAt w tb a b c d) : w.cell? ⟨tb, 2, none⟩ = some c := by simp [World.cell?, h.o]
theorem TrAt.c3 (h : TrAt w tb a b c d) : w.cell? ⟨tb, 3, none⟩ = some d := by simp [World.cell?, h.o]
theorem TrAt.z (h : TrAt w tb a b c d) (k : Nat) : w.frozen? ⟨tb, k, none⟩ = false := by simp [World.frozen?, h.o]
theorem TrAt.put (h : TrAt w tb a b c d) (a' b' c' d' : Value) : TrAt (trW w tb a' b' c' d') tb a' b' c' d' := by
  constructor
  unfold trW
  rw [heap_setCell_eq (heap_setCell_eq (heap_setCell_eq (heap_setCell_eq h.o _) _) _) _]
  rfl
end
noncomputable def opBody : Code := Try.f47.body.getD .skip
noncomputable def ops0 : Code := Code.piece [] opBody
noncomputable def opr0 : Code := Code.piece [true] opBody
noncomputable def opo0 : Array Oper := Code.opsOf opr0
noncomputable def ops1 : Code := Code.piece [false] opBody
noncomputable def opr1 : Code := Code.piece [false, true] opBody
noncomputable def opo1 : Array Oper := Code.opsOf opr1
noncomputable def ops2 : Code := Code.piece [false, false] opBody
noncomputable def opr2 : Code := Code.piece [false, false, true] opBody
noncomputable def opo2 : Array Oper := Code.opsOf opr2
noncomputable def ops3 : Code := Code.piece [false, false, false] opBody
noncomputable def opr3 : Code := Code.piece [false, false, false, true] opBody
noncomputable def opo3 : Array Oper := Code.opsOf opr3
theorem ops0_eq : ops0 = .seq opr0 ops1 := by kernel_rfl
theorem opr0_eq : opr0 = .region 0 opo0 false := by kernel_rfl
theorem ops1_eq : ops1 = .seq opr1 ops2 := by kernel_rfl
theorem opr1_eq : opr1 = .region 1 opo1 false := by kernel_rfl
theorem ops2_eq : ops2 = .seq opr2 ops3 := by kernel_rfl
theorem opr2_eq : opr2 = .region 2 opo2 false := by kernel_rfl
theorem ops3_eq : ops3 = .seq opr3 .ret := by kernel_rfl
theorem opr3_eq : opr3 = .region 3 opo3 false := by kernel_rfl
theorem enter_op (args : Array Value) : Frame.enter Try.prog 47 args .normal = (Go.Conc.base 47).at { tmps := args ++ Array.replicate (32 - args.size) undef, defers := [] } [.code ops0] := enter_at args Try.func47 rfl
theorem callable47 : Callable 47 := callable Try.func47 rfl rfl
def opT (s : Nat → Value) : Array Value := #[s 0, s 1, s 2, s 3, s 4, s 5, s 6, s 7, s 8, s 9, s 10, s 11, s 12, s 13, s 14, s 15, s 16, s 17, s 18, s 19, s 20, s 21, s 22, s 23, s 24, s 25, s 26, s 27, s 28, s 29, s 30, s 31]
theorem opT_of {A : Array Value} (h : A.size = 32) : ∃ s, A = opT s := by
  obtain ⟨s, hs, _⟩ := arr_lit A h
  exact ⟨s, hs⟩
set_option maxRecDepth 100000 in
set_option maxHeartbeats 2000000 in
theorem op_0 {n : Nat} (hU : Under F n) (hn : n ≤ w.heap.size) {ta sa : Option Addr} {tl tc sl sc : Nat} {dv : Value} {mo : Int} {cs : List Frame} {main : Bool} {Stop : Goroutine → World → Prop}
    (h : ∀ A, Slots 32 A [(0, .slice ta tl tc), (1, dv), (2, .slice sa sl sc), (3, .int .i64 mo), (8, .pointer (some ⟨w.heap.size, 0, none⟩))] → Own Try.prog main F Stop (G (Frame.enter Try.prog 81 #[.slice ta tl tc, dv] .normal) (((Go.Conc.base 47).at ⟨A, []⟩ [.inRegion opo1 [2, 3, 4, 5, 6, 7], .code ops2]) :: cs)) (w.alloc (.cells #[.slice none 0 0, .slice none 0 0, .slice none 0 0, .bool false] 31))) :
    Own Try.prog main F Stop (G (Frame.enter Try.prog 47 #[.slice ta tl tc, dv, .slice sa sl sc, .int .i64 mo] .normal) cs) w := by
  rw [enter_op]
  walk_nrm
  rw [ops0_eq]
  refine ogS ?_
  rw [opr0_eq]
  refine ogR ?_
  simp only [opo0, Code.opsOf, opr0, Code.piece, opBody, Try.f47, Option.getD_some, List.size_toArray, List.length_cons, List.length_nil, Nat.reduceAdd, Nat.zero_add, List.range, List.range.loop]
  (refine oW fun dd K hK => ?_; go_simp; refine qA hK hU ?_; clear hK K)
  refine ogE ?_
  rw [ops1_eq]
  refine ogS ?_
  rw [opr1_eq]
  refine ogR ?_
  simp only [opo1, Code.opsOf, opr1, Code.piece, opBody, Try.f47, Option.getD_some, List.size_toArray, List.length_cons, List.length_nil, Nat.reduceAdd, Nat.zero_add, List.range, List.range.loop]
  (refine oW fun dd K hK => ?_; go_simp; refine qT hK ?_; clear hK K)
  (refine oW fun dd K hK => ?_; go_simp; refine qT hK ?_; clear hK K)
  refine oc callable81 #[.slice ta tl tc, dv] ?_
  refine h _ ?_
  exact ⟨rfl, rfl, rfl, rfl, rfl, rfl, trivial⟩
set_option maxRecDepth 100000 in
set_option maxHeartbeats 2000000 in
theorem op_1 {ta sa : Option Addr} {tl tc sl sc tb : Nat} {dv l an : Value} {mo : Int} {A : Array Value} (hA : Slots 32 A [(0, .slice ta tl tc), (1, dv), (2, .slice sa sl sc), (3, .int .i64 mo), (8, .pointer (some ⟨tb, 0, none⟩))]) {cs : List Frame} {main : Bool} {Stop : Goroutine → World → Prop}
    (h : ∀ A, Slots 32 A [(8, .pointer (some ⟨tb, 0, none⟩)), (10, an)] → Own Try.prog main F Stop (G (Frame.enter Try.prog 82 #[l, .slice sa sl sc, .int .i64 mo] .normal) (((Go.Conc.base 47).at ⟨A, []⟩ [.inRegion opo2 [3, 4, 5, 6, 7, 8, 9, 10], .code ops3]) :: cs)) w) :
    Own Try.prog main F Stop (G (((Go.Conc.base 47).at ⟨A, []⟩ [.inRegion opo1 [2, 3, 4, 5, 6, 7], .code ops2]).finish (.tuple #[l, an])) cs) w := by
  obtain ⟨hsz, h0, h1, h2, h3, h8, _⟩ := hA
  obtain ⟨s, rfl⟩ := opT_of hsz
  change s 0 = _ at h0
  change s 1 = _ at h1
  change s 2 = _ at h2
  change s 3 = _ at h3
  change s 8 = _ at h8
  clear hsz
  simp only [opT, h0, h1, h2, h3, h8]
  clear h0 h1 h2 h3 h8
  rw [Frame.finish_at]
  simp only [opo1, Code.opsOf, opr1, Code.piece, opBody, Try.f47, Option.getD_some, List.size_toArray, List.length_cons, List.length_nil, Nat.reduceAdd, Nat.zero_add, List.range, List.range.loop]
  walk_nrm
  (refine oW fun dd K hK => ?_; go_simp; refine qT hK ?_; clear hK K)
  (refine oW fun dd K hK => ?_; go_simp; refine qT hK ?_; clear hK K)
  (refine oW fun dd K hK => ?_; go_simp; refine qT hK ?_; clear hK K)
  (refine oW fun dd K hK => ?_; go_simp; refine qT hK ?_; clear hK K)
  (refine oW fun dd K hK => ?_; go_simp; refine qT hK ?_; clear hK K)
  refine ogE ?_
  rw [ops2_eq]
  refine ogS ?_
  rw [opr2_eq]
  refine ogR ?_
  simp only [opo2, Code.opsOf, opr2, Code.piece, opBody, Try.f47, Option.getD_some, List.size_toArray, List.length_cons, List.length_nil, Nat.reduceAdd, Nat.zero_add, List.range, List.range.loop]
  (refine oW fun dd K hK => ?_; go_simp; refine qT hK ?_; clear hK K)
  (refine oW fun dd K hK => ?_; go_simp; refine qT hK ?_; clear hK K)
  (refine oW fun dd K hK => ?_; go_simp; refine qT hK ?_; clear hK K)
  refine oc callable82 #[l, .slice sa sl sc, .int .i64 mo] ?_
  refine h _ ?_
  exact ⟨rfl, rfl, rfl, trivial⟩
set_option maxRecDepth 100000 in
set_option maxHeartbeats 2000000 in
theorem op_2 {tb : Nat} {x0 x1 x2 x3 : Value} (hT : TrAt w tb x0 x1 x2 x3) (hnh : ∀ k, ¬ held F ⟨tb, k, none⟩) {aa oa : Option Addr} {al ac ol oc : Nat} {st : Bool} {bv : Value} {A : Array Value} (hA : Slots 32 A [(8, .pointer (some ⟨tb, 0, none⟩)), (10, .slice aa al ac)]) {c : Frame} {cs : List Frame} {main : Bool} {Stop : Goroutine → World → Prop}
    (h : Own Try.prog main F Stop (G (c.finish (.agg #[.slice aa al ac, .slice oa ol oc, .slice none 0 0, .bool st])) cs) (trW w tb (.slice aa al ac) (.slice oa ol oc) (.slice none 0 0) (.bool st))) :
    Own Try.prog main F Stop (G (((Go.Conc.base 47).at ⟨A, []⟩ [.inRegion opo2 [3, 4, 5, 6, 7, 8, 9, 10], .code ops3]).finish (.tuple #[.slice oa ol oc, .bool st, bv])) (c :: cs)) w := by
  obtain ⟨hsz, h8, h10, _⟩ := hA
  obtain ⟨s, rfl⟩ := opT_of hsz
  change s 8 = _ at h8
  change s 10 = _ at h10
  clear hsz
  simp only [opT, h8, h10]
  clear h8 h10
  rw [Frame.finish_at]
  simp only [opo2, Code.opsOf, opr2, Code.piece, opBody, Try.f47, Option.getD_some, List.size_toArray, List.length_cons, List.length_nil, Nat.reduceAdd, Nat.zero_add, List.range, List.range.loop]
  walk_nrm
  (refine oW fun dd K hK => ?_; go_simp; refine qT hK ?_; clear hK K)
  (refine oW fun dd K hK => ?_; go_simp; refine qT hK ?_; clear hK K)
  (refine oW fun dd K hK => ?_; go_simp; refine qT hK ?_; clear hK K)
  (refine oW fun dd K hK => ?_; go_simp; refine qT hK ?_; clear hK K)
  (refine oW fun dd K hK => ?_; go_simp; refine qT hK ?_; clear hK K)
  (refine oW fun dd K hK => ?_; go_simp; refine qT hK ?_; clear hK K)
  (refine oW fun dd K hK => ?_; go_simp; refine qT hK ?_; clear hK K)
  refine ogE ?_
  rw [ops3_eq]
  refine ogS ?_
  rw [opr3_eq]
  refine ogR ?_
  simp only [opo3, Code.opsOf, opr3, Code.piece, opBody, Try.f47, Option.getD_some, List.size_toArray, List.length_cons, List.length_nil, Nat.reduceAdd, Nat.zero_add, List.range, List.range.loop]
  (refine oW fun dd K hK => ?_; go_simp; refine qT hK ?_; clear hK K)
  (refine oW fun dd K hK => ?_; go_simp; refine qT hK ?_; clear hK K)
  (refine oW fun dd K hK => ?_; go_simp; refine qT hK ?_; clear hK K)
  (refine oW fun dd K hK => ?_; go_simp; refine qT hK ?_; clear hK K)
  (refine oW fun dd K hK => ?_; have hc0 := (hT.at dd).c0; have hc1 := (hT.at dd).c1; have hc2 := (hT.at dd).c2; have hc3 := (hT.at dd).c3; have hz0 := (hT.at dd).z; go_simp; refine hK _ _ ⟨⟨⟨0, grew4 (fun k => hnh k) _ _ _ _⟩, fun e he => by (have hm := mem_listed he; clear he hK; simp [go_sem, storedEv, hc0, hc1, hc2, hc3, hz0] at hm; rcases hm with rfl | rfl | rfl | rfl <;> exact evT_write _ _ ((fun k => hnh k) _))⟩, ?_⟩; clear hK K hc0 hc1 hc2 hc3 hz0; simp only [setCell_at']; refine Own.at ?_ dd)
  refine ogE ?_
  refine ogX ?_
  have hT2 := hT.put (.slice aa al ac) (.slice oa ol oc) (.slice none 0 0) (.bool st)
  change Own _ _ _ _ _ (trW w tb (.slice aa al ac) (.slice oa ol oc) (.slice none 0 0) (.bool st))
  generalize trW w tb (.slice aa al ac) (.slice oa ol oc) (.slice none 0 0) (.bool st) = W at hT2 h ⊢
  have hc0 := hT2.c0
  have hc1 := hT2.c1
  have hc2 := hT2.c2
  have hc3 := hT2.c3
  have hz0 := hT2.z
  refine own_leave (fn := Try.f47) (v := .agg #[.slice aa al ac, .slice oa ol oc, .slice none 0 0, .bool st]) rfl rfl Try.func47 (fun d => by simp [results, Try.f47, go_sem, hc0, hc1, hc2, hc3, hz0]) (fun d e he => by simp [results, Try.f47, go_sem, hc0, hc1, hc2, hc3, hz0] at he; rcases he with rfl | rfl | rfl | rfl <;> exact evT_read _ _) ?_
  exact h
end Go.Proofs.Ytlcgkpapnpdfpaa
namespace Go.Proofs.Ytlcgkpapnpdfpaa
open Go Go.Conc Go.RowKit Go.Proofs
variable {w w' : World} {L : Lay}
open Classical in
noncomputable def IW (w : World) (N : Nat → Prop) : Nat → Option Obj := fun r => if N r then none else match w.heap[r]? with
  | some (.cells c e z) => some (.cells c e z)
  | _ => none
theorem iw_mem {N : Nat → Prop} {r : Nat} (h : N r) : IW w N r = none := if_pos h
theorem iw_cells {N : Nat → Prop} {r : Nat} {c : Array Value} {e : TypeId} {z : Nat × Nat} (h : ¬ N r) (ho : w.heap[r]? = some (.cells c e z)) : IW w N r = some (.cells c e z) := by
  unfold IW
  rw [if_neg h, ho]
theorem iw_some {N : Nat → Prop} {r : Nat} {o : Obj} (h : IW w N r = some o) : ¬ N r ∧ w.heap[r]? = some o ∧ ∃ c e z, o = .cells c e z := by
  unfold IW at h
  split at h
  · cases h
  · rename_i hm
    split at h
    · rename_i c e z ho
      cases h
      exact ⟨hm, ho, c, e, z, rfl⟩
    · cases h
theorem madeCells_nil (n j : Nat) (h : j < n) : (madeCells #[Value.slice none 0 0] n)[j]? = some (.slice none 0 0) := by
  simp [madeCells, h, Nat.mod_one]
theorem madeCells_size (n : Nat) (v : Value) : (madeCells #[v] n).size = n := by
  simp [madeCells]
def x00 (s0 : L.S) : OX L := ⟨s0, fun _ => ⟨0, none, [], .slice none 0 0⟩⟩
theorem tr00 {r : Nat} : ¬ TR (⟨0, none, [], .slice none 0 0⟩ : Thr L) r := by
  rintro (h | ⟨a, ha, _⟩ | ⟨c, A, ab, h, _⟩)
  · cases h
  · cases ha
  · cases h
noncomputable def pOf (L : Lay) (s0 : L.S) (W : World) (n db aa av : Nat) (ib ob : Nat → Nat) (oa : Nat → Option Addr) (oc : Nat → Nat) (ops : Nat → List Op4) : Par :=
  ⟨n, aa, av, db, ib, ob, ops, oa, oc, IW W (fun r => r = aa ∨ L.SR s0 r)⟩
theorem pof_cells {s0 : L.S} {W : World} {n db aa av : Nat} {ib ob : Nat → Nat} {oa : Nat → Option Addr} {oc : Nat → Nat} {ops : Nat → List Op4} {r : Nat} {c : Array Value} {e : TypeId} {z : Nat × Nat} (h : ¬ (r = aa ∨ L.SR s0 r)) (ho : W.heap[r]? = some (.cells c e z)) : (pOf L s0 W n db aa av ib ob oa oc ops).I r = some (.cells c e z) := by
  exact iw_cells (w := W) (N := fun r => r = aa ∨ L.SR s0 r) h ho
theorem pof_some {s0 : L.S} {W : World} {n db aa av : Nat} {ib ob : Nat → Nat} {oa : Nat → Option Addr} {oc : Nat → Nat} {ops : Nat → List Op4} {r : Nat} {o : Obj} (h : (pOf L s0 W n db aa av ib ob oa oc ops).I r = some o) : ¬ (r = aa ∨ L.SR s0 r) ∧ W.heap[r]? = some o ∧ ∃ c e z, o = .cells c e z := by
  exact iw_some (w := W) (N := fun r => r = aa ∨ L.SR s0 r) h
theorem pof_mem {s0 : L.S} {W : World} {n db aa av : Nat} {ib ob : Nat → Nat} {oa : Nat → Option Addr} {oc : Nat → Nat} {ops : Nat → List Op4} {r : Nat} (h : r = aa ∨ L.SR s0 r) : (pOf L s0 W n db aa av ib ob oa oc ops).I r = none := by
  exact iw_mem (w := W) (N := fun r => r = aa ∨ L.SR s0 r) h
section
variable {s0 : L.S} {W w0 : World} {n db aa av tb o tl : Nat} {ib ob : Nat → Nat} {oa : Nat → Option Addr} {ol oc m : Nat → Nat} {ops : Nat → List Op4} {ta sa : Option Addr} {S : List Int} {l : Value}
theorem di_type {dv : Value} (hL : L.Ok) (hsu : L.SU s0 w0) (hD : DI w0 n n db aa av dv oa m oc ib ob l W) {r : Nat} {c : Array Value} {e : TypeId} {z : Nat × Nat} (ho : W.heap[r]? = some (.cells c e z)) (h84 : e ≠ 42) (hr : w0.heap.size ≤ r) : ¬ (r = aa ∨ L.SR s0 r) := by
  rintro (rfl | h)
  · rw [hD.haa] at ho
    cases ho
    exact h84 rfl
  · have := hL.lS _ _ _ hsu h
    omega
theorem pof_ok (hL : L.Ok) (hsu : L.SU s0 w0) (hI : OpsIn w0 (L.SR s0) n tb o tl ta oa ol oc ops S sa) (hD : DI w0 n n db aa av (.func (.func L.df) L.first L.capt) oa (fun j => (ops j).length) oc ib ob l W) : (pOf L s0 W n db aa av ib ob oa oc ops).Ok L where
  cells := fun r o h => (pof_some h).2.2
  len := fun i hi => by
    have : (ops i).length = min (ol i) 65536 := hI.hlen i hi
    show (ops i).length ≤ 65536
    omega
  inI := ⟨by
    show (pOf L s0 W n db aa av ib ob oa oc ops).I av ≠ none
    rw [pof_cells (di_type hL hsu hD hD.hav (by decide) hD.new.2.2) hD.hav]; simp, fun i hi => by
    show (pOf L s0 W n db aa av ib ob oa oc ops).I (ib i) ≠ none
    rw [pof_cells (di_type hL hsu hD (hD.hib i hi) (by decide) (hD.lo i hi).1) (hD.hib i hi)]; simp⟩
  av := fun u hu => ⟨⟨_, _, hu _ _ (pof_cells (di_type hL hsu hD hD.hav (by decide) hD.new.2.2) hD.hav), rfl⟩, rfl⟩
  db := fun u hu => ⟨⟨_, _, hu _ _ (pof_cells (di_type hL hsu hD hD.hdb (by decide) hD.new.1) hD.hdb), rfl⟩, rfl⟩
  ib := fun u hu i hi => ⟨⟨_, _, hu _ _ (pof_cells (di_type hL hsu hD (hD.hib i hi) (by decide) (hD.lo i hi).1) (hD.hib i hi)), rfl⟩, rfl⟩
  ob := fun u hu i hi => ⟨⟨_, _, hu _ _ (pof_cells (di_type hL hsu hD (hD.hob i hi) (by decide) (hD.lo i hi).2) (hD.hob i hi)), rfl⟩, rfl⟩
  op := fun u hu i hi k x hx => by
    obtain ⟨opb, oo, h1, h2, f0, f1, f2, f3, g0, g1, g2, g3⟩ := hI.hop i hi k x hx
    obtain ⟨c, e, z, ho⟩ := cell_block f0
    simp only at ho
    have hlt := (Array.getElem?_eq_some_iff.1 ho).1
    have hW := (hD.old opb hlt).trans ho
    have hN : ¬ (opb = aa ∨ L.SR s0 opb) := by
      rintro (h | h)
      · have := hD.new.2.1; omega
      · exact h2 h
    have hU := hu _ _ (pof_cells hN hW)
    have e1 : u.heap[opb]? = w0.heap[opb]? := hU.trans ho.symm
    have ec : ∀ k, u.cell? ⟨opb, k, none⟩ = w0.cell? ⟨opb, k, none⟩ := fun k => by unfold World.cell?; simp only [e1]
    have ez : ∀ k, u.frozen? ⟨opb, k, none⟩ = w0.frozen? ⟨opb, k, none⟩ := fun k => by unfold World.frozen?; simp only [e1]
    exact ⟨opb, oo, h1, (ec _).trans f0, (ec _).trans f1, (ec _).trans f2, (ec _).trans f3, (ez _).trans g0, (ez _).trans g1, (ez _).trans g2, (ez _).trans g3⟩
theorem ou_first {g : Gate} (hL : L.Ok) (hsu : L.SU s0 w0) (hD : DI w0 n n db aa av (.func (.func L.df) L.first L.capt) oa (fun j => (ops j).length) oc ib ob l W) : OU L (pOf L s0 W n db aa av ib ob oa oc ops) g (x00 s0) W where
  fix := fun r o h => (pof_some h).2.1
  su := hL.sS _ _ _ hsu hD.size fun r hr => hD.old r (hL.lS _ _ _ hsu hr)
  arr := ⟨_, hD.haa, madeCells_size _ _, fun i hi => madeCells_nil _ _ hi⟩
  thr := fun i hi => ⟨World.ownsRow_nil _ _ _ _, fun a ha => (by cases ha), rfl, Nat.zero_le _, fun a ha => (by cases ha), fun c A ab h => (by cases h)⟩
  ts := fun i hi r hr => absurd hr tr00
  sa := fun h => by
    have := hL.lS _ _ _ hsu h
    have h2 := hD.new.2.1
    show False
    have h3 : (pOf L s0 W n db aa av ib ob oa oc ops).aa = aa := rfl
    omega
  jj := fun i hi c A ab h => (by cases h)
  tt := fun i j hi hj hne r hr => absurd hr tr00
  inone := by
    rintro r (h | h | ⟨i, hi, h⟩)
    · exact pof_mem (.inr h)
    · exact pof_mem (.inl h)
    · exact absurd h tr00
end
end Go.Proofs.Ytlcgkpapnpdfpaa
namespace Go.Proofs.Ytlcgkpapnpdfpaa
open Go Go.Conc Go.RowKit Go.Proofs
variable {An : Anchor} {w w' : World} {L : Lay}
theorem OpsIn.alloc {N : Nat → Prop} {n tb o tl : Nat} {ta : Option Addr} {oa : Nat → Option Addr} {ol oc : Nat → Nat} {ops : Nat → List Op4} {S : List Int} {sa : Option Addr} (h : OpsIn w N n tb o tl ta oa ol oc ops S sa) (ob : Obj) : OpsIn (w.alloc ob) N n tb o tl ta oa ol oc ops S sa := by
  refine ⟨h.hn, h.hta, fun hp => by have := h.htb hp; simp; omega, fun j hj => ?_, h.hlen, fun j hj k x hx => ?_, h.hsl, fun hp => ?_⟩
  · obtain ⟨h1, h2, h3⟩ := h.hth j hj
    exact ⟨(cellB_alloc h1 ob).1, (cellB_alloc h1 ob).2.trans h2, h3⟩
  · obtain ⟨opb, oo, h1, h2, f0, f1, f2, f3, g0, g1, g2, g3⟩ := h.hop j hj k x hx
    exact ⟨opb, oo, h1, h2, (cellB_alloc f0 ob).1, (cellB_alloc f1 ob).1, (cellB_alloc f2 ob).1, (cellB_alloc f3 ob).1, (cellB_alloc f0 ob).2.trans g0, (cellB_alloc f1 ob).2.trans g1, (cellB_alloc f2 ob).2.trans g2, (cellB_alloc f3 ob).2.trans g3⟩
  · obtain ⟨sb, so, c, e, z, h1, h2, h3, h4⟩ := h.hS hp
    exact ⟨sb, so, c, e, z, h1, h2, (heap_alloc_lt _ _ (Array.getElem?_eq_some_iff.1 h3).1).trans h3, h4⟩
def Par.re (p : Par) (I : Nat → Option Obj) : Par := ⟨p.n, p.aa, p.av, p.db, p.ib, p.ob, p.ops, p.oa, p.oc, I⟩
theorem ThrU.re {p : Par} {I : Nat → Option Obj} {st i : Nat} {t : Thr L} (h : ThrU L p st i t w) : ThrU L (p.re I) st i t w := ⟨h.row, h.au, h.al, h.kl, h.ar, h.call⟩
theorem OU.re {p : Par} {g : Gate} {x : OX L} (h : OU L p g x w) {I : Nat → Option Obj} (hI : ∀ r o, I r = some o → p.I r = some o) : OU L (p.re I) g x w :=
  ⟨fun r o e => h.fix r o (hI r o e), h.su, h.arr, fun i hi => (h.thr i hi).re, h.ts, h.sa, h.jj, h.tt, fun r hr => by
    cases e : I r with
    | none => exact e
    | some o =>
      have := h.inone r hr
      rw [hI r o e] at this
      cases this⟩
theorem bes_ops (hL : L.Ok) {s0 : L.S} (hsu : L.SU s0 w) {n tb o tl tc sc M : Nat} {mo : Int} {ta sa : Option Addr} {oa : Nat → Option Addr} {ol oc : Nat → Nat} {ops : Nat → List Op4} {S : List Int} (hI : OpsIn w (L.SR s0) n tb o tl ta oa ol oc ops S sa) (hM : min (max mo 0) 1048576 = (M : Int)) {c : Frame} {cs : List Frame} {Stop : Goroutine → World → Prop}
    (hk : ∀ (g : Gate) (p p' : Par) (t : OX L × List Nat) (w' : World) (oa' : Option Addr) (oc' : Nat), g.n = n → p.n = n → p.ops = ops → (opsUsers L p g).Ok g → OverRel (opsUsers L p g) n M S (x00 s0) t → p'.n = n → p'.ops = ops → p'.aa = p.aa → OU L p' g t.1 w' →
      w'.ownsRow w.heap.size 3 1 (.slice oa' t.2.length oc') t.2.length (t.2.map fun i : Nat => Value.int .i64 i) → (∀ y, oa' = some y → ¬ OR L p' t.1 y.block) → w.heap.size ≤ w'.heap.size → (∀ r c e z, w.heap[r]? = some (.cells c e z) → ¬ L.SR s0 r → w'.heap[r]? = some (.cells c e z)) →
      Bes An Try.prog Stop (G (c.finish (.agg #[.slice (some ⟨p.aa, 0, none⟩) n n, .slice oa' t.2.length oc', .slice none 0 0, .bool (decide (0 < cnt ((opsUsers L p g).liv t.1) n))])) cs) w') :
    Bes An Try.prog Stop (G (Frame.enter Try.prog 47 #[.slice ta tl tc, .func (.func L.df) L.first L.capt, .slice sa S.length sc, .int .i64 mo] .normal) (c :: cs)) w := by
  have hw0 : ∀ r, r < w.heap.size → (w.alloc (.cells #[.slice none 0 0, .slice none 0 0, .slice none 0 0, .bool false] 31)).heap[r]? = w.heap[r]? := fun r hr => heap_alloc_lt _ _ hr
  have hs0 : (w.alloc (.cells #[.slice none 0 0, .slice none 0 0, .slice none 0 0, .bool false] 31)).heap.size = w.heap.size + 1 := by simp
  have htr : TrAt (w.alloc (.cells #[.slice none 0 0, .slice none 0 0, .slice none 0 0, .bool false] 31)) w.heap.size (.slice none 0 0) (.slice none 0 0) (.slice none 0 0) (.bool false) := ⟨heap_alloc_new _ _⟩
  have hI0 := hI.alloc (.cells #[.slice none 0 0, .slice none 0 0, .slice none 0 0, .bool false] 31)
  refine bes_own (F := F0) (Stop := fun a u => ∃ A l ib ob db aa av, a = G (Frame.enter Try.prog 82 #[l, .slice sa S.length sc, .int .i64 mo] .normal) (((Go.Conc.base 47).at ⟨A, []⟩ [.inRegion opo2 [3, 4, 5, 6, 7, 8, 9, 10], .code ops3]) :: c :: cs) ∧
      DI (w.alloc (.cells #[.slice none 0 0, .slice none 0 0, .slice none 0 0, .bool false] 31)) n n db aa av (.func (.func L.df) L.first L.capt) oa (fun j => (ops j).length) oc ib ob l u ∧ Slots 32 A [(8, .pointer (some ⟨w.heap.size, 0, none⟩)), (10, .slice (some ⟨aa, 0, none⟩) n n)])
    (op_0 under_F0 (Nat.zero_le _) fun A hA => own_doing hI0.hn hI0.htb (fun j hj => ⟨(hI0.hth j hj).1, (hI0.hth j hj).2.1, (hI0.hth j hj).2.2, (hI0.hlen j hj).symm⟩) hI0.hta fun w1 l ib ob db aa av hD => op_1 hA fun A2 hA2 => .stop fun d => ⟨A2, l, ib, ob, db, aa, av, rfl, hD.same (Nat.le_refl _) fun _ _ => rfl, hA2⟩) fun a W hS => ?_
  obtain ⟨A, l, ib, ob, db, aa, av, rfl, hD, hA⟩ := hS
  generalize w.alloc (.cells #[.slice none 0 0, .slice none 0 0, .slice none 0 0, .bool false] 31) = w0 at hw0 hs0 htr hI0 hD
  have hsu0 : L.SU s0 w0 := hL.sS _ _ _ hsu (by omega) fun r hr => hw0 r (hL.lS _ _ _ hsu hr)
  have hpok := pof_ok hL hsu0 hI0 hD
  have hn64 : n ≤ 64 := by have := hI.hn; omega
  have hU1 : ∀ g, OU L (pOf L s0 W n db aa av ib ob oa oc ops) g (x00 s0) W := fun g => ou_first hL hsu0 hD
  have hsrlt : ∀ r, L.SR s0 r → r < w.heap.size := fun r hr => hL.lS _ _ _ hsu hr
  have hDs := hD.size
  have hDn := hD.new
  obtain ⟨la, lc, rfl, hla⟩ : ∃ la lc, l = .slice la n lc ∧ (0 < n → ∃ lb cur, la = some ⟨lb, 0, none⟩ ∧ w0.heap.size ≤ lb ∧ W.heap[lb]? = some (.cells cur 112 (0, 0)) ∧ cur.toList.take n = (List.range n).map fun j => cl68 (ob j) db (ib j) av) := by
    rcases hD.row.2 with ⟨h1, h2⟩ | ⟨b, cap, cur, h1, h2, h3, h4, h5, h6, h7⟩
    · exact ⟨none, 0, by rw [h1, h2], fun h => by omega⟩
    · exact ⟨_, cap, h1, fun _ => ⟨b, cur, rfl, h2, h3, by simpa using h7⟩⟩
  have hnm : ∀ r c e z, W.heap[r]? = some (.cells c e z) → e ≠ 42 → ¬ L.SR s0 r → (pOf L s0 W n db aa av ib ob oa oc ops).I r = some (.cells c e z) := fun r c e z h1 h2 h3 => pof_cells (by
    rintro (rfl | h)
    · rw [hD.haa] at h1
      cases h1
      exact h2 rfl
    · exact h3 h) h1
  have hnA : ∀ r c e z, W.heap[r]? = some (.cells c e z) → r ≠ aa → ¬ L.SR s0 r → (pOf L s0 W n db aa av ib ob oa oc ops).I r = some (.cells c e z) := fun r c e z h1 h2 h3 => pof_cells (fun h => h.elim h2 h3) h1
  have hnewS : ∀ r, w0.heap.size ≤ r → ¬ L.SR s0 r := fun r hr h => by have := hsrlt r h; omega
  have hthr : ∃ lb, (0 < n → la = some ⟨lb, 0, none⟩) ∧ ∀ g : Gate, RowIs (opsUsers L (pOf L s0 W n db aa av ib ob oa oc ops) g) lb 0 ((List.range n).map fun j => .func (.func 99) #[] ((opsUsers L (pOf L s0 W n db aa av ib ob oa oc ops) g).cap j)) := by
    by_cases h0 : 0 < n
    · obtain ⟨lb, cur, h1, h2, h3, h4⟩ := hla h0
      refine ⟨lb, fun _ => h1, fun g => ⟨cur, 112, (0, 0), hnm lb _ _ _ h3 (by decide) (hnewS lb h2), fun k u hku => ⟨?_, by simp⟩⟩⟩
      have hku : ((List.range n).map fun j => cl68 (ob j) db (ib j) av)[k]? = some u := hku
      rw [← h4] at hku
      have hkn : k < n := by
        have := (List.getElem?_eq_some_iff.1 hku).1
        rw [List.length_take] at this
        omega
      rw [List.getElem?_take_of_lt hkn] at hku
      simpa using hku
    · refine ⟨av, fun h => absurd h h0, fun g => ⟨_, _, _, hnm av _ _ _ hD.hav (by decide) (hnewS av hDn.2.2), fun k u hku => ?_⟩⟩
      have : n = 0 := by omega
      rw [this] at hku
      simp at hku
  obtain ⟨lb, hlb, hrow⟩ := hthr
  have hsch : ∃ sb so, (0 < S.length → sa = some ⟨sb, so, none⟩) ∧ ∀ g : Gate, RowIs (opsUsers L (pOf L s0 W n db aa av ib ob oa oc ops) g) sb so (S.map fun i : Int => Value.int .i64 i) := by
    by_cases h0 : 0 < S.length
    · obtain ⟨sb, so, cc, e, z, h1, h2, h3, h4⟩ := hI0.hS h0
      have hlt := (Array.getElem?_eq_some_iff.1 h3).1
      refine ⟨sb, so, fun _ => h1, fun g => ⟨cc, e, z, hnA sb _ _ _ ((hD.old sb hlt).trans h3) (by omega) h2, h4⟩⟩
    · refine ⟨av, 0, fun h => absurd h h0, fun g => ⟨_, _, _, hnm av _ _ _ hD.hav (by decide) (hnewS av hDn.2.2), fun k u hku => ?_⟩⟩
      have : S = [] := List.length_eq_zero_iff.1 (by omega)
      rw [this] at hku
      simp at hku
  obtain ⟨sb, so, hsb, hsrow⟩ := hsch
  have htrI : (pOf L s0 W n db aa av ib ob oa oc ops).I w.heap.size = some (.cells #[.slice none 0 0, .slice none 0 0, .slice none 0 0, .bool false] 31 (0, 0)) :=
    hnm _ _ _ _ ((hD.old _ (by omega)).trans htr.o) (by decide) fun h => by have := hsrlt _ h; omega
  refine bes_over (Z := fun g => opsUsers L (pOf L s0 W n db aa av ib ob oa oc ops) g) (x0 := fun g => x00 s0) (tb := lb) (so := so) (sb := sb) hn64 hM hI.hsl (fun g hg _ => ops_ok hL hpok hg) (fun g w2 _ h1 h2 => OU.stable hL (hU1 g) h1 fun r hr => ?_) (fun g hg j hj => ⟨rfl, rfl⟩) (fun g r hr => OU.low (g := g) hL (hU1 g) hr) (fun g r hr => ⟨fixed_lt (p := pOf L s0 W n db aa av ib ob oa oc ops) (hU1 g).fix hr, fun h => hr ((hU1 g).inone r h)⟩) hlb (fun g _ => hrow g) hsb (fun g _ => hsrow g) ?_
  · have hlt : r < W.heap.size := hr.elim (OU.low hL (hU1 g)) (fixed_lt (hU1 g).fix)
    rw [h2 r _ (Array.getElem?_eq_getElem hlt), Array.getElem?_eq_getElem hlt]
  · intro g t u oa' oc' bv hg hrel hU hord hnR hsz
    have hU : OU L (pOf L s0 W n db aa av ib ob oa oc ops) g t.1 u := hU
    have hT : TrAt u w.heap.size (.slice none 0 0) (.slice none 0 0) (.slice none 0 0) (.bool false) := ⟨hU.fix _ _ htrI⟩
    refine bes_own (F := F0) (Stop := fun a u2 => a = G (c.finish (.agg #[.slice (some ⟨aa, 0, none⟩) n n, .slice oa' t.2.length oc', .slice none 0 0, .bool (decide (0 < cnt ((opsUsers L (pOf L s0 W n db aa av ib ob oa oc ops) g).liv t.1) n))])) cs ∧ ∃ d, u2 = (trW u w.heap.size (.slice (some ⟨aa, 0, none⟩) n n) (.slice oa' t.2.length oc') (.slice none 0 0) (.bool (decide (0 < cnt ((opsUsers L (pOf L s0 W n db aa av ib ob oa oc ops) g).liv t.1) n)))).at d)
      (op_2 hT (fun k h => by obtain ⟨z, hz, _⟩ := h; cases hz) hA (.stop fun d => ⟨rfl, d, rfl⟩)) fun a u2 ⟨ha, d, hu2⟩ => ?_
    subst ha
    subst hu2
    have hne : ∀ r, r ≠ w.heap.size → ((trW u w.heap.size (.slice (some ⟨aa, 0, none⟩) n n) (.slice oa' t.2.length oc') (.slice none 0 0) (.bool (decide (0 < cnt ((opsUsers L (pOf L s0 W n db aa av ib ob oa oc ops) g).liv t.1) n)))).at d).heap[r]? = u.heap[r]? := fun r hr => by
      show (trW _ _ _ _ _ _).heap[r]? = _
      unfold trW
      rw [heap_setCell_ne _ _ _ hr, heap_setCell_ne _ _ _ hr, heap_setCell_ne _ _ _ hr, heap_setCell_ne _ _ _ hr]
    have hsz2 : ((trW u w.heap.size (.slice (some ⟨aa, 0, none⟩) n n) (.slice oa' t.2.length oc') (.slice none 0 0) (.bool (decide (0 < cnt ((opsUsers L (pOf L s0 W n db aa av ib ob oa oc ops) g).liv t.1) n)))).at d).heap.size = u.heap.size := by
      show (trW _ _ _ _ _ _).heap.size = _
      unfold trW
      simp
    generalize (trW u w.heap.size (.slice (some ⟨aa, 0, none⟩) n n) (.slice oa' t.2.length oc') (.slice none 0 0) (.bool (decide (0 < cnt ((opsUsers L (pOf L s0 W n db aa av ib ob oa oc ops) g).liv t.1) n)))).at d = V at hne hsz2 ⊢
    let I' : Nat → Option Obj := fun r => if r = w.heap.size then none else (pOf L s0 W n db aa av ib ob oa oc ops).I r
    have hI' : ∀ r o, I' r = some o → r ≠ w.heap.size ∧ (pOf L s0 W n db aa av ib ob oa oc ops).I r = some o := fun r o h => by
      by_cases e : r = w.heap.size
      · simp [I', e] at h
      · exact ⟨e, by simpa [I', e] using h⟩
    have htrR : ¬ OR L (pOf L s0 W n db aa av ib ob oa oc ops) t.1 w.heap.size := fun h => by
      have := hU.inone _ h
      rw [htrI] at this
      cases this
    have hU2 : OU L ((pOf L s0 W n db aa av ib ob oa oc ops).re I') g t.1 u := hU.re fun r o h => (hI' r o h).2
    refine hk g (pOf L s0 W n db aa av ib ob oa oc ops) ((pOf L s0 W n db aa av ib ob oa oc ops).re I') t V oa' oc' hg rfl rfl (ops_ok hL hpok hg) hrel rfl rfl rfl (hU2.stable hL (by omega) fun r hr => hne r ?_) ?_ hnR (by omega) fun r cc e z hr hnS => ?_
    · rintro rfl
      rcases hr with hr | hr
      · exact htrR hr
      · cases e : I' w.heap.size with
        | none => exact hr e
        | some o => exact (hI' _ _ e).1 rfl
    · refine ownsRow_mono_base (by omega) (ownsRow_same2 hord fun b hb hbn => hne b (by omega))
    · have hlt := (Array.getElem?_eq_some_iff.1 hr).1
      rw [hne r (by omega)]
      exact hU.fix _ _ (hnA r _ _ _ ((hD.old r (by omega)).trans ((hw0 r hlt).trans hr)) (by omega) hnS)
end Go.Proofs.Ytlcgkpapnpdfpaa
namespace Go.Proofs.Ytlcgkpapnpdfpaa
open Go Go.Conc Go.RowKit Go.Proofs
variable {w w' : World}
theorem cell_heap {b j : Nat} (hw : w'.heap[b]? = w.heap[b]?) : w'.cell? ⟨b, j, none⟩ = w.cell? ⟨b, j, none⟩ ∧ w'.frozen? ⟨b, j, none⟩ = w.frozen? ⟨b, j, none⟩ := by
  constructor
  · unfold World.cell?; simp only [hw]
  · unfold World.frozen?; simp only [hw]
theorem row_cells {base n size cap g : Nat} {e : TypeId} {xs : List Value} (h : w.ownsRow base e size (.slice (some ⟨g, 0, none⟩) n cap) n xs) : ∀ j u, xs[j]? = some u → w.cell? ((⟨g, 0, none⟩ : Addr).add j) = some u := by
  intro j u hj
  obtain ⟨b, c, e1, h1⟩ := row_get h hj
  cases e1
  have e1 : (⟨g, 0, none⟩ : Addr).add j = ⟨g, j, none⟩ := by
    unfold Addr.add
    split
    · subst_vars; rfl
    · simp
  rw [e1]
  exact h1.c
theorem run_append_fresh {P : Program} {w : World} (t ty e : TypeId) (i : TypeInfo) (z : Value) (size bytes : Nat) (ht : P.underlying t = some (.slice e)) (hi : P.info? e = some i) (hz : i.zero = some z)
    (hsize : i.size = size) (hby : i.bytes = bytes) (hzs : z.cells.size = size) (hsz : 0 < size)
    (v : Value) (n : Nat) (xs : List Value) (hown : w.ownsRow 0 e size v n xs)
    (a : Addr) (m c : Nat) (news : List Value) (hl : news.length = m * size) (hnews : ∀ j u, news[j]? = some u → w.cell? (a.add j) = some u) (h1 : ∀ u ∈ news, u.oneCell' = true)
    (h63 : n + m ≤ maxLen) (hbytes : (n + m) * bytes ≤ 140737488355328) :
    ∃ v' w', (Builtin.append_ #[t, t] ty #[v, .slice (some a) m c]).run P w = .ok v' w' ∧ w'.ownsRow 0 e size v' (n + m) (xs ++ news) ∧ w.grownBy w' v.ownBlock ∧ (v'.ownBlock = v.ownBlock ∨ ∃ g, v'.ownBlock = some g ∧ w.heap.size ≤ g) := by
  rcases hown.2 with ⟨rfl, rfl⟩ | ⟨g, cap, cur, rfl, h2, h3, h4, h5, h6, h7⟩
  · have hxs : xs = [] := List.eq_nil_of_length_eq_zero (by have := hown.1; simpa using this)
    subst hxs
    obtain ⟨v', w', hrun, r1, r2, _⟩ := run_append_own (P := P) w w.heap.size t ty e i z size bytes ht hi hz hsize hby hzs hsz (.slice none 0 0) 0 [] (World.ownsRow_nil w _ e size) a m c news hl hnews h1 h63 hbytes (Nat.le_refl _)
    refine ⟨v', w', hrun, ownsRow_mono_base (Nat.zero_le _) r1, r2, ?_⟩
    rcases r1.2 with ⟨rfl, _⟩ | ⟨g', cap', cur', rfl, h2, _⟩
    · exact .inl rfl
    · exact .inr ⟨g', rfl, h2⟩
  · by_cases hroom : n + m ≤ cap
    · obtain ⟨w', hr, r1, r2⟩ := run_append_own_spare (P := P) w 0 t ty e i size ht hi hsize g n cap xs hown a m c news hl hnews h1 hroom
      exact ⟨_, w', hr, r1, r2, .inl rfl⟩
    · obtain ⟨v', w', hrun, r1, r2⟩ := run_append_arg_grows (P := P) w t ty e i z size bytes ht hi hz hsize hby hzs hsz ⟨g, 0, none⟩ n cap xs hown.1 (row_cells hown) a m c news hl hnews (by omega) h63 hbytes
      refine ⟨v', w', hrun, ownsRow_mono_base (Nat.zero_le _) r1, ⟨r2.os, r2.tape, r2.output, r2.size, fun k hk _ => r2.block k hk (by simp)⟩, ?_⟩
      rcases r1.2 with ⟨rfl, h0⟩ | ⟨g', cap', cur', rfl, h2, _⟩
      · omega
      · exact .inr ⟨g', rfl, h2⟩
theorem step_append_fresh {P : Program} {ops : Array Oper} {o : Oper} {a : Act} {w : World} {K : Act → World → Prop} {Q : Exit → Act → World → Prop} {E : Prop}
    (hg : o.guard = none) (s x : Operand) (t : TypeId) (hop : o.op = Op.call { callee := Callee.builtin Builtin.append, args := #[s, x], argTypes := #[t, t] })
    (e : TypeId) (i : TypeInfo) (z : Value) (size bytes : Nat) (h1 : P.underlying t = some (.slice e)) (h2 : P.info? e = some i) (h3 : i.zero = some z) (h4 : i.size = size) (h5 : i.bytes = bytes) (h6 : z.cells.size = size) (h7 : 0 < size)
    (v : Value) (n : Nat) (olds : List Value) (hs : a.eval s = v) (hown : w.ownsRow 0 e size v n olds)
    (ad : Addr) (m c : Nat) (news : List Value) (hx : a.eval x = .slice (some ad) m c) (hn : news.length = m * size) (hc : ∀ j u, news[j]? = some u → w.cell? (ad.add j) = some u) (h1c : ∀ u ∈ news, u.oneCell' = true)
    (b1 : n + m ≤ maxLen) (b2 : (n + m) * bytes ≤ 140737488355328)
    (hK : ∀ v' w', w'.ownsRow 0 e size v' (n + m) (olds ++ news) → w.grownBy w' v.ownBlock → (v'.ownBlock = v.ownBlock ∨ ∃ g, v'.ownBlock = some g ∧ w.heap.size ≤ g) → K (a.put o.dst v') w') :
    if Region.wanted o (yielded ops a.tmps) = true then Oper.wp P o a w K Q else E := by
  have hw : Region.wanted o (yielded ops a.tmps) = true := by simp [Region.wanted, hg]
  rw [if_pos hw]
  obtain ⟨v', w', hrun, r1, r2, r3⟩ := run_append_fresh (P := P) (w := w) t o.type e i z size bytes h1 h2 h3 h4 h5 h6 h7 v n olds hown ad m c news hn hc h1c b1 b2
  unfold Oper.wp
  simp [execOp, hop, resolve, invoke, builtin, hs, hx, hrun, Result.andThen]
  exact hK v' w' r1 r2 r3
theorem wpList_append_fresh {P : Program} {ops : Array Oper} {rest : List Oper} {o : Oper} {a : Act} {w : World} {Q : Exit → Act → World → Prop} (hgd : o.guard = none) (s x : Operand) (t : TypeId)
    (ho : o.op = .call { callee := .builtin .append, args := #[s, x], argTypes := #[t, t] })
    (e : TypeId) (i : TypeInfo) (z : Value) (size bytes : Nat) (h1 : P.underlying t = some (.slice e)) (h2 : P.info? e = some i) (h3 : i.zero = some z) (h4 : i.size = size) (h5 : i.bytes = bytes) (h6 : z.cells.size = size) (h7 : 0 < size)
    (v : Value) (n : Nat) (olds : List Value) (hs : a.eval s = v) (hown : w.ownsRow 0 e size v n olds)
    (ad : Addr) (m c : Nat) (news : List Value) (hx : a.eval x = .slice (some ad) m c) (hn : news.length = m * size) (hc : ∀ j u, news[j]? = some u → w.cell? (ad.add j) = some u) (h1c : ∀ u ∈ news, u.oneCell' = true)
    (b1 : n + m ≤ maxLen) (b2 : (n + m) * bytes ≤ 140737488355328)
    (h : ∀ v' w', w'.ownsRow 0 e size v' (n + m) (olds ++ news) → w.grownBy w' v.ownBlock → (v'.ownBlock = v.ownBlock ∨ ∃ g, v'.ownBlock = some g ∧ w.heap.size ≤ g) → wpList P ops Q rest (a.put o.dst v') w') : wpList P ops Q (o :: rest) a w :=
  wpList_plain hgd fun _ hK => by
    obtain ⟨v', w', hrun, r1, r2, r3⟩ := run_append_fresh (P := P) (w := w) t o.type e i z size bytes h1 h2 h3 h4 h5 h6 h7 v n olds hown ad m c news hn hc h1c b1 b2
    unfold Oper.wp execOp
    simp only [ho, resolve, invoke, builtin, Sem.run_bind, Sem.run_pure, Result.andThen_ok, List.map_toArray, List.map_cons, List.map_nil, hs, hx, hrun]
    exact hK _ _ (h v' w' r1 r2 r3)
theorem infoOf {P : Program} {t : TypeId} {s b : Nat} (h : (P.info? t).map (fun i => (i.zero.map (·.cells.size), i.size, i.bytes)) = some (some s, s, b)) : ∃ i z, P.info? t = some i ∧ i.zero = some z ∧ i.size = s ∧ i.bytes = b ∧ z.cells.size = s := by
  obtain ⟨i, hi, h1⟩ := Option.map_eq_some_iff.1 h
  simp only [Prod.mk.injEq] at h1
  obtain ⟨z, hz, h2⟩ := Option.map_eq_some_iff.1 h1.1
  exact ⟨i, z, hi, hz, h1.2.1, h1.2.2, h2⟩
theorem infoA44 : ∃ i z, Try.prog.info? 44 = some i ∧ i.zero = some z ∧ i.size = 3 ∧ i.bytes = 40 ∧ z.cells.size = 3 := infoOf (by kernel_rfl)
theorem infoA4 : ∃ i z, Try.prog.info? 4 = some i ∧ i.zero = some z ∧ i.size = 1 ∧ i.bytes = 1 ∧ z.cells.size = 1 := infoOf (by kernel_rfl)
theorem infoA3 : ∃ i z, Try.prog.info? 3 = some i ∧ i.zero = some z ∧ i.size = 1 ∧ i.bytes = 8 ∧ z.cells.size = 1 := infoOf (by kernel_rfl)
theorem infoA2 : ∃ i z, Try.prog.info? 2 = some i ∧ i.zero = some z ∧ i.size = 1 ∧ i.bytes = 8 ∧ z.cells.size = 1 := infoOf (by kernel_rfl)
theorem infoA42 : ∃ i z, Try.prog.info? 42 = some i ∧ i.zero = some z ∧ i.size = 1 ∧ i.bytes = 24 ∧ z.cells.size = 1 := infoOf (by kernel_rfl)
theorem new_cells {X : World} {l : List Value} {e : TypeId} {z : Nat} (hz : X.heap.size = z) : ∀ (j : Nat) (u : Value), l[j]? = some u → (X.alloc (.cells l.toArray e)).cell? ((⟨z, 0, none⟩ : Addr).add j) = some u := by
  intro j u h
  subst hz
  have hb := heap_alloc_new X (.cells l.toArray e)
  have e1 : (⟨X.heap.size, 0, none⟩ : Addr).add j = ⟨X.heap.size, j, none⟩ := by
    unfold Addr.add
    split
    · subst_vars; rfl
    · simp
  rw [e1]
  simp only [World.cell?, hb]
  simpa using h
theorem own_slice {v : Value} {base n size : Nat} {e : TypeId} {xs : List Value} (h : w.ownsRow base e size v (n + 1) xs) : ∃ g cap, v = .slice (some ⟨g, 0, none⟩) (n + 1) cap := by
  rcases h.2 with ⟨_, h⟩ | ⟨g, cap, _, h, _⟩
  · omega
  · exact ⟨g, cap, h⟩
theorem grown_old {W w1 : World} {o : Obj} {row : Option Nat} (hg : (W.alloc o).grownBy w1 row) {r : Nat} (hr : r < W.heap.size) (hne : some r ≠ row) : w1.heap[r]? = W.heap[r]? :=
  (hg.block r (by simp; omega) hne).trans (heap_alloc_lt _ _ hr)
structure ValsAt (w wr : World) (ov : Value) (xs : List Int) : Prop where
  row : wr.ownsRow 0 2 1 ov xs.length (xs.map fun v => .int .i64 v)
  size : w.heap.size ≤ wr.heap.size
  old : ∀ r, r < w.heap.size → wr.heap[r]? = w.heap[r]?
  new : ∀ g, ov.ownBlock = some g → w.heap.size ≤ g
structure RRow (w : World) (a : Option Addr) (xs : List Value) : Prop where
  c : ∀ k x, xs[k]? = some x → ∃ b o, a = some ⟨b, o, none⟩ ∧ w.cell? ⟨b, o + k, none⟩ = some x
theorem RRow.heap {a : Option Addr} {xs : List Value} (h : RRow w a xs) (e : w'.heap = w.heap) : RRow w' a xs :=
  ⟨fun k x hx => by
    obtain ⟨b, o, h1, h2⟩ := h.c k x hx
    exact ⟨b, o, h1, by simpa only [World.cell?, e] using h2⟩⟩
theorem rrow_of {base n size c : Nat} {e : TypeId} {a : Option Addr} {xs : List Value} (h : w.ownsRow base e size (.slice a n c) n xs) : RRow w a xs :=
  ⟨fun k x hx => by
    obtain ⟨b, cap, e1, h1⟩ := row_get h hx
    cases e1
    exact ⟨b, 0, rfl, by rw [Nat.zero_add]; exact h1.c⟩⟩
theorem ans_get (l : List (Bool × Int)) : ∀ (k : Nat), (ansC l)[k * 3]? = (l[k]?).map (fun a => Value.bool a.1) ∧ (ansC l)[k * 3 + 1]? = (l[k]?).map (fun a => Value.int .i64 a.2) ∧ (ansC l)[k * 3 + 2]? = (l[k]?).map (fun a => Value.slice none 0 0) := by
  induction l with
  | nil => intro k; simp [ansC]
  | cons a l ih =>
    intro k
    have e : ansC (a :: l) = Value.bool a.1 :: Value.int .i64 a.2 :: Value.slice none 0 0 :: ansC l := rfl
    cases k with
    | zero => simp [e]
    | succ k =>
      have e2 : (k + 1) * 3 = k * 3 + 1 + 1 + 1 := by omega
      rw [e, e2]
      simpa using ih k
def vaOf (v : Value) : Option Addr := match v with | .slice a _ _ => a | _ => none
def vcOf (v : Value) : Nat := match v with | .slice _ _ c => c | _ => 0
theorem slice_of {base n size : Nat} {e : TypeId} {v : Value} {xs : List Value} (h : w.ownsRow base e size v n xs) : v = .slice (vaOf v) n (vcOf v) := by
  rcases h.2 with ⟨rfl, rfl⟩ | ⟨g, cap, cur, rfl, _⟩ <;> rfl
end Go.Proofs.Ytlcgkpapnpdfpaa
namespace Go.Proofs.Ytlcgkpapnpdfpaa
open Go Go.Conc Go.RowKit Go.Proofs
variable {w w' : World} {kb : Nat}
theorem ldU_calls {b o : Nat} {v : Int} (hc : w.cell? ⟨b, o, none⟩ = some (.int .u64 v)) :
    Calls Try.prog 76 #[.pointer (some ⟨b, o, none⟩)] w fun e w' => e = .returned (.int .u64 v) ∧ w' = w := by
  have hl := run_call_load (P := Try.prog) Try.func97 (by kernel_rfl) (by kernel_rfl) (by kernel_rfl) .u64 (by kernel_rfl) hc
  go_enter Try.func76, Try.ntmps76
  go_wp2
  go_ret
  exact ⟨rfl, rfl⟩
theorem ldI_calls {b o : Nat} {v : Int} (hc : w.cell? ⟨b, o, none⟩ = some (.int .i64 v)) :
    Calls Try.prog 54 #[.pointer (some ⟨b, o, none⟩)] w fun e w' => e = .returned (.int .i64 v) ∧ w' = w := by
  have hl := run_call_load (P := Try.prog) Try.func88 (by kernel_rfl) (by kernel_rfl) (by kernel_rfl) .i64 (by kernel_rfl) hc
  go_enter Try.func54, Try.ntmps54
  go_wp2
  go_ret
  exact ⟨rfl, rfl⟩
theorem stI_calls {b o : Nat} {u : Value} {v : Int} (hc : w.cell? ⟨b, o, none⟩ = some u) (hz : w.frozen? ⟨b, o, none⟩ = false) :
    Calls Try.prog 52 #[.pointer (some ⟨b, o, none⟩), .int .i64 v] w fun e w' => e = .returned (.tuple #[]) ∧ w' = w.setCell ⟨b, o, none⟩ (.int .i64 v) := by
  have hl := run_call_store (P := Try.prog) Try.func87 (by kernel_rfl) (by kernel_rfl) (by kernel_rfl) (by kernel_rfl) (k := .i64) (y := v) hc hz
  go_enter Try.func52, Try.ntmps52
  go_wp2
  go_end0
  exact ⟨rfl, rfl⟩
theorem stU_calls {b o : Nat} {u : Value} {v : Int} (hc : w.cell? ⟨b, o, none⟩ = some u) (hz : w.frozen? ⟨b, o, none⟩ = false) :
    Calls Try.prog 74 #[.pointer (some ⟨b, o, none⟩), .int .u64 v] w fun e w' => e = .returned (.tuple #[]) ∧ w' = w.setCell ⟨b, o, none⟩ (.int .u64 v) := by
  have hl := run_call_store (P := Try.prog) Try.func96 (by kernel_rfl) (by kernel_rfl) (by kernel_rfl) (by kernel_rfl) (k := .u64) (y := v) hc hz
  go_enter Try.func74, Try.ntmps74
  go_wp2
  go_end0
  exact ⟨rfl, rfl⟩
theorem of_calls {n t : Int} (hn : -1 ≤ n ∧ n < 65536) (ht : 0 ≤ t ∧ t < 2147483648) :
    Calls Try.prog 77 #[.int .u64 (pk (n, t))] w fun e w' => e = .returned (.int .i64 n) ∧ w' = w := by
  have e1 : pk (n, t) / 4294967296 = n + 1 := by unfold pk; simp only; omega
  have e2 : IntKind.i64.wrap (n + 1) = n + 1 := IntWalk.i64_in _ (by omega)
  have e3 : IntKind.i64.wrap n = n := IntWalk.i64_in _ (by omega)
  have e4 : IntKind.i64.wrap (n + 1 - 1) = n := by rw [Int.add_sub_cancel]; exact e3
  go_enter Try.func77, Try.ntmps77
  go_wp2
  go_ret
  exact ⟨rfl, rfl⟩
theorem packed_calls {n t : Int} (hn : -1 ≤ n ∧ n < 65536) (ht : 0 ≤ t ∧ t < 2147483648) :
    Calls Try.prog 75 #[.int .i64 n, .int .u64 t] w fun e w' => e = .returned (.int .u64 (pk (n, t))) ∧ w' = w := by
  have e1 : IntKind.i64.wrap (n + 1) = n + 1 := IntWalk.i64_in _ (by omega)
  have e2 : IntKind.u64.wrap (n + 1) = n + 1 := wraps63 _ (by omega) (by omega)
  have e3 : IntKind.u64.wrap ((n + 1) * 4294967296) = (n + 1) * 4294967296 := wraps63 _ (by omega) (by omega)
  have e4 : bits .or .u64 ((n + 1) * 4294967296) t = (n + 1) * 4294967296 + t := pk_or (by omega) (by omega) ht.1 ht.2
  go_enter Try.func75, Try.ntmps75
  go_wp2
  go_ret
  exact ⟨rfl, rfl⟩
end Go.Proofs.Ytlcgkpapnpdfpaa
namespace Go.Proofs.Ytlcgkpapnpdfpaa
open Go Go.Conc Go.RowKit Go.Proofs
variable {w w' : World} {kb : Nat}
theorem KU.hn {s : KS} (h : KU kb s w) : ((-1 ≤ s.k.hd.1 ∧ s.k.hd.1 < 65536) ∧ 0 ≤ s.k.hd.2 ∧ s.k.hd.2 < 2147483648) ∧ (-1 ≤ s.k.fr.1 ∧ s.k.fr.1 < 65536) ∧ 0 ≤ s.k.fr.2 ∧ s.k.fr.2 < 2147483648 := by
  obtain ⟨a1, a2, a3, a4⟩ := h.wf.hd
  obtain ⟨b1, b2, b3, b4⟩ := h.wf.fr
  have hm := h.wf.n3
  exact ⟨⟨⟨a1, by omega⟩, a3, a4⟩, ⟨b1, by omega⟩, b3, b4⟩
theorem KU.heap {s : KS} (h : KU kb s w) (e : w'.heap = w.heap) : KU kb s w' := h.same fun r _ => by rw [e]
set_option maxRecDepth 100000 in
theorem heads_callsB {s : KS} (hU : KU kb s w) :
    CallsB Try.prog Try.f38 #[.pointer (some ⟨kb, 0, none⟩)] w fun e w' => e = (.tuple #[.int .i64 s.k.hd.1, .int .i64 s.k.hd.2, .int .i64 s.k.fr.1, .int .i64 s.k.fr.2]) ∧ w'.heap = w.heap := by
  obtain ⟨⟨⟨hn, h2⟩, ht⟩, ⟨fn, f2⟩, ft⟩ := hU.hn
  obtain ⟨⟨nx, vl, ⟨n, t⟩, ⟨f, u⟩, tg⟩, nb⟩ := s
  simp only at hn h2 ht fn f2 ft
  have c0 := hU.c0
  have c1 := hU.c1
  simp only at c0 c1
  have m1 : bits .and .u64 (pk (n, t)) 2147483647 = t := pk_mask (by omega) (by omega) ht.1 ht.2
  have m2 : bits .and .u64 (pk (f, u)) 2147483647 = u := pk_mask (by omega) (by omega) ft.1 ft.2
  have w1 : IntKind.i64.wrap t = t := IntWalk.i64_in _ (by omega)
  have w2 : IntKind.i64.wrap u = u := IntWalk.i64_in _ (by omega)
  have H : Aside (∀ m, Calls Try.prog 76 #[.pointer (some ⟨kb, 0, none⟩)] (w.drewN m) fun e w' => e = .returned (.int .u64 (pk (n, t))) ∧ w' = w.drewN m) := fun m => ldU_calls ((World.cell?_drewN w m _).trans c0)
  have H1 : Aside (∀ m, Calls Try.prog 76 #[.pointer (some ⟨kb, 1, none⟩)] (w.drewN m) fun e w' => e = .returned (.int .u64 (pk (f, u))) ∧ w' = w.drewN m) := fun m => ldU_calls ((World.cell?_drewN w m _).trans c1)
  have O : Aside (∀ W, Calls Try.prog 77 #[.int .u64 (pk (n, t))] W fun e w' => e = .returned (.int .i64 n) ∧ w' = W) := fun W => of_calls ⟨hn, h2⟩ ht
  have O1 : Aside (∀ W, Calls Try.prog 77 #[.int .u64 (pk (f, u))] W fun e w' => e = .returned (.int .i64 f) ∧ w' = W) := fun W => of_calls ⟨fn, f2⟩ ft
  clear hU c0 c1 hn h2 ht fn f2 ft
  refine callsB_of rfl ?_
  simp only [Try.ntmps38, List.size_toArray, List.length_cons, List.length_nil, Nat.reduceAdd, Nat.reduceSub, Array.replicate_succ, Array.replicate_zero, List.push_toArray, List.append_toArray, List.nil_append, List.cons_append]
  go_wp2
  go_quiet (first | (go_at_call 76; exact Calls.quiet_of_same (H.out _)) | (go_at_call 76; exact Calls.quiet_of_same (H1.out _)))
  go_wp2_with (first
    | (go_at_call 77; refine (O.out _).mono ?_; rintro e w' ⟨rfl, rfl⟩)
    | (go_at_call 77; refine (O1.out _).mono ?_; rintro e w' ⟨rfl, rfl⟩))
  exact bodyPost_ret (v := .tuple #[.int .i64 n, .int .i64 t, .int .i64 f, .int .i64 u]) (by simp [results, Try.f38, go_sem]) rfl ⟨_, rfl, rfl, rfl⟩
theorem heads_calls {s : KS} (hU : KU kb s w) :
    Calls Try.prog 38 #[.pointer (some ⟨kb, 0, none⟩)] w fun e w' => e = .returned (.tuple #[.int .i64 s.k.hd.1, .int .i64 s.k.hd.2, .int .i64 s.k.fr.1, .int .i64 s.k.fr.2]) ∧ w'.heap = w.heap :=
  ((heads_callsB hU).calls Try.func38 rfl).mono (by rintro e u ⟨v, rfl, rfl, h⟩; exact ⟨rfl, h⟩)
def KSt.walk (s : KSt) : Nat → Int → List Int
  | 0, _ => []
  | f + 1, i => if i < 0 then [] else s.val i :: s.walk f (s.nxt i)
theorem walk_succ (s : KSt) (f : Nat) (i : Int) : s.walk (f + 1) i = if i < 0 then [] else s.val i :: s.walk f (s.nxt i) := rfl
def KSt.vals (s : KSt) : List Int := s.walk s.nx.length s.hd.1
theorem walk_len (s : KSt) : ∀ f i, (s.walk f i).length ≤ f
  | 0, _ => Nat.le_refl _
  | f + 1, i => by
    unfold KSt.walk
    split
    · exact Nat.zero_le _
    · simp only [List.length_cons]
      have := walk_len s f (s.nxt i)
      omega
def Walks (s : KSt) (f : Nat) (i : Int) (d : List Int) : Prop := s.vals = d ++ s.walk f i ∧ d.length + f = s.nx.length ∧ -1 ≤ i ∧ i < s.nx.length
set_option maxRecDepth 100000 in
theorem values_calls {s : KS} (hU : KU kb s w) :
    Calls Try.prog 39 #[.pointer (some ⟨kb, 0, none⟩)] w fun x w' => ∃ ov, x = .returned ov ∧ ValsAt w w' ov s.k.vals ∧ (s.k.vals = [] → ov = .slice none 0 0) := by
  obtain ⟨i0, z0, hi, hz0, hz1, hz2, hz3⟩ := infoA2
  obtain ⟨⟨⟨hn, h2⟩, ht⟩, _⟩ := hU.hn
  have A : Aside (KU kb s w) := hU
  have c0 := hU.c0
  have c2 := hU.c2.c2
  have hw : s.k.hd = (s.k.hd.1, s.k.hd.2) := rfl
  rw [hw] at c0
  have W0 : Aside (Walks s.k s.m s.k.hd.1 []) := ⟨rfl, by simp, hn, hU.wf.hd.2.1⟩
  have O : Aside (∀ W, Calls Try.prog 77 #[.int .u64 (pk (s.k.hd.1, s.k.hd.2))] W fun e w' => e = .returned (.int .i64 s.k.hd.1) ∧ w' = W) := fun W => of_calls ⟨hn, h2⟩ ht
  have L : Aside (Calls Try.prog 76 #[.pointer (some ⟨kb, 0, none⟩)] w fun e w' => e = .returned (.int .u64 (pk (s.k.hd.1, s.k.hd.2))) ∧ w' = w) := ldU_calls c0
  have hm : s.m ≤ 65536 := hU.wf.n3
  clear hU hn h2 ht hw c0
  go_enter Try.func39, Try.ntmps39
  go_wp2_with (first
    | (go_at_call 76; refine L.out.mono ?_; rintro e w ⟨rfl, rfl⟩)
    | (go_at_call 77; refine (O.out _).mono ?_; rintro e w ⟨rfl, rfl⟩))
  clear L O
  go_loopg [3, 4] s.m (fun g n i wr => ∃ (d : List Int) (k : Int) (f : Nat) (oa : Option Addr) (oc : Nat), n = .slice oa d.length oc ∧ i = .int .i64 k ∧ Walks s.k f k d ∧ g = f ∧ ValsAt w wr (.slice oa d.length oc) d ∧ (d = [] → Value.slice oa d.length oc = .slice none 0 0))
  case atStart => exact ⟨[], _, _, none, 0, rfl, rfl, W0.out, rfl, ⟨⟨rfl, .inl ⟨rfl, rfl⟩⟩, Nat.le_refl _, fun r _ => rfl, fun g h => by cases h⟩, fun _ => rfl⟩
  case round =>
    obtain ⟨d, k, f, oa, oc, rfl, rfl, ⟨hv, hl, k1, k2⟩, hgf, hV, hnil⟩ := hrel
    clear c2
    have hU := A.out.same (w' := wr) (fun r hr => hV.old _ (A.out.low hr))
    have c2 := hU.c2.c2
    have hmm : s.m = s.k.nx.length := rfl
    by_cases hneg : k < 0
    · have hn0 : ¬ (0 : Int) ≤ k := by omega
      have e : s.k.walk f k = [] := by
        cases f with
        | zero => rfl
        | succ f => unfold KSt.walk; rw [if_pos hneg]
      rw [e, List.append_nil] at hv
      have V : Aside (s.k.vals = d ∧ ValsAt w wr (.slice oa d.length oc) d ∧ (d = [] → Value.slice oa d.length oc = .slice none 0 0)) := ⟨hv, hV, hnil⟩
      clear hnil hU hV hv hl hmm
      go_wp2
      go_ret
      rw [V.out.1]
      exact ⟨_, rfl, V.out.2⟩
    · have hn0 : (0 : Int) ≤ k := by omega
      cases f with
      | zero =>
        have e : d.length = s.m := by omega
        have hlt : ¬ (d.length : Int) < (s.m : Int) := by omega
        rw [show s.k.walk 0 k = [] from rfl, List.append_nil] at hv
        have V : Aside (s.k.vals = d ∧ ValsAt w wr (.slice oa d.length oc) d ∧ (d = [] → Value.slice oa d.length oc = .slice none 0 0)) := ⟨hv, hV, hnil⟩
        clear hnil hU hV hv e hl hmm
        go_wp2
        go_ret
        rw [V.out.1]
        exact ⟨_, rfl, V.out.2⟩
      | succ f =>
        obtain ⟨i, rfl⟩ : ∃ i : Nat, k = i := ⟨k.toNat, by omega⟩
        have him : i < s.m := by omega
        have hlt : (d.length : Int) < (s.m : Int) := by omega
        obtain ⟨n1, n2, n3⟩ := hU.nc him
        have hrow := hV.row
        have hsz := hV.size
        have V : Aside (Walks s.k f (s.k.nx.getD i 0) (d ++ [s.k.vl.getD i 0]) ∧ ValsAt w wr (.slice oa d.length oc) d ∧ KU kb s wr) := by
          refine ⟨⟨?_, by simp; omega, ?_⟩, hV, hU⟩
          · rw [hv, walk_succ, if_neg hneg]
            simp [KSt.val, KSt.nxt]
          · have hwf := hU.wf
            have h2 := hwf.n2
            rw [List.getD_eq_getElem?_getD, List.getElem?_eq_getElem (show i < s.k.nx.length from him)]
            exact hwf.nx _ (List.getElem_mem _)
        have L : Aside (∀ W : World, W.heap = wr.heap → Calls Try.prog 54 #[.pointer (some ⟨s.nb, i * 2 + 1, none⟩)] W fun e w' => e = .returned (.int .i64 (s.k.vl.getD i 0)) ∧ w' = W) := fun W e => ldI_calls (by simpa only [World.cell?, e] using n2)
        have hd2 : d.length < 65536 := by omega
        obtain ⟨cur, hnb, _⟩ := hU.n
        have ho := hU.o
        clear hnil hU hV hv n3 hl hmm
        generalize hvv : s.k.vl.getD i 0 = vv at L V n2
        generalize hxx : s.k.nx.getD i 0 = xx at V n1
        go_wp2_with (first
          | (go_at_call 54; refine (L.out _ rfl).mono ?_; rintro e wr ⟨rfl, rfl⟩)
          | (at_builtin; refine wpList_append_fresh rfl (.tmp 32) (.tmp 41) 22 rfl 2 i0 z0 1 8 Try.underlying22 hi hz0 hz1 hz2 hz3 (by decide) (.slice oa d.length oc) d.length (d.map fun v => .int .i64 v) rfl ?c0 ⟨wr.heap.size, 0, none⟩ 1 1 [.int .i64 vv] rfl rfl ?c1 ?c2 ?c3 ?c4 ?_))
        case c0 => exact World.ownsRow.alloc hrow _
        case c1 => exact new_cells (X := wr) (l := [.int .i64 vv]) rfl
        case c2 => intro u hu; simp at hu; subst hu; rfl
        case c3 => unfold maxLen; omega
        case c4 => omega
        · intro v' w1 hown hgrow hfr
          obtain ⟨g, cap, rfl⟩ := own_slice hown
          have hkk : w1.heap[kb]? = wr.heap[kb]? := grown_old hgrow (V.out.2.2.low (.inl rfl)) (own_type V.out.2.1.row ho (by decide))
          have hkn : w1.heap[s.nb]? = wr.heap[s.nb]? := grown_old hgrow (V.out.2.2.low (.inr rfl)) (own_type V.out.2.1.row hnb (by decide))
          have q2 := (cell_heap (j := 2) hkk).1.trans c2
          have q1 := (cell_heap (j := i * 2) hkn).1.trans n1
          have hold : ∀ r, r < w.heap.size → w1.heap[r]? = wr.heap[r]? := fun r hr => by
            refine grown_old hgrow (by omega) fun e => ?_
            have := V.out.2.1.new r e.symm
            omega
          have hgs := hgrow.size
          simp only [World.size_alloc] at hgs
          have F : Aside (w1.ownsRow 0 2 1 (.slice (some ⟨g, 0, none⟩) (d.length + 1) cap) (d.length + 1) ((d.map (fun v => .int .i64 v)) ++ [.int .i64 vv]) ∧ (∀ r, r < w.heap.size → w1.heap[r]? = wr.heap[r]?) ∧ wr.heap.size ≤ w1.heap.size ∧ ((Value.slice (some ⟨g, 0, none⟩) (d.length + 1) cap).ownBlock = (Value.slice oa d.length oc).ownBlock ∨ ∃ g', (Value.slice (some ⟨g, 0, none⟩) (d.length + 1) cap).ownBlock = some g' ∧ wr.heap.size ≤ g')) :=
            ⟨hown, hold, by omega, hfr.imp id fun ⟨g', h1, h2⟩ => ⟨g', h1, by omega⟩⟩
          have L2 : Aside (Calls Try.prog 54 #[.pointer (some ⟨s.nb, i * 2, none⟩)] w1 fun e w' => e = .returned (.int .i64 xx) ∧ w' = w1) := ldI_calls q1
          clear hown hgrow hfr hkk hkn hold hgs hnb ho hrow c2 n1 n2 q1
          go_wp2_with (go_at_call 54; refine L2.out.mono ?_; rintro e w1 ⟨rfl, rfl⟩)
          go_roundg f
          case measure => omega
          case rel =>
            obtain ⟨v1, v2, v3⟩ := V.out
            obtain ⟨f1, f2, f3, f4⟩ := F.out
            have e1 : (d ++ [vv]).length = d.length + 1 := by simp
            refine ⟨d ++ [vv], xx, f, some ⟨g, 0, none⟩, cap, by rw [e1], rfl, v1, rfl, ⟨?_, by have := v2.size; omega, fun r hr => (f2 r hr).trans (v2.old r hr), fun g' hg => ?_⟩, fun h => by simp at h⟩
            · rw [e1]
              simpa using f1
            · rw [e1] at hg
              rcases f4 with h | ⟨g2, h, h2⟩
              · exact v2.new g' (h ▸ hg)
              · rw [h] at hg; cases hg
                have := v2.size; omega
theorem ValsAt.more {w u w1 : World} {ov : Value} {xs ys : List Int} (h : ValsAt w u ov xs) {v' : Value} (hown : w1.ownsRow 0 2 1 v' (xs.length + ys.length) ((xs.map fun v => .int .i64 v) ++ ys.map fun v => .int .i64 v)) (hg : u.grownBy w1 ov.ownBlock) (hf : v'.ownBlock = ov.ownBlock ∨ ∃ g, v'.ownBlock = some g ∧ u.heap.size ≤ g) : ValsAt w w1 v' (xs ++ ys) := by
  refine ⟨by simpa using hown, by have := h.size; have := hg.size; omega, fun r hr => ?_, fun g hgv => ?_⟩
  · have hsz := h.size
    refine (hg.block r (by omega) fun e => ?_).trans (h.old r hr)
    have := h.new r e.symm
    omega
  · rcases hf with e | ⟨g', e, h2⟩
    · exact h.new g (e ▸ hgv)
    · rw [e] at hgv
      cases hgv
      have := h.size
      omega
theorem ValsAt.later {w u w1 : World} {ov ov' : Value} {xs ys : List Int} (h : ValsAt w u ov xs) (h2 : ValsAt u w1 ov' ys) : ValsAt w w1 ov xs := by
  refine ⟨ownsRow_same2 h.row fun b hb _ => h2.old b ?_, Nat.le_trans h.size h2.size, fun r hr => (h2.old r (Nat.lt_of_lt_of_le hr h.size)).trans (h.old r hr), h.new⟩
  rcases h.row.2 with ⟨rfl, _⟩ | ⟨g, cap, cur, rfl, _, h3, _⟩
  · cases hb
  · cases hb
    exact (Array.getElem?_eq_some_iff.1 h3).1
set_option maxRecDepth 100000 in
theorem state_callsB {s : KS} (hU : KU kb s w) :
    CallsB Try.prog Try.f65 #[.pointer (some ⟨kb, 0, none⟩)] w fun ov w' => ValsAt w w' ov ([s.k.hd.1, s.k.hd.2, s.k.fr.1, s.k.fr.2] ++ s.k.vals) := by
  obtain ⟨i0, z0, hi, hz0, hz1, hz2, hz3⟩ := infoA2
  have A : Aside (KU kb s w) := hU
  have hvl : s.k.vals.length ≤ 65536 := Nat.le_trans (walk_len _ _ _) hU.wf.n3
  have VV : Aside (∀ W, KU kb s W → Calls Try.prog 39 #[.pointer (some ⟨kb, 0, none⟩)] W fun x w' => ∃ ov, x = .returned ov ∧ ValsAt W w' ov s.k.vals ∧ (s.k.vals = [] → ov = .slice none 0 0)) := fun W h => values_calls h
  have H : Aside (Calls Try.prog 38 #[.pointer (some ⟨kb, 0, none⟩)] w fun e w' => e = .returned (.tuple #[.int .i64 s.k.hd.1, .int .i64 s.k.hd.2, .int .i64 s.k.fr.1, .int .i64 s.k.fr.2]) ∧ w'.heap = w.heap) := heads_calls hU
  clear hU
  generalize s.k.hd.1 = x1 at H ⊢
  generalize s.k.hd.2 = x2 at H ⊢
  generalize s.k.fr.1 = x3 at H ⊢
  generalize s.k.fr.2 = x4 at H ⊢
  generalize s.k.vals = vv at VV hvl ⊢
  have key : ∀ w1 : World, w1.heap = w.heap → ValsAt w (w1.alloc (.cells #[.int .i64 x1, .int .i64 x2, .int .i64 x3, .int .i64 x4] 2)) (.slice (some ⟨w1.heap.size, 0, none⟩) 4 4) [x1, x2, x3, x4] ∧ KU kb s (w1.alloc (.cells #[.int .i64 x1, .int .i64 x2, .int .i64 x3, .int .i64 x4] 2)) := fun w1 hw1 => by
    have es : w1.heap.size = w.heap.size := by rw [hw1]
    refine ⟨⟨⟨rfl, .inr ⟨w1.heap.size, 4, _, rfl, Nat.zero_le _, heap_alloc_new _ _, by simp, by unfold maxLen; omega, by simp, by simp⟩⟩, by simp; omega, fun r hr => (heap_alloc_lt _ _ (by omega)).trans (by rw [hw1]), fun g hg => ?_⟩, (A.out.heap hw1).same fun r hr => heap_alloc_lt _ _ ((A.out.heap hw1).low hr)⟩
    simp only [Value.ownBlock, Option.some.injEq] at hg
    omega
  have KEY : Aside (∀ w1 : World, w1.heap = w.heap → ValsAt w (w1.alloc (.cells #[.int .i64 x1, .int .i64 x2, .int .i64 x3, .int .i64 x4] 2)) (.slice (some ⟨w1.heap.size, 0, none⟩) 4 4) [x1, x2, x3, x4] ∧ KU kb s (w1.alloc (.cells #[.int .i64 x1, .int .i64 x2, .int .i64 x3, .int .i64 x4] 2))) := key
  clear key A
  by_cases hnn : vv = []
  · subst hnn
    have V1 : Aside (∀ W, KU kb s W → Calls Try.prog 39 #[.pointer (some ⟨kb, 0, none⟩)] W fun x w' => x = .returned (.slice none 0 0) ∧ ValsAt W w' (.slice none 0 0) []) := fun W h => (VV.out W h).mono (by rintro e w2 ⟨ov, rfl, h1, h2⟩; obtain rfl := h2 rfl; exact ⟨rfl, h1⟩)
    clear VV
    refine callsB_of rfl ?_
    simp only [Try.ntmps65, List.size_toArray, List.length_cons, List.length_nil, Nat.reduceAdd, Nat.reduceSub, Array.replicate_succ, Array.replicate_zero, List.push_toArray, List.append_toArray, List.nil_append, List.cons_append]
    go_wp2_with (first
      | (go_at_call 38; refine H.out.mono ?_; rintro e w1 ⟨rfl, hw1⟩; have W1 : Aside (w1.heap = w.heap) := hw1; clear hw1)
      | (go_at_call 39; refine (V1.out _ (KEY.out _ W1.out).2).mono ?_; rintro e w2 ⟨rfl, hV⟩; have R1 : Aside (ValsAt w w2 (.slice (some ⟨w1.heap.size, 0, none⟩) 4 4) [x1, x2, x3, x4]) := (KEY.out _ W1.out).1.later hV; clear hV)
      | (at_builtin; refine wpList_append_own_none rfl _ _ _ rfl 0 2 i0 1 Try.underlying22 hi (.slice (some ⟨w1.heap.size, 0, none⟩) 4 4) 4 _ rfl R1.out.row rfl ?_))
    go_ret
    exact ⟨_, rfl, R1.out⟩
  · have hpos : 0 < vv.length := List.length_pos_iff.2 hnn
    have V1 : Aside (∀ W, KU kb s W → Calls Try.prog 39 #[.pointer (some ⟨kb, 0, none⟩)] W fun x w' => ∃ g cap, x = .returned (.slice (some ⟨g, 0, none⟩) vv.length cap) ∧ ValsAt W w' (.slice (some ⟨g, 0, none⟩) vv.length cap) vv) := fun W h => (VV.out W h).mono (by
      rintro e w2 ⟨ov, rfl, h1, h2⟩
      rcases h1.row.2 with ⟨_, h⟩ | ⟨g, cap, _, rfl, _⟩
      · omega
      · exact ⟨g, cap, rfl, h1⟩)
    clear VV hnn
    refine callsB_of rfl ?_
    simp only [Try.ntmps65, List.size_toArray, List.length_cons, List.length_nil, Nat.reduceAdd, Nat.reduceSub, Array.replicate_succ, Array.replicate_zero, List.push_toArray, List.append_toArray, List.nil_append, List.cons_append]
    go_wp2_with (first
      | (go_at_call 38; refine H.out.mono ?_; rintro e w1 ⟨rfl, hw1⟩; have W1 : Aside (w1.heap = w.heap) := hw1; clear hw1)
      | (go_at_call 39; refine (V1.out _ (KEY.out _ W1.out).2).mono ?_; rintro e w2 ⟨g, cap, rfl, hV⟩; have R1 : Aside (ValsAt w w2 (.slice (some ⟨w1.heap.size, 0, none⟩) 4 4) [x1, x2, x3, x4]) := (KEY.out _ W1.out).1.later hV; have D : Aside (w2.ownsRow 0 2 1 (.slice (some ⟨g, 0, none⟩) vv.length cap) vv.length (vv.map fun v => .int .i64 v)) := hV.row; clear hV)
      | (at_builtin; refine wpList_append_fresh rfl (.tmp 18) (.tmp 20) 22 rfl 2 i0 z0 1 8 Try.underlying22 hi hz0 hz1 hz2 hz3 (by decide) (.slice (some ⟨w1.heap.size, 0, none⟩) 4 4) 4 ([x1, x2, x3, x4].map fun v => .int .i64 v) rfl R1.out.row ⟨g, 0, none⟩ vv.length cap (vv.map fun v => .int .i64 v) rfl (by simp) (row_cells D.out) (by intro u hu; obtain ⟨x, _, rfl⟩ := List.mem_map.1 hu; rfl) (by unfold maxLen; omega) (by omega) ?_; intro v' w3 hown hgrow hfr; have Z : Aside (ValsAt w w3 v' ([x1, x2, x3, x4] ++ vv)) := R1.out.more hown hgrow hfr; clear hown hgrow hfr))
    go_ret
    exact ⟨_, rfl, Z.out⟩
end Go.Proofs.Ytlcgkpapnpdfpaa
namespace Go.Proofs.Ytlcgkpapnpdfpaa
open Go Go.Conc Go.RowKit Go.Proofs
variable {w w' : World} {kb : Nat}
def knew (n : Nat) (tg : Bool) : KSt := ⟨(List.range n).map fun i => if i + 1 = n then -1 else ((i + 1 : Nat) : Int), List.replicate n 0, (-1, 0), (0, 0), tg⟩
theorem info129 : ∃ i, Try.prog.info? 129 = some i ∧ i.zero = some (.agg #[.int .i64 0, .int .i64 0]) ∧ i.size = 2 ∧ i.bytes = 16 := by
  obtain ⟨i, hi, h⟩ := Option.map_eq_some_iff.1 (show (Try.prog.info? 129).map (fun i => (i.zero, i.size, i.bytes)) = some (some (.agg #[.int .i64 0, .int .i64 0]), 2, 16) by kernel_rfl)
  simp only [Prod.mk.injEq] at h
  exact ⟨i, hi, h.1, h.2.1, h.2.2⟩
theorem mk90 {n : Nat} (hn : n ≤ 65536) (w : World) : (Instr.makeSlice 90 (.int .i64 n) (.int .i64 n)).run Try.prog w = .ok (.slice (some ⟨w.heap.size, 0, none⟩) n n) (w.alloc (.cells (madeCells #[.int .i64 0, .int .i64 0] (n * 2)) 129)) := by
  obtain ⟨i, hi, hz, hs, hb⟩ := info129
  have := run_make (P := Try.prog) w 90 129 i _ Try.underlying90 hi hz .i64 .i64 n n (by omega) (by omega) (by rw [hb]; omega) (by omega)
  rw [hs] at this
  simpa [Value.cells] using this
theorem made_get (n k : Nat) (h : k < n * 2) : (madeCells #[.int .i64 0, .int .i64 0] (n * 2))[k]? = some (.int .i64 0) := by
  simp only [madeCells, Array.getElem?_map, Array.getElem?_range]
  rw [if_pos h]
  have : k % 2 = 0 ∨ k % 2 = 1 := by omega
  rcases this with e | e <;> simp [e]
structure KMk (w : World) (n k : Nat) (tg : Bool) (wr : World) : Prop where
  o : wr.heap[w.heap.size + 1]? = some (.cells #[.int .u64 0, .int .u64 0, .slice (some ⟨w.heap.size, 0, none⟩) n n, .bool tg] 92 (0, 0))
  n : ∃ c, wr.heap[w.heap.size]? = some (.cells c 129 (0, 0)) ∧ c.size = n * 2 ∧ ∀ i, i < n → c[i * 2]? = some (.int .i64 (if i < k then ((i + 1 : Nat) : Int) else 0)) ∧ c[i * 2 + 1]? = some (.int .i64 0)
  s : wr.heap.size = w.heap.size + 2
  old : ∀ r, r < w.heap.size → wr.heap[r]? = w.heap[r]?
theorem KMk.next {n k : Nat} {tg : Bool} {wr : World} (h : KMk w n k tg wr) (hk : k < n) : KMk w n (k + 1) tg (wr.setCell ⟨w.heap.size, k * 2, none⟩ (.int .i64 ((k : Int) + 1))) := by
  obtain ⟨c, h1, h2, h3⟩ := h.n
  refine ⟨(heap_setCell_ne _ _ _ (by simp)).trans h.o, ⟨c.setIfInBounds (k * 2) (.int .i64 ((k : Int) + 1)), by rw [heap_setCell_eq h1], by simpa using h2, fun i hi => ?_⟩, by rw [World.size_setCell]; exact h.s, fun r hr => (heap_setCell_ne _ _ _ (by simp only; omega)).trans (h.old r hr)⟩
  obtain ⟨e1, e2⟩ := h3 i hi
  refine ⟨?_, by rw [Array.getElem?_setIfInBounds_ne (by omega)]; exact e2⟩
  by_cases e : k = i
  · subst e
    rw [Array.getElem?_setIfInBounds_self_of_lt (by omega), if_pos (by omega)]
    simp
  · rw [Array.getElem?_setIfInBounds_ne (by omega), e1]
    by_cases e2 : i < k
    · rw [if_pos e2, if_pos (by omega)]
    · rw [if_neg e2, if_neg (by omega)]
theorem knew_get {n : Nat} {tg : Bool} {i : Nat} (hi : i < n) : (knew n tg).nx.getD i 0 = (if i + 1 = n then -1 else ((i + 1 : Nat) : Int)) ∧ (knew n tg).vl.getD i 0 = 0 := by
  simp [knew, List.getD_eq_getElem?_getD, List.getElem?_map, List.getElem?_range hi, List.getElem?_replicate, hi]
theorem knew_wf {n : Nat} (h0 : 0 < n) (h1 : n ≤ 65536) (tg : Bool) : KWf (knew n tg) := by
  refine ⟨by simp [knew], by simpa [knew] using h0, by simpa [knew] using h1, fun v hv => ?_, ?_, ?_, fun _ => ⟨rfl, rfl⟩⟩
  · simp only [knew, List.mem_map, List.mem_range] at hv
    obtain ⟨i, hi, rfl⟩ := hv
    simp only [knew, List.length_map, List.length_range]
    split <;> omega
  · simp [knew]
    omega
  · simp [knew]
    omega
theorem KMk.done {n : Nat} {tg : Bool} {wr : World} (h : KMk w n n tg wr) (h0 : 0 < n) (h1 : n ≤ 65536) : KU (w.heap.size + 1) ⟨knew n tg, w.heap.size⟩ ((wr.setCell ⟨w.heap.size, (n - 1) * 2, none⟩ (.int .i64 (-1))).setCell ⟨w.heap.size + 1, 1, none⟩ (.int .u64 (pk (0, 0)))) := by
  obtain ⟨c, h1', h2, h3⟩ := h.n
  have hm : (KS.m ⟨knew n tg, w.heap.size⟩) = n := by simp [KS.m, knew]
  refine ⟨knew_wf h0 h1 tg, ?_, c.setIfInBounds ((n - 1) * 2) (.int .i64 (-1)), ?_, by rw [hm]; simpa using h2, fun i hi => ?_⟩
  · rw [heap_setCell_eq (show (wr.setCell ⟨w.heap.size, (n - 1) * 2, none⟩ (.int .i64 (-1))).heap[w.heap.size + 1]? = _ from (heap_setCell_ne _ _ _ (by simp)).trans h.o), hm]
    rfl
  · rw [heap_setCell_ne _ _ _ (by simp), heap_setCell_eq h1']
  · rw [hm] at hi
    obtain ⟨e1, e2⟩ := h3 i hi
    obtain ⟨g1, g2⟩ := knew_get (tg := tg) hi
    refine ⟨?_, ?_⟩
    · simp only
      rw [g1]
      by_cases e : i + 1 = n
      · rw [if_pos e, show (n - 1) * 2 = i * 2 by omega, Array.getElem?_setIfInBounds_self_of_lt (by omega)]
      · rw [if_neg e, Array.getElem?_setIfInBounds_ne (by omega), e1, if_pos hi]
    · simp only
      rw [g2, Array.getElem?_setIfInBounds_ne (by omega)]
      exact e2
set_option maxRecDepth 100000 in
theorem new_callsB {size : Int} {tg : Bool} {n : Nat} (hn : min (max size 1) 65536 = (n : Int)) :
    CallsB Try.prog Try.f36 #[.int .i64 size, .bool tg] w fun x w' => x = .pointer (some ⟨w.heap.size + 1, 0, none⟩) ∧ KU (w.heap.size + 1) ⟨knew n tg, w.heap.size⟩ w' ∧ w.heap.size + 2 ≤ w'.heap.size ∧ ∀ r, r < w.heap.size → w'.heap[r]? = w.heap[r]? := by
  have h0 : 0 < n := by omega
  have h1 : n ≤ 65536 := by omega
  have hmk := mk90 h1 w
  have M0 : Aside (KMk w n 0 tg ((w.alloc (.cells (madeCells #[.int .i64 0, .int .i64 0] (n * 2)) 129)).alloc (.cells #[.int .u64 0, .int .u64 0, .slice (some ⟨w.heap.size, 0, none⟩) n n, .bool tg] 92))) := by
    refine ⟨new2 w _ _ 92, ⟨_, (heap_alloc_lt _ _ (by simp)).trans (heap_alloc_new _ _), size_madeCells _ _, fun i hi => ⟨by rw [if_neg (by omega)]; exact made_get _ _ (by omega), made_get _ _ (by omega)⟩⟩, size2 _ _ _, fun r hr => old2 _ _ _ hr⟩
  obtain ⟨mx, hs1⟩ : ∃ mx : Int, (if size < 1 then (1 : Int) else size) = mx := ⟨_, rfl⟩
  have hs2 : (if (65536 : Int) < mx then (65536 : Int) else mx) = (n : Int) := by
    subst hs1
    by_cases h : size < 1
    · rw [if_pos h, if_neg (by omega)]; omega
    · rw [if_neg h]; split <;> omega
  have S : Aside (∀ (W : World) (k : Nat), k < n → KMk w n k tg W → Calls Try.prog 52 #[.pointer (some ⟨w.heap.size, k * 2, none⟩), .int .i64 ((k : Int) + 1)] W fun e w' => e = .returned (.tuple #[]) ∧ KMk w n (k + 1) tg w') := fun W k hk h => by
    obtain ⟨c, c1, c2, c3⟩ := h.n
    obtain ⟨d1, _⟩ := c3 k hk
    refine (stI_calls (u := _) (v := (k : Int) + 1) (by simp only [World.cell?, c1]; simpa using d1) (by simp [World.frozen?, c1])).mono ?_
    rintro e w' ⟨rfl, rfl⟩
    exact ⟨rfl, h.next hk⟩
  have L : Aside (∀ (W : World), KMk w n n tg W → Calls Try.prog 52 #[.pointer (some ⟨w.heap.size, (n - 1) * 2, none⟩), .int .i64 (-1)] W fun e w' => e = .returned (.tuple #[]) ∧ w' = W.setCell ⟨w.heap.size, (n - 1) * 2, none⟩ (.int .i64 (-1))) := fun W h => by
    obtain ⟨c, c1, c2, c3⟩ := h.n
    obtain ⟨d1, _⟩ := c3 (n - 1) (by omega)
    exact stI_calls (u := _) (by simp only [World.cell?, c1]; simpa using d1) (by simp [World.frozen?, c1])
  have N : Aside (0 < n ∧ n ≤ 65536) := ⟨h0, h1⟩
  clear hn h0 h1
  refine callsB_of rfl ?_
  simp only [Try.ntmps36, List.size_toArray, List.length_cons, List.length_nil, Nat.reduceAdd, Nat.reduceSub, Array.replicate_succ, Array.replicate_zero, List.push_toArray, List.append_toArray, List.nil_append, List.cons_append]
  go_wp2
  clear hs1 hs2 hmk
  go_loopg [21] n (fun g i wr => ∃ k : Nat, k ≤ n ∧ i = .int .i64 k ∧ g = n - k ∧ KMk w n k tg wr)
  case atStart => exact ⟨0, Nat.zero_le _, rfl, rfl, M0.out⟩
  case round =>
    obtain ⟨k, hk, rfl, hg, hM⟩ := hrel
    have c2 : wr.cell? ⟨w.heap.size + 1, 2, none⟩ = some (.slice (some ⟨w.heap.size, 0, none⟩) n n) := by simp [World.cell?, hM.o]
    have M : Aside (KMk w n k tg wr) := hM
    clear hM
    rcases Nat.lt_or_ge k n with hlt | hge
    · have hlt' : (k : Int) < (n : Int) := by omega
      have hwr : IntKind.i64.wrap ((k : Int) + 1) = (k : Int) + 1 := IntWalk.i64_in _ (by have := N.out.2; omega)
      have G : Aside (gk = n - k ∧ k < n) := ⟨hg, hlt⟩
      clear hg hk
      go_wp2_with (go_at_call 52; refine (S.out _ _ G.out.2 M.out).mono ?_; rintro e w1 ⟨rfl, hM1⟩; have M1 : Aside (KMk w n (k + 1) tg w1) := hM1; clear hM1)
      go_roundg (n - (k + 1))
      case measure => have := G.out; omega
      case rel => exact ⟨k + 1, G.out.2, rfl, rfl, M1.out⟩
    · have e : k = n := by omega
      subst e
      clear hg hk hge
      have hn1 : (k : Int) - 1 = ((k - 1 : Nat) : Int) := by have := N.out.1; omega
      have hwr : IntKind.i64.wrap ((k - 1 : Nat) : Int) = ((k - 1 : Nat) : Int) := IntWalk.i64_in _ (by have := N.out.2; omega)
      have hlt : k - 1 < k := by have := N.out.1; omega
      have PK : Aside (∀ W, Calls Try.prog 75 #[.int .i64 0, .int .u64 0] W fun e w' => e = .returned (.int .u64 (pk (0, 0))) ∧ w' = W) := fun W => packed_calls (by omega) (by omega)
      have ST : Aside (∀ W : World, W.heap = (wr.setCell ⟨w.heap.size, (k - 1) * 2, none⟩ (.int .i64 (-1))).heap → Calls Try.prog 74 #[.pointer (some ⟨w.heap.size + 1, 1, none⟩), .int .u64 (pk (0, 0))] W fun e w' => e = .returned (.tuple #[]) ∧ KU (w.heap.size + 1) ⟨knew k tg, w.heap.size⟩ w' ∧ w.heap.size + 2 ≤ w'.heap.size ∧ ∀ r, r < w.heap.size → w'.heap[r]? = w.heap[r]?) := fun W hW => by
        have ho : W.heap[w.heap.size + 1]? = some (.cells #[.int .u64 0, .int .u64 0, .slice (some ⟨w.heap.size, 0, none⟩) k k, .bool tg] 92 (0, 0)) := by
          rw [hW, heap_setCell_ne _ _ _ (by simp)]; exact M.out.o
        refine (stU_calls (u := _) (v := pk (0, 0)) (show W.cell? ⟨w.heap.size + 1, 1, none⟩ = some (.int .u64 0) by simp [World.cell?, ho]) (by simp [World.frozen?, ho])).mono ?_
        rintro e w' ⟨rfl, rfl⟩
        have hd := M.out.done N.out.1 N.out.2
        refine ⟨rfl, hd.heap ?_, ?_, fun r hr => ?_⟩
        · simp only [World.setCell, hW]
        · rw [World.size_setCell, hW, World.size_setCell]
          exact Nat.le_of_eq M.out.s.symm
        · rw [heap_setCell_ne _ _ _ (by simp only; omega), hW, heap_setCell_ne _ _ _ (by simp only; omega)]
          exact M.out.old r hr
      go_wp2_with (go_at_call 52; refine (L.out _ M.out).mono ?_; rintro e w1 ⟨rfl, rfl⟩)
      clear L S M0 c2 hlt hwr hn1
      go_region_with (first | (go_at_call 75; refine (PK.out _).mono ?_; rintro e w2 ⟨rfl, rfl⟩) | (go_at_call 74; refine (ST.out _ (by rfl)).mono ?_; rintro e w2 ⟨rfl, hZ⟩; have Z : Aside (KU (w.heap.size + 1) ⟨knew k tg, w.heap.size⟩ w2 ∧ w.heap.size + 2 ≤ w2.heap.size ∧ ∀ r, r < w.heap.size → w2.heap[r]? = w.heap[r]?) := hZ; clear hZ))
      go_wp2
      go_ret
      exact ⟨_, rfl, rfl, Z.out⟩
theorem new_calls {size : Int} {tg : Bool} {n : Nat} (hn : min (max size 1) 65536 = (n : Int)) :
    Calls Try.prog 36 #[.int .i64 size, .bool tg] w fun x w' => x = .returned (.pointer (some ⟨w.heap.size + 1, 0, none⟩)) ∧ KU (w.heap.size + 1) ⟨knew n tg, w.heap.size⟩ w' ∧ w.heap.size + 2 ≤ w'.heap.size ∧ ∀ r, r < w.heap.size → w'.heap[r]? = w.heap[r]? :=
  ((new_callsB hn).calls Try.func36 rfl).mono (by rintro e u ⟨v, rfl, rfl, h⟩; exact ⟨rfl, h⟩)
end Go.Proofs.Ytlcgkpapnpdfpaa
namespace Go.Proofs.Ytlcgkpapnpdfpaa
open Go Go.Conc Go.RowKit Go.Proofs
variable {F : Fz} {w : World}
theorem callable36 : Callable 36 := callable Try.func36 rfl rfl
theorem callable65 : Callable 65 := callable Try.func65 rfl rfl
theorem tr_newkpl (X : World) (x y z u x' y' z' u' : Value) : ((((X.alloc (.cells #[x, y, z, u] 31)).setCell ⟨X.heap.size, 0, none⟩ x').setCell ⟨X.heap.size, 1, none⟩ y').setCell ⟨X.heap.size, 2, none⟩ z').setCell ⟨X.heap.size, 3, none⟩ u' = X.alloc (.cells #[x', y', z', u'] 31) := by go_simp
noncomputable def kplBody : Code := Try.f34.body.getD .skip
noncomputable def kpls0 : Code := Code.piece [] kplBody
noncomputable def kplr0 : Code := Code.piece [true] kplBody
noncomputable def kplo0 : Array Oper := Code.opsOf kplr0
noncomputable def kpls1 : Code := Code.piece [false] kplBody
noncomputable def kplr1 : Code := Code.piece [false, true] kplBody
noncomputable def kplo1 : Array Oper := Code.opsOf kplr1
noncomputable def kpls2 : Code := Code.piece [false, false] kplBody
noncomputable def kplr2 : Code := Code.piece [false, false, true] kplBody
noncomputable def kplo2 : Array Oper := Code.opsOf kplr2
noncomputable def kpls3 : Code := Code.piece [false, false, false] kplBody
noncomputable def kplr3 : Code := Code.piece [false, false, false, true] kplBody
noncomputable def kplo3 : Array Oper := Code.opsOf kplr3
noncomputable def kpls4 : Code := Code.piece [false, false, false, false] kplBody
noncomputable def kplr4 : Code := Code.piece [false, false, false, false, true] kplBody
noncomputable def kplo4 : Array Oper := Code.opsOf kplr4
theorem kpls0_eq : kpls0 = .seq kplr0 kpls1 := by kernel_rfl
theorem kplr0_eq : kplr0 = .region 0 kplo0 false := by kernel_rfl
theorem kpls1_eq : kpls1 = .seq kplr1 kpls2 := by kernel_rfl
theorem kplr1_eq : kplr1 = .region 1 kplo1 false := by kernel_rfl
theorem kpls2_eq : kpls2 = .seq kplr2 kpls3 := by kernel_rfl
theorem kplr2_eq : kplr2 = .region 2 kplo2 false := by kernel_rfl
theorem kpls3_eq : kpls3 = .seq kplr3 kpls4 := by kernel_rfl
theorem kplr3_eq : kplr3 = .region 3 kplo3 false := by kernel_rfl
theorem kpls4_eq : kpls4 = .seq kplr4 .ret := by kernel_rfl
theorem kplr4_eq : kplr4 = .region 4 kplo4 false := by kernel_rfl
theorem enter_kpl (args : Array Value) : Frame.enter Try.prog 34 args .normal = (Go.Conc.base 34).at { tmps := args ++ Array.replicate (26 - args.size) undef, defers := [] } [.code kpls0] := enter_at args Try.func34 rfl
theorem callable34 : Callable 34 := callable Try.func34 rfl rfl
def kplT (s : Nat → Value) : Array Value := #[s 0, s 1, s 2, s 3, s 4, s 5, s 6, s 7, s 8, s 9, s 10, s 11, s 12, s 13, s 14, s 15, s 16, s 17, s 18, s 19, s 20, s 21, s 22, s 23, s 24, s 25]
theorem kplT_of {A : Array Value} (h : A.size = 26) : ∃ s, A = kplT s := by
  obtain ⟨s, hs, _⟩ := arr_lit A h
  exact ⟨s, hs⟩
set_option maxRecDepth 100000 in
set_option maxHeartbeats 2000000 in
theorem kpl_0 {n : Nat} (hU : Under F n) (hn : n ≤ w.heap.size) {size mo : Int} {tg : Bool} {ta sa : Option Addr} {tl tc sl sc : Nat} {cs : List Frame} {main : Bool} {Stop : Goroutine → World → Prop}
    (h : ∀ A, Slots 26 A [(0, .int .i64 size), (1, .bool tg), (2, .slice ta tl tc), (3, .slice sa sl sc), (4, .int .i64 mo), (10, .pointer (some ⟨w.heap.size, 0, none⟩))] → Own Try.prog main F Stop (G (Frame.enter Try.prog 36 #[.int .i64 size, .bool tg] .normal) (((Go.Conc.base 34).at ⟨A, []⟩ [.inRegion kplo1 [2, 3], .code kpls2]) :: cs)) (w.alloc (.cells #[.slice none 0 0, .slice none 0 0, .slice none 0 0, .bool false] 31))) :
    Own Try.prog main F Stop (G (Frame.enter Try.prog 34 #[.int .i64 size, .bool tg, .slice ta tl tc, .slice sa sl sc, .int .i64 mo] .normal) cs) w := by
  rw [enter_kpl]
  walk_nrm
  rw [kpls0_eq]
  refine ogS ?_
  rw [kplr0_eq]
  refine ogR ?_
  simp only [kplo0, Code.opsOf, kplr0, Code.piece, kplBody, Try.f34, Option.getD_some, List.size_toArray, List.length_cons, List.length_nil, Nat.reduceAdd, Nat.zero_add, List.range, List.range.loop]
  (refine oW fun dd K hK => ?_; go_simp; refine qA hK hU ?_; clear hK K)
  refine ogE ?_
  rw [kpls1_eq]
  refine ogS ?_
  rw [kplr1_eq]
  refine ogR ?_
  simp only [kplo1, Code.opsOf, kplr1, Code.piece, kplBody, Try.f34, Option.getD_some, List.size_toArray, List.length_cons, List.length_nil, Nat.reduceAdd, Nat.zero_add, List.range, List.range.loop]
  (refine oW fun dd K hK => ?_; go_simp; refine qT hK ?_; clear hK K)
  (refine oW fun dd K hK => ?_; go_simp; refine qT hK ?_; clear hK K)
  refine oc callable36 #[.int .i64 size, .bool tg] ?_
  refine h _ ?_
  exact ⟨rfl, rfl, rfl, rfl, rfl, rfl, rfl, trivial⟩
set_option maxRecDepth 100000 in
set_option maxHeartbeats 2000000 in
theorem kpl_1 {kb rb : Nat} {size mo : Int} {tg : Bool} {ta sa : Option Addr} {tl tc sl sc : Nat} {A : Array Value} (hA : Slots 26 A [(0, .int .i64 size), (1, .bool tg), (2, .slice ta tl tc), (3, .slice sa sl sc), (4, .int .i64 mo), (10, .pointer (some ⟨rb, 0, none⟩))]) {cs : List Frame} {main : Bool} {Stop : Goroutine → World → Prop}
    (h : ∀ A, Slots 26 A [(10, .pointer (some ⟨rb, 0, none⟩)), (11, .pointer (some ⟨kb, 0, none⟩))] → Own Try.prog main F Stop (G (Frame.enter Try.prog 47 #[.slice ta tl tc, .func (.func 64) #[.pointer (some ⟨kb, 0, none⟩)] #[], .slice sa sl sc, .int .i64 mo] .normal) (((Go.Conc.base 34).at ⟨A, []⟩ [.inRegion kplo2 [5, 6, 7], .code kpls3]) :: cs)) w) :
    Own Try.prog main F Stop (G (((Go.Conc.base 34).at ⟨A, []⟩ [.inRegion kplo1 [2, 3], .code kpls2]).finish (.pointer (some ⟨kb, 0, none⟩))) cs) w := by
  obtain ⟨hsz, h0, h1, h2, h3, h4, h10, _⟩ := hA
  obtain ⟨s, rfl⟩ := kplT_of hsz
  change s 0 = _ at h0
  change s 1 = _ at h1
  change s 2 = _ at h2
  change s 3 = _ at h3
  change s 4 = _ at h4
  change s 10 = _ at h10
  clear hsz
  simp only [kplT, h0, h1, h2, h3, h4, h10]
  clear h0 h1 h2 h3 h4 h10
  rw [Frame.finish_at]
  simp only [kplo1, Code.opsOf, kplr1, Code.piece, kplBody, Try.f34, Option.getD_some, List.size_toArray, List.length_cons, List.length_nil, Nat.reduceAdd, Nat.zero_add, List.range, List.range.loop]
  walk_nrm
  (refine oW fun dd K hK => ?_; go_simp; refine qT hK ?_; clear hK K)
  refine ogE ?_
  rw [kpls2_eq]
  refine ogS ?_
  rw [kplr2_eq]
  refine ogR ?_
  simp only [kplo2, Code.opsOf, kplr2, Code.piece, kplBody, Try.f34, Option.getD_some, List.size_toArray, List.length_cons, List.length_nil, Nat.reduceAdd, Nat.zero_add, List.range, List.range.loop]
  (refine oW fun dd K hK => ?_; go_simp; refine qT hK ?_; clear hK K)
  (refine oW fun dd K hK => ?_; go_simp; refine qT hK ?_; clear hK K)
  (refine oW fun dd K hK => ?_; go_simp; refine qT hK ?_; clear hK K)
  (refine oW fun dd K hK => ?_; go_simp; refine qT hK ?_; clear hK K)
  (refine oW fun dd K hK => ?_; go_simp; refine qT hK ?_; clear hK K)
  refine oc callable47 #[.slice ta tl tc, .func (.func 64) #[.pointer (some ⟨kb, 0, none⟩)] #[], .slice sa sl sc, .int .i64 mo] ?_
  refine h _ ?_
  exact ⟨rfl, rfl, rfl, trivial⟩
set_option maxRecDepth 100000 in
set_option maxHeartbeats 2000000 in
theorem kpl_2 {n : Nat} (hU : Under F n) (hn : n ≤ w.heap.size) {kb rb : Nat} {aa oa : Option Addr} {al ac ol oz : Nat} {st : Bool} {A : Array Value} (hA : Slots 26 A [(10, .pointer (some ⟨rb, 0, none⟩)), (11, .pointer (some ⟨kb, 0, none⟩))]) {cs : List Frame} {main : Bool} {Stop : Goroutine → World → Prop}
    (h : ∀ A, Slots 26 A [(10, .pointer (some ⟨rb, 0, none⟩)), (12, .pointer (some ⟨w.heap.size, 0, none⟩))] → Own Try.prog main F Stop (G (Frame.enter Try.prog 65 #[.pointer (some ⟨kb, 0, none⟩)] .normal) (((Go.Conc.base 34).at ⟨A, []⟩ [.inRegion kplo3 [1, 2, 3], .code kpls4]) :: cs)) (w.alloc (.cells #[.slice aa al ac, .slice oa ol oz, .slice none 0 0, .bool st] 31))) :
    Own Try.prog main F Stop (G (((Go.Conc.base 34).at ⟨A, []⟩ [.inRegion kplo2 [5, 6, 7], .code kpls3]).finish (.agg #[.slice aa al ac, .slice oa ol oz, .slice none 0 0, .bool st])) cs) w := by
  obtain ⟨hsz, h10, h11, _⟩ := hA
  obtain ⟨s, rfl⟩ := kplT_of hsz
  change s 10 = _ at h10
  change s 11 = _ at h11
  clear hsz
  simp only [kplT, h10, h11]
  clear h10 h11
  rw [Frame.finish_at]
  simp only [kplo2, Code.opsOf, kplr2, Code.piece, kplBody, Try.f34, Option.getD_some, List.size_toArray, List.length_cons, List.length_nil, Nat.reduceAdd, Nat.zero_add, List.range, List.range.loop]
  walk_nrm
  (refine oW fun dd K hK => ?_; go_simp; refine qA hK hU ?_; clear hK K)
  (refine oW fun dd K hK => ?_; go_simp; refine hK _ _ ⟨⟨⟨0, grew4 (fun k => not_held hU (show n ≤ w.heap.size by omega)) _ _ _ _⟩, fun e he => by (have hm := mem_listed he; clear he hK; simp [go_sem, storedEv] at hm; rcases hm with rfl | rfl | rfl | rfl <;> exact evT_write _ _ ((fun k => not_held hU (show n ≤ w.heap.size by omega)) _))⟩, ?_⟩; clear hK K; simp only [setCell_at']; refine Own.at ?_ dd)
  have e1 := tr_newkpl w (.slice none 0 0) (.slice none 0 0) (.slice none 0 0) (.bool false) (.slice aa al ac) (.slice oa ol oz) (.slice none 0 0) (.bool st)
  rw [e1]
  clear e1
  refine ogE ?_
  rw [kpls3_eq]
  refine ogS ?_
  rw [kplr3_eq]
  refine ogR ?_
  simp only [kplo3, Code.opsOf, kplr3, Code.piece, kplBody, Try.f34, Option.getD_some, List.size_toArray, List.length_cons, List.length_nil, Nat.reduceAdd, Nat.zero_add, List.range, List.range.loop]
  (refine oW fun dd K hK => ?_; go_simp; refine qT hK ?_; clear hK K)
  refine oc callable65 #[.pointer (some ⟨kb, 0, none⟩)] ?_
  refine h _ ?_
  exact ⟨rfl, rfl, rfl, trivial⟩
set_option maxRecDepth 100000 in
set_option maxHeartbeats 2000000 in
theorem kpl_3 {rb tb : Nat} {aa oa : Option Addr} {al ac ol oz xl xc : Nat} {xa : Option Addr} {st : Bool} {y0 y1 y2 y3 : Value} (hne : rb ≠ tb) (hR : TrAt w rb y0 y1 y2 y3) (hT : TrAt w tb (.slice aa al ac) (.slice oa ol oz) (.slice none 0 0) (.bool st)) (hnr : ∀ k, ¬ held F ⟨rb, k, none⟩) (hnt : ∀ k, ¬ held F ⟨tb, k, none⟩) {A : Array Value} (hA : Slots 26 A [(10, .pointer (some ⟨rb, 0, none⟩)), (12, .pointer (some ⟨tb, 0, none⟩))]) {c : Frame} {cs : List Frame} {main : Bool} {Stop : Goroutine → World → Prop}
    (h : Own Try.prog main F Stop (G (c.finish (.agg #[.slice aa al ac, .slice oa ol oz, .slice xa xl xc, .bool st])) cs) (trW (w.setCell ⟨tb, 2, none⟩ (.slice xa xl xc)) rb (.slice aa al ac) (.slice oa ol oz) (.slice xa xl xc) (.bool st))) :
    Own Try.prog main F Stop (G (((Go.Conc.base 34).at ⟨A, []⟩ [.inRegion kplo3 [1, 2, 3], .code kpls4]).finish (.slice xa xl xc)) (c :: cs)) w := by
  obtain ⟨hsz, h10, h12, _⟩ := hA
  obtain ⟨s, rfl⟩ := kplT_of hsz
  change s 10 = _ at h10
  change s 12 = _ at h12
  clear hsz
  simp only [kplT, h10, h12]
  clear h10 h12
  rw [Frame.finish_at]
  simp only [kplo3, Code.opsOf, kplr3, Code.piece, kplBody, Try.f34, Option.getD_some, List.size_toArray, List.length_cons, List.length_nil, Nat.reduceAdd, Nat.zero_add, List.range, List.range.loop]
  walk_nrm
  (refine oW fun dd K hK => ?_; go_simp; refine qT hK ?_; clear hK K)
  (refine oW fun dd K hK => ?_; have hc2 := (hT.at dd).c2; have hz0 := (hT.at dd).z; go_simp; refine hK _ _ ⟨⟨⟨0, grew_setCell rfl (hnt 2) _⟩, fun e he => by (have hm := mem_listed he; clear he hK; simp [go_sem, storedEv, hc2, hz0] at hm; subst hm; exact evT_write _ _ (hnt 2))⟩, ?_⟩; clear hK K hc2 hz0; rw [setCell_at']; refine Own.at ?_ dd)
  have hT2 : TrAt (w.setCell ⟨tb, 2, none⟩ (.slice xa xl xc)) tb (.slice aa al ac) (.slice oa ol oz) (.slice xa xl xc) (.bool st) := ⟨by rw [heap_setCell_eq hT.o]; rfl⟩
  have hR2 : TrAt (w.setCell ⟨tb, 2, none⟩ (.slice xa xl xc)) rb y0 y1 y2 y3 := ⟨(heap_setCell_ne _ _ _ hne).trans hR.o⟩
  generalize w.setCell ⟨tb, 2, none⟩ (.slice xa xl xc) = W at hT2 hR2 h ⊢
  refine ogE ?_
  rw [kpls4_eq]
  refine ogS ?_
  rw [kplr4_eq]
  refine ogR ?_
  simp only [kplo4, Code.opsOf, kplr4, Code.piece, kplBody, Try.f34, Option.getD_some, List.size_toArray, List.length_cons, List.length_nil, Nat.reduceAdd, Nat.zero_add, List.range, List.range.loop]
  (refine oW fun dd K hK => ?_; have hc0 := (hT2.at dd).c0; have hc1 := (hT2.at dd).c1; have hc2 := (hT2.at dd).c2; have hc3 := (hT2.at dd).c3; have hz0 := (hT2.at dd).z; go_simp; refine hK _ _ ⟨⟨⟨0, Grew.refl _ _⟩, fun e he => by (have hm := mem_listed he; clear he hK; simp [go_sem, hc0, hc1, hc2, hc3, hz0] at hm; rcases hm with rfl | rfl | rfl | rfl <;> exact evT_read _ _)⟩, Own.at ?_ dd⟩; clear hK K hc0 hc1 hc2 hc3 hz0)
  (refine oW fun dd K hK => ?_; have hc0 := (hR2.at dd).c0; have hc1 := (hR2.at dd).c1; have hc2 := (hR2.at dd).c2; have hc3 := (hR2.at dd).c3; have hz0 := (hR2.at dd).z; go_simp; refine hK _ _ ⟨⟨⟨0, grew4 hnr _ _ _ _⟩, fun e he => by (have hm := mem_listed he; clear he hK; simp [go_sem, storedEv, hc0, hc1, hc2, hc3, hz0] at hm; rcases hm with rfl | rfl | rfl | rfl <;> exact evT_write _ _ (hnr _))⟩, ?_⟩; clear hK K hc0 hc1 hc2 hc3 hz0; simp only [setCell_at']; refine Own.at ?_ dd)
  refine ogE ?_
  refine ogX ?_
  have hT3 := hR2.put (.slice aa al ac) (.slice oa ol oz) (.slice xa xl xc) (.bool st)
  change Own _ _ _ _ _ (trW W rb (.slice aa al ac) (.slice oa ol oz) (.slice xa xl xc) (.bool st))
  generalize (trW W rb (.slice aa al ac) (.slice oa ol oz) (.slice xa xl xc) (.bool st)) = V at hT3 h ⊢
  have hc0 := hT3.c0
  have hc1 := hT3.c1
  have hc2 := hT3.c2
  have hc3 := hT3.c3
  have hz0 := hT3.z
  refine own_leave (fn := Try.f34) (v := .agg #[.slice aa al ac, .slice oa ol oz, .slice xa xl xc, .bool st]) rfl rfl Try.func34 (fun d => by simp [results, Try.f34, go_sem, hc0, hc1, hc2, hc3, hz0]) (fun d e he => by simp [results, Try.f34, go_sem, hc0, hc1, hc2, hc3, hz0] at he; rcases he with rfl | rfl | rfl | rfl <;> exact evT_read _ _) ?_
  exact h
end Go.Proofs.Ytlcgkpapnpdfpaa
namespace Go.Proofs.Ytlcgkpapnpdfpaa
open Go Go.Conc Go.RowKit Go.Proofs
variable {P : Program}
theorem wf_E0 (w : World) : Wf F0 w := ⟨fun r z h => by cases h⟩
theorem res_any {fn : Func} {t : Array Value} {w : World} {τ : Tape} {e : Nat} {v : Value} (h : (results fn t).run P (retape w τ e) = .ok v (retape w τ e)) (d : Nat) :
    (results fn t).run P (w.at d) = .ok v (w.at d) ∧ ∀ x ∈ (results fn t).events P (w.at d) #[], EvT F0 x := by
  obtain ⟨w1, es, j, hu, r1, e1, t1, g1, hw1, l1⟩ := (results_sims (P := P) (F := F0) fn t (retape w τ e) (wf_E0 _)).ok (by rw [mask_none (fun _ => rfl)]; exact h)
  rw [mask_none (fun _ => rfl)] at hu
  subst hu
  have hj : j = 0 := by
    have := g1.drawn
    omega
  subst hj
  have h2 := l1 (w.at d).tape (w.at d).drawn (by intro i q hi; omega)
  rw [mask_none (fun _ => rfl)] at h2
  have h3 : (results fn t).run P (w.at d) = .ok v (w.at d) := h2
  refine ⟨h3, fun x hx => ?_⟩
  obtain ⟨w2, es2, j2, hu2, r2, e2, t2, g2, hw2, l2⟩ := (results_sims (P := P) (F := F0) fn t (w.at d) (wf_E0 _)).ok (by rw [mask_none (fun _ => rfl)]; exact h3)
  rw [e2] at hx
  exact t2 x (by simpa using hx)
theorem own_callB {S : FuncId → Bool} (hC : Closed P S true) (hE : NoEarly P) {f : Nat} {fn : Func} {c : Code} (hf : P.funcs[f]? = some fn) (hb : fn.body = some c) (hc : codeOk P S true c = true) {args : Array Value} {w : World} {R : Value → World → Prop}
    (H : ∀ τ e, CallsB P fn args (retape w τ e) R) {cl : Frame} {cs : List Frame} {main : Bool} {Stop : Goroutine → World → Prop}
    (K : ∀ v w' τ e, R v (retape w' τ e) → Gd F0 w w' → Own P main F0 Stop (G (cl.finish v) cs) w') : Own P main F0 Stop (G (Frame.enter P f args .normal) (cl :: cs)) w := by
  let b : Frame := { (default : Frame) with fn := f, kind := .normal }
  have henter : Frame.enter P f args .normal = b.at { tmps := args ++ Array.replicate (fn.ntmps - args.size) undef, defers := [] } [.code c] := by
    simp [Frame.enter, Frame.at, hf, hb, b]
  rw [henter]
  have back : ∀ (a' : Act) (w' : World) (t' : List Item) (τ : Tape) (e : Nat), a'.defers = [] → (∃ v, (results fn a'.tmps).run P (retape (mask F0 w') τ e) = .ok v (retape (mask F0 w') τ e) ∧ ∃ v', Ending.returned v = .returned v' ∧ R v' (retape (mask F0 w') τ e)) → Gd F0 w w' →
      Own P main F0 Stop (G { b.at a' t' with mode := .returning } (cl :: cs)) w' := fun a' w' t' τ e hd ⟨v, h1, v', h2, h3⟩ hg => by
    cases h2
    rw [mask_none (fun _ => rfl)] at h1 h3
    exact own_leave rfl hd hf (fun d => (res_any h1 d).1) (fun d x hx => (res_any h1 d).2 x hx) (K _ _ τ e h3 hg)
  refine lift (Q := bodyPost P fn fun x w' => ∃ v, x = .returned v ∧ R v w') hC (fun _ _ => rfl) hE hc (wf_E0 w) rfl (fun e a w hq => ?_) (fun τ e => ?_) (by simp [b]) (fun a' w' τ e hq _ hg => ?_) (fun a' w' τ e t' hq _ hg => ?_)
  · cases e with
    | normal => exact .inl rfl
    | ret => exact .inr ⟨rfl, hq.1⟩
    | panic ch => obtain ⟨_, v, h, _⟩ := hq; cases h
    | outgrown => obtain ⟨v, h, _⟩ := hq; cases h
    | exit _ => exact hq.elim
    | goto _ => exact hq.elim
  · rw [mask_none (fun _ => rfl)]
    exact H τ e c hb
  · obtain ⟨hd, h⟩ := hq
    have : b.at a' [] = b.at ⟨a'.tmps, []⟩ [] := by rw [← hd]
    rw [this]
    refine own_go rfl (fun d => stepG_end) ?_
    exact back ⟨a'.tmps, []⟩ w' [] τ e rfl h hg
  · obtain ⟨hd, h⟩ := hq
    exact back a' w' _ τ e hd h hg
def codeOkF (P : Program) (S : FuncId → Bool) (f : FuncId) : Bool := match P.funcs[f]? with
  | some fn => !(fn.name == "runtime.NumGoroutine") && match fn.body with
    | some c => codeOk P S true c
    | none => false
  | none => false
theorem codeOkF_of {P : Program} {S : FuncId → Bool} {f : FuncId} (h : codeOkF P S f = true) : ∃ fn, P.funcs[f]? = some fn ∧ (fn.name == "runtime.NumGoroutine") = false ∧ ∃ c, fn.body = some c ∧ codeOk P S true c = true := by
  unfold codeOkF at h
  split at h
  · rename_i fn hf
    rw [Bool.and_eq_true] at h
    obtain ⟨h1, h2⟩ := h
    split at h2
    · rename_i c hc
      exact ⟨fn, hf, by simpa using h1, c, hc, h2⟩
    · cases h2
  · cases h
theorem closed_of {l : List Nat} (h : l.all (codeOkF P fun f => l.contains f) = true) : Closed P (fun f => l.contains f) true := fun f hf => by
  obtain ⟨fn, h1, h2, c, h3, h4⟩ := codeOkF_of (List.all_eq_true.1 h f (List.contains_iff_mem.1 hf))
  exact ⟨fn, h1, h2, .inl ⟨c, h3, h4⟩⟩
theorem own_piece {S : FuncId → Bool} (hC : Closed P S true) (hE : NoEarly P) {c : Code} (hc : codeOk P S true c = true) {A : Array Value} {w : World} {R : Array Value → World → Prop} {b : Frame} {k : List Item} (hk : b.kind ≠ .early)
    (H : ∀ τ e, c.wp P (nrm fun a w => a.defers = [] ∧ R a.tmps w) ⟨A, []⟩ (retape w τ e)) {cs : List Frame} {main : Bool} {Stop : Goroutine → World → Prop}
    (K : ∀ A' w' τ e, R A' (retape w' τ e) → Gd F0 w w' → Own P main F0 Stop (G (b.at ⟨A', []⟩ k) cs) w') : Own P main F0 Stop (G (b.at ⟨A, []⟩ (.code c :: k)) cs) w := by
  refine lift (Q := nrm fun a w => a.defers = [] ∧ R a.tmps w) hC (fun _ _ => rfl) hE hc (wf_E0 w) rfl (fun e a w hq => ?_) (fun τ e => ?_) hk (fun a' w' τ e hq _ hg => ?_) (fun a' w' τ e t' hq _ hg => ?_)
  · cases e with
    | normal => exact .inl rfl
    | _ => exact hq.elim
  · rw [mask_none (fun _ => rfl)]
    exact H τ e
  · obtain ⟨hd, h⟩ := hq
    rw [mask_none (fun _ => rfl)] at h
    obtain ⟨tm, df⟩ := a'
    simp only at hd
    subst hd
    exact K tm w' τ e h hg
  · exact hq.elim
end Go.Proofs.Ytlcgkpapnpdfpaa
namespace Go.Proofs.Ytlcgkpapnpdfpaa
open Go Go.Conc Go.RowKit Go.Proofs
structure ExtOk (P : Program) (f : FuncId) : Prop where
  e : ∃ fn, P.funcs[f]? = some fn ∧ (fn.name == "runtime.NumGoroutine") = false ∧ fn.body = none ∧ Extern.findNext fn = none ∧ ∃ x, Extern.find fn = some x ∧ Entry P true x
theorem closed_ofX {P : Program} {l x : List Nat} (hx : ∀ f ∈ x, ExtOk P f) (h : l.all (fun f => x.contains f || codeOkF P (fun f => l.contains f) f) = true) : Closed P (fun f => l.contains f) true := fun f hf => by
  have h1 := List.all_eq_true.1 h f (List.contains_iff_mem.1 hf)
  rw [Bool.or_eq_true] at h1
  rcases h1 with h1 | h1
  · obtain ⟨fn, a1, a2, a3, a4, y, a5, a6⟩ := (hx f (List.contains_iff_mem.1 h1)).e
    exact ⟨fn, a1, a2, .inr ⟨a3, a4, y, a5, a6⟩⟩
  · obtain ⟨fn, a1, a2, c, a3, a4⟩ := codeOkF_of h1
    exact ⟨fn, a1, a2, .inl ⟨c, a3, a4⟩⟩
theorem ext_load {f : FuncId} {fn : Func} {t : Extern.Atomic.T} (h1 : Try.prog.funcs[f]? = some fn) (h2 : (fn.name == "runtime.NumGoroutine") = false) (h3 : fn.body = none) (h4 : Extern.findNext fn = none) (h5 : Extern.find fn = some (Extern.Atomic.loadT t)) : ExtOk Try.prog f :=
  ⟨fn, h1, h2, h3, h4, _, h5, fun F _ args => Sims.loadT t args⟩
theorem ext_store {f : FuncId} {fn : Func} (h1 : Try.prog.funcs[f]? = some fn) (h2 : (fn.name == "runtime.NumGoroutine") = false) (h3 : fn.body = none) (h4 : Extern.findNext fn = none) (h5 : Extern.find fn = some Extern.Atomic.storeT) : ExtOk Try.prog f :=
  ⟨fn, h1, h2, h3, h4, _, h5, fun F _ args => Sims.storeT args⟩
theorem ext_cas {f : FuncId} {fn : Func} {t : Extern.Atomic.T} (h1 : Try.prog.funcs[f]? = some fn) (h2 : (fn.name == "runtime.NumGoroutine") = false) (h3 : fn.body = none) (h4 : Extern.findNext fn = none) (h5 : Extern.find fn = some (Extern.Atomic.casT t)) : ExtOk Try.prog f :=
  ⟨fn, h1, h2, h3, h4, _, h5, fun F hF args => Sims.casT t (hF rfl) args⟩
theorem ext87 : ExtOk Try.prog 87 := ext_store Try.func87 (by kernel_rfl) (by kernel_rfl) (by kernel_rfl) (by kernel_rfl)
theorem ext88 : ExtOk Try.prog 88 := ext_load (t := .int .i64) Try.func88 (by kernel_rfl) (by kernel_rfl) (by kernel_rfl) (by kernel_rfl)
theorem ext96 : ExtOk Try.prog 96 := ext_store Try.func96 (by kernel_rfl) (by kernel_rfl) (by kernel_rfl) (by kernel_rfl)
theorem ext97 : ExtOk Try.prog 97 := ext_load (t := .int .u64) Try.func97 (by kernel_rfl) (by kernel_rfl) (by kernel_rfl) (by kernel_rfl)
theorem ext113 : ExtOk Try.prog 113 := ext_cas (t := .int .i64) Try.func113 (by kernel_rfl) (by kernel_rfl) (by kernel_rfl) (by kernel_rfl)
theorem ext114 : ExtOk Try.prog 114 := ext_cas (t := .int .u64) Try.func114 (by kernel_rfl) (by kernel_rfl) (by kernel_rfl) (by kernel_rfl)
theorem extA : ∀ f ∈ [87, 88, 96, 97, 113, 114], ExtOk Try.prog f := by
  intro f hf
  simp only [List.mem_cons, List.not_mem_nil, or_false] at hf
  rcases hf with rfl | rfl | rfl | rfl | rfl | rfl
  · exact ext87
  · exact ext88
  · exact ext96
  · exact ext97
  · exact ext113
  · exact ext114
def kFns : List Nat := [36, 38, 39, 65, 52, 54, 74, 75, 76, 77, 87, 88, 96, 97]
theorem closedK : Closed Try.prog (fun f => kFns.contains f) true := closed_ofX extA (by kernel_rfl)
theorem CallsB.mono {P : Program} {fn : Func} {args : Array Value} {w : World} {R R' : Value → World → Prop} (h : CallsB P fn args w R) (hr : ∀ v u, R v u → R' v u) : CallsB P fn args w R' := fun c hc => by
  refine Code.wp_mono (fun e a u hq => ?_) (h c hc)
  cases e with
  | normal => obtain ⟨h1, v, h2, v', h3, h4⟩ := hq; exact ⟨h1, v, h2, v', h3, hr _ _ h4⟩
  | ret => obtain ⟨h1, v, h2, v', h3, h4⟩ := hq; exact ⟨h1, v, h2, v', h3, hr _ _ h4⟩
  | panic ch => obtain ⟨h1, v', h3, h4⟩ := hq; exact ⟨h1, v', h3, hr _ _ h4⟩
  | outgrown => obtain ⟨v', h3, h4⟩ := hq; exact ⟨v', h3, hr _ _ h4⟩
  | exit _ => exact hq
  | goto _ => exact hq
variable {w w' : World} {kb : Nat}
theorem own_knew {size : Int} {tg : Bool} {n : Nat} (hn : min (max size 1) 65536 = (n : Int)) {c : Frame} {cs : List Frame} {main : Bool} {Stop : Goroutine → World → Prop}
    (K : ∀ w1, KU (w.heap.size + 1) ⟨knew n tg, w.heap.size⟩ w1 → w.heap.size + 2 ≤ w1.heap.size → (∀ r, r < w.heap.size → w1.heap[r]? = w.heap[r]?) → Own Try.prog main F0 Stop (G (c.finish (.pointer (some ⟨w.heap.size + 1, 0, none⟩))) cs) w1) :
    Own Try.prog main F0 Stop (G (Frame.enter Try.prog 36 #[.int .i64 size, .bool tg] .normal) (c :: cs)) w := by
  refine own_callB closedK prog_late Try.func36 rfl (by kernel_rfl) (R := fun x w' => x = .pointer (some ⟨w.heap.size + 1, 0, none⟩) ∧ KU (w.heap.size + 1) ⟨knew n tg, w.heap.size⟩ w' ∧ w.heap.size + 2 ≤ w'.heap.size ∧ ∀ r, r < w.heap.size → w'.heap[r]? = w.heap[r]?) (fun τ e => new_callsB (w := retape w τ e) hn) fun v w' τ e hR hg => ?_
  obtain ⟨rfl, h1, h2, h3⟩ := hR
  exact K w' (h1.heap rfl) h2 h3
theorem own_heads {s : KS} (hU : KU kb s w) {c : Frame} {cs : List Frame} {main : Bool} {Stop : Goroutine → World → Prop}
    (K : ∀ w1, w1.heap = w.heap → Own Try.prog main F0 Stop (G (c.finish (.tuple #[.int .i64 s.k.hd.1, .int .i64 s.k.hd.2, .int .i64 s.k.fr.1, .int .i64 s.k.fr.2])) cs) w1) :
    Own Try.prog main F0 Stop (G (Frame.enter Try.prog 38 #[.pointer (some ⟨kb, 0, none⟩)] .normal) (c :: cs)) w := by
  refine own_callB closedK prog_late Try.func38 rfl (by kernel_rfl) (R := fun v w' => v = (.tuple #[.int .i64 s.k.hd.1, .int .i64 s.k.hd.2, .int .i64 s.k.fr.1, .int .i64 s.k.fr.2]) ∧ w'.heap = w.heap) (fun τ e => heads_callsB (w := retape w τ e) (hU.heap rfl)) fun v w' τ e hR hg => ?_
  obtain ⟨rfl, h⟩ := hR
  exact K w' h
theorem own_kstate {s : KS} (hU : KU kb s w) {c : Frame} {cs : List Frame} {main : Bool} {Stop : Goroutine → World → Prop}
    (K : ∀ w1 ov, ValsAt w w1 ov ([s.k.hd.1, s.k.hd.2, s.k.fr.1, s.k.fr.2] ++ s.k.vals) → Own Try.prog main F0 Stop (G (c.finish ov) cs) w1) :
    Own Try.prog main F0 Stop (G (Frame.enter Try.prog 65 #[.pointer (some ⟨kb, 0, none⟩)] .normal) (c :: cs)) w := by
  refine own_callB closedK prog_late Try.func65 rfl (by kernel_rfl) (R := fun ov w' => ValsAt w w' ov ([s.k.hd.1, s.k.hd.2, s.k.fr.1, s.k.fr.2] ++ s.k.vals)) (fun τ e => (state_callsB (w := retape w τ e) (hU.heap rfl)).mono fun v u h => ⟨h.row, h.size, h.old, h.new⟩) fun v w' τ e hR hg => ?_
  exact K w' v ⟨ownsRow_same2 hR.row fun _ _ _ => rfl, hR.size, hR.old, hR.new⟩
end Go.Proofs.Ytlcgkpapnpdfpaa
namespace Go.Proofs.Ytlcgkpapnpdfpaa
open Go Go.Conc Go.RowKit Go.Proofs
variable {w : World}
theorem callable31 : Callable 31 := callable Try.func31 rfl rfl
theorem callable38 : Callable 38 := callable Try.func38 rfl rfl
theorem own_push' {sv : Value} {main : Bool} {sb m : Nat} {X : Nat → World → Prop} {kb : Nat} {s : KS} {v : Int} {b : Bool} (hb : decide (¬ s.k.fr.1 < 0) = b) (S : Stepr sv main sb X) (hU : KU kb s w) (hX : X m w) (hm : m + 7 < 4611686018427387904) (hsb : ¬ KR kb s sb) {c : Frame} {cs : List Frame} {Stop : Goroutine → World → Prop}
    (K : ∀ w', AlK kb sb X w s ⟨s.k.push1 v, s.nb⟩ (m + if s.k.fr.1 < 0 then 1 else 7) w' → Own Try.prog main F0 Stop (G (c.finish (.bool b)) cs) w') :
    Own Try.prog main F0 Stop (G (Frame.enter Try.prog 45 #[.pointer (some ⟨kb, 0, none⟩), sv, .int .i64 v] .normal) (c :: cs)) w := by
  subst hb
  exact own_push S hU hX hm hsb K
theorem own_pop' {sv : Value} {main : Bool} {sb m : Nat} {X : Nat → World → Prop} {kb : Nat} {s : KS} {v : Int} {b : Bool} (hv : (if s.k.hd.1 < 0 then 0 else s.k.val s.k.hd.1) = v) (hb : decide (¬ s.k.hd.1 < 0) = b) (S : Stepr sv main sb X) (hU : KU kb s w) (hX : X m w) (hm : m + 7 < 4611686018427387904) (hsb : ¬ KR kb s sb) {c : Frame} {cs : List Frame} {Stop : Goroutine → World → Prop}
    (K : ∀ w', AlK kb sb X w s ⟨s.k.pop1, s.nb⟩ (m + if s.k.hd.1 < 0 then 1 else 7) w' → Own Try.prog main F0 Stop (G (c.finish (.tuple #[.int .i64 v, .bool b])) cs) w') :
    Own Try.prog main F0 Stop (G (Frame.enter Try.prog 43 #[.pointer (some ⟨kb, 0, none⟩), sv] .normal) (c :: cs)) w := by
  subst hb hv
  exact own_pop S hU hX hm hsb K
theorem own_heads' {kb : Nat} {s : KS} {x1 x2 x3 x4 : Int} (hU : KU kb s w) (h1 : s.k.hd = (x1, x2)) (h2 : s.k.fr = (x3, x4)) {c : Frame} {cs : List Frame} {main : Bool} {Stop : Goroutine → World → Prop}
    (K : ∀ w1, w1.heap = w.heap → Own Try.prog main F0 Stop (G (c.finish (.tuple #[.int .i64 x1, .int .i64 x2, .int .i64 x3, .int .i64 x4])) cs) w1) :
    Own Try.prog main F0 Stop (G (Frame.enter Try.prog 38 #[.pointer (some ⟨kb, 0, none⟩)] .normal) (c :: cs)) w :=
  own_heads hU fun w1 e => by
    rw [h1, h2]
    exact K w1 e
def tu0 : KSt := knew 2 true
def tu1 : KSt := tu0.push1 5
def tu2 : KSt := tu1.push1 6
def tu3 : KSt := tu2.push1 7
def tu4 : KSt := tu3.pop1
theorem tud0 : decide (¬ tu0.fr.1 < 0) = true := by decide
theorem tud1 : decide (¬ tu1.fr.1 < 0) = true := by decide
theorem tud2 : decide (¬ tu2.fr.1 < 0) = false := by decide
theorem tud3 : decide (¬ tu3.hd.1 < 0) = true := by decide
theorem tuv3 : (if tu3.hd.1 < 0 then 0 else tu3.val tu3.hd.1) = 6 := by decide
theorem tuh4 : tu4.hd = (0, 3) := by decide
theorem tuf4 : tu4.fr = (1, 3) := by decide
noncomputable def ktuBody : Code := Try.f30.body.getD .skip
noncomputable def ktus0 : Code := Code.piece [] ktuBody
noncomputable def ktur0 : Code := Code.piece [true] ktuBody
noncomputable def ktuo0 : Array Oper := Code.opsOf ktur0
noncomputable def ktus1 : Code := Code.piece [false] ktuBody
noncomputable def ktur1 : Code := Code.piece [false, true] ktuBody
noncomputable def ktuo1 : Array Oper := Code.opsOf ktur1
noncomputable def ktus2 : Code := Code.piece [false, false] ktuBody
noncomputable def ktus3 : Code := Code.piece [false, false, true] ktuBody
noncomputable def ktur2 : Code := Code.piece [false, false, true, true] ktuBody
noncomputable def ktuo2 : Array Oper := Code.opsOf ktur2
noncomputable def ktuc30 : Code := Code.piece [false, false, true, false] ktuBody
noncomputable def ktus4 : Code := Code.piece [false, false, true, false, true] ktuBody
noncomputable def ktur3 : Code := Code.piece [false, false, true, false, true, true] ktuBody
noncomputable def ktuo3 : Array Oper := Code.opsOf ktur3
noncomputable def ktus5 : Code := Code.piece [false, false, false] ktuBody
noncomputable def ktur4 : Code := Code.piece [false, false, false, true] ktuBody
noncomputable def ktuo4 : Array Oper := Code.opsOf ktur4
noncomputable def ktus6 : Code := Code.piece [false, false, false, false] ktuBody
noncomputable def ktur5 : Code := Code.piece [false, false, false, false, true] ktuBody
noncomputable def ktuo5 : Array Oper := Code.opsOf ktur5
noncomputable def ktus7 : Code := Code.piece [false, false, false, false, false] ktuBody
noncomputable def ktur6 : Code := Code.piece [false, false, false, false, false, true] ktuBody
noncomputable def ktuo6 : Array Oper := Code.opsOf ktur6
noncomputable def ktus8 : Code := Code.piece [false, false, false, false, false, false] ktuBody
noncomputable def ktur7 : Code := Code.piece [false, false, false, false, false, false, true] ktuBody
noncomputable def ktuo7 : Array Oper := Code.opsOf ktur7
theorem ktus0_eq : ktus0 = .seq ktur0 ktus1 := by kernel_rfl
theorem ktur0_eq : ktur0 = .region 0 ktuo0 false := by kernel_rfl
theorem ktus1_eq : ktus1 = .seq ktur1 ktus2 := by kernel_rfl
theorem ktur1_eq : ktur1 = .region 1 ktuo1 false := by kernel_rfl
theorem ktus2_eq : ktus2 = .seq ktus3 ktus5 := by kernel_rfl
theorem ktus3_eq : ktus3 = .seq ktur2 ktuc30 := by kernel_rfl
theorem ktur2_eq : ktur2 = .region 2 ktuo2 false := by kernel_rfl
theorem ktuc30_eq : ktuc30 = .cond (.tmp 30) ktus4 .skip := by kernel_rfl
theorem ktus4_eq : ktus4 = .seq ktur3 .ret := by kernel_rfl
theorem ktur3_eq : ktur3 = .region 3 ktuo3 false := by kernel_rfl
theorem ktus5_eq : ktus5 = .seq ktur4 ktus6 := by kernel_rfl
theorem ktur4_eq : ktur4 = .region 4 ktuo4 false := by kernel_rfl
theorem ktus6_eq : ktus6 = .seq ktur5 ktus7 := by kernel_rfl
theorem ktur5_eq : ktur5 = .region 5 ktuo5 false := by kernel_rfl
theorem ktus7_eq : ktus7 = .seq ktur6 ktus8 := by kernel_rfl
theorem ktur6_eq : ktur6 = .region 6 ktuo6 false := by kernel_rfl
theorem ktus8_eq : ktus8 = .seq ktur7 .ret := by kernel_rfl
theorem ktur7_eq : ktur7 = .region 7 ktuo7 false := by kernel_rfl
theorem enter_ktu (args : Array Value) : Frame.enter Try.prog 30 args .normal = (Go.Conc.base 30).at { tmps := args ++ Array.replicate (76 - args.size) undef, defers := [] } [.code ktus0] := enter_at args Try.func30 rfl
theorem callable30 : Callable 30 := callable Try.func30 rfl rfl
def ktuT (s : Nat → Value) : Array Value := #[s 0, s 1, s 2, s 3, s 4, s 5, s 6, s 7, s 8, s 9, s 10, s 11, s 12, s 13, s 14, s 15, s 16, s 17, s 18, s 19, s 20, s 21, s 22, s 23, s 24, s 25, s 26, s 27, s 28, s 29, s 30, s 31, s 32, s 33, s 34, s 35, s 36, s 37, s 38, s 39, s 40, s 41, s 42, s 43, s 44, s 45, s 46, s 47, s 48, s 49, s 50, s 51, s 52, s 53, s 54, s 55, s 56, s 57, s 58, s 59, s 60, s 61, s 62, s 63, s 64, s 65, s 66, s 67, s 68, s 69, s 70, s 71, s 72, s 73, s 74, s 75]
theorem ktuT_of {A : Array Value} (h : A.size = 76) : ∃ s, A = ktuT s := by
  obtain ⟨s, hs, _⟩ := arr_lit A h
  exact ⟨s, hs⟩
set_option maxRecDepth 100000 in
set_option maxHeartbeats 2000000 in
theorem tu_0 {cs : List Frame} {main : Bool} {Stop : Goroutine → World → Prop}
    (h : ∀ A w', Slots 76 A [(2, .int .i64 6), (3, .bool true), (4, .int .i64 0), (5, .int .i64 3), (6, .int .i64 1), (7, .int .i64 3)] → w.heap.size ≤ w'.heap.size → (∀ r, r < w.heap.size → w'.heap[r]? = w.heap[r]?) → Own Try.prog main F0 Stop (G (Frame.enter Try.prog 31 #[.bool true] .normal) (((Go.Conc.base 30).at ⟨A, []⟩ [.inRegion ktuo6 [0, 1, 2], .code ktus8]) :: cs)) w') :
    Own Try.prog main F0 Stop (G (Frame.enter Try.prog 30 #[] .normal) cs) w := by
  rw [enter_ktu]
  walk_nrm
  rw [ktus0_eq]
  refine ogS ?_
  rw [ktur0_eq]
  refine ogR ?_
  simp only [ktuo0, Code.opsOf, ktur0, Code.piece, ktuBody, Try.f30, Option.getD_some, List.size_toArray, List.length_cons, List.length_nil, Nat.reduceAdd, Nat.zero_add, List.range, List.range.loop]
  (refine oW fun dd K hK => ?_; go_simp; refine qT hK ?_; clear hK K)
  refine ogE ?_
  rw [ktus1_eq]
  refine ogS ?_
  rw [ktur1_eq]
  refine ogR ?_
  simp only [ktuo1, Code.opsOf, ktur1, Code.piece, ktuBody, Try.f30, Option.getD_some, List.size_toArray, List.length_cons, List.length_nil, Nat.reduceAdd, Nat.zero_add, List.range, List.range.loop]
  refine oc callable36 #[.int .i64 2, .bool true] ?_
  refine own_knew (n := 2) rfl fun w1 k1 k2 k3 => ?_
  generalize ekb : w.heap.size + 1 = kb at k1 ⊢
  generalize enb : w.heap.size = nb at k1
  have hsb : ¬ KR kb ⟨tu0, nb⟩ (w.heap.size + 2) := by rintro (h | h) <;> first | omega | (change _ = nb at h; omega)
  generalize esb : w.heap.size + 2 = sb at hsb
  rw [Frame.finish_at]
  walk_nrm
  (refine oW fun dd K hK => ?_; go_simp; refine qT hK ?_; clear hK K)
  refine ogE ?_
  rw [ktus2_eq]
  refine ogS ?_
  rw [ktus3_eq]
  refine ogS ?_
  rw [ktur2_eq]
  refine ogR ?_
  simp only [ktuo2, Code.opsOf, ktur2, Code.piece, ktuBody, Try.f30, Option.getD_some, List.size_toArray, List.length_cons, List.length_nil, Nat.reduceAdd, Nat.zero_add, List.range, List.range.loop]
  (refine oW fun dd K hK => ?_; go_simp; refine qT hK ?_; clear hK K)
  (refine oW fun dd K hK => ?_; go_simp; refine qT hK ?_; clear hK K)
  (refine oW fun dd K hK => ?_; go_simp; refine qT hK ?_; clear hK K)
  (refine oW fun dd K hK => ?_; go_simp; refine qT hK ?_; clear hK K)
  refine oc callable40 #[.pointer (some ⟨kb, 0, none⟩)] ?_
  refine own_size k1 (v := 2) rfl ?_
  rw [Frame.finish_at]
  walk_nrm
  (refine oW fun dd K hK => ?_; go_simp; refine qT hK ?_; clear hK K)
  (refine oW fun dd K hK => ?_; go_simp; refine qT hK ?_; clear hK K)
  (refine oW fun dd K hK => ?_; go_simp; refine qT hK ?_; clear hK K)
  (refine oW fun dd K hK => ?_; go_simp; refine qT hK ?_; clear hK K)
  refine oc callable45 #[.pointer (some ⟨kb, 0, none⟩), .nilIface, .int .i64 5] ?_
  refine own_push' (m := 0) (s := ⟨tu0, nb⟩) (b := true) tud0 (nilS main sb) k1 trivial (by decide) hsb fun w2 a1 => ?_
  have u1 : KU kb ⟨tu1, nb⟩ w2 := a1.u
  rw [Frame.finish_at]
  walk_nrm
  (refine oW fun dd K hK => ?_; go_simp; refine qT hK ?_; clear hK K)
  (refine oW fun dd K hK => ?_; go_simp; refine qT hK ?_; clear hK K)
  (refine oW fun dd K hK => ?_; go_simp; refine qT hK ?_; clear hK K)
  (refine oW fun dd K hK => ?_; go_simp; refine qT hK ?_; clear hK K)
  refine oc callable45 #[.pointer (some ⟨kb, 0, none⟩), .nilIface, .int .i64 6] ?_
  refine own_push' (m := 0) (s := ⟨tu1, nb⟩) (b := true) tud1 (nilS main sb) u1 trivial (by decide) hsb fun w3 a2 => ?_
  have u2 : KU kb ⟨tu2, nb⟩ w3 := a2.u
  rw [Frame.finish_at]
  walk_nrm
  (refine oW fun dd K hK => ?_; go_simp; refine qT hK ?_; clear hK K)
  (refine oW fun dd K hK => ?_; go_simp; refine qT hK ?_; clear hK K)
  (refine oW fun dd K hK => ?_; go_simp; refine qT hK ?_; clear hK K)
  (refine oW fun dd K hK => ?_; go_simp; refine qT hK ?_; clear hK K)
  refine oc callable45 #[.pointer (some ⟨kb, 0, none⟩), .nilIface, .int .i64 7] ?_
  refine own_push' (m := 0) (s := ⟨tu2, nb⟩) (b := false) tud2 (nilS main sb) u2 trivial (by decide) hsb fun w4 a3 => ?_
  have u3 : KU kb ⟨tu3, nb⟩ w4 := a3.u
  rw [Frame.finish_at]
  walk_nrm
  (refine oW fun dd K hK => ?_; go_simp; refine qT hK ?_; clear hK K)
  refine ogE ?_
  rw [ktuc30_eq]
  refine ogF ?_
  simp only [Bool.false_eq_true, if_false]
  refine ogK ?_
  rw [ktus5_eq]
  refine ogS ?_
  rw [ktur4_eq]
  refine ogR ?_
  simp only [ktuo4, Code.opsOf, ktur4, Code.piece, ktuBody, Try.f30, Option.getD_some, List.size_toArray, List.length_cons, List.length_nil, Nat.reduceAdd, Nat.zero_add, List.range, List.range.loop]
  (refine oW fun dd K hK => ?_; go_simp; refine qT hK ?_; clear hK K)
  refine oc callable43 #[.pointer (some ⟨kb, 0, none⟩), .nilIface] ?_
  refine own_pop' (m := 0) (s := ⟨tu3, nb⟩) (v := 6) (b := true) tuv3 tud3 (nilS main sb) u3 trivial (by decide) hsb fun w5 a4 => ?_
  have u4 : KU kb ⟨tu4, nb⟩ w5 := a4.u
  rw [Frame.finish_at]
  walk_nrm
  (refine oW fun dd K hK => ?_; go_simp; refine qT hK ?_; clear hK K)
  (refine oW fun dd K hK => ?_; go_simp; refine qT hK ?_; clear hK K)
  (refine oW fun dd K hK => ?_; go_simp; refine qT hK ?_; clear hK K)
  (refine oW fun dd K hK => ?_; go_simp; refine qT hK ?_; clear hK K)
  (refine oW fun dd K hK => ?_; go_simp; refine qT hK ?_; clear hK K)
  refine ogE ?_
  rw [ktus6_eq]
  refine ogS ?_
  rw [ktur5_eq]
  refine ogR ?_
  simp only [ktuo5, Code.opsOf, ktur5, Code.piece, ktuBody, Try.f30, Option.getD_some, List.size_toArray, List.length_cons, List.length_nil, Nat.reduceAdd, Nat.zero_add, List.range, List.range.loop]
  (refine oW fun dd K hK => ?_; go_simp; refine qT hK ?_; clear hK K)
  refine oc callable38 #[.pointer (some ⟨kb, 0, none⟩)] ?_
  refine own_heads' (s := ⟨tu4, nb⟩) (x1 := 0) (x2 := 3) (x3 := 1) (x4 := 3) u4 tuh4 tuf4 fun w6 e6 => ?_
  rw [Frame.finish_at]
  walk_nrm
  (refine oW fun dd K hK => ?_; go_simp; refine qT hK ?_; clear hK K)
  (refine oW fun dd K hK => ?_; go_simp; refine qT hK ?_; clear hK K)
  (refine oW fun dd K hK => ?_; go_simp; refine qT hK ?_; clear hK K)
  (refine oW fun dd K hK => ?_; go_simp; refine qT hK ?_; clear hK K)
  (refine oW fun dd K hK => ?_; go_simp; refine qT hK ?_; clear hK K)
  (refine oW fun dd K hK => ?_; go_simp; refine qT hK ?_; clear hK K)
  (refine oW fun dd K hK => ?_; go_simp; refine qT hK ?_; clear hK K)
  (refine oW fun dd K hK => ?_; go_simp; refine qT hK ?_; clear hK K)
  (refine oW fun dd K hK => ?_; go_simp; refine qT hK ?_; clear hK K)
  refine ogE ?_
  rw [ktus7_eq]
  refine ogS ?_
  rw [ktur6_eq]
  refine ogR ?_
  simp only [ktuo6, Code.opsOf, ktur6, Code.piece, ktuBody, Try.f30, Option.getD_some, List.size_toArray, List.length_cons, List.length_nil, Nat.reduceAdd, Nat.zero_add, List.range, List.range.loop]
  refine oc callable31 #[.bool true] ?_
  have hs : w6.heap.size = w1.heap.size := by
    have := a1.sz; have := a2.sz; have := a3.sz; have := a4.sz
    rw [e6]; omega
  refine h _ w6 ⟨rfl, rfl, rfl, rfl, rfl, rfl, rfl, trivial⟩ (by omega) fun r hr => ?_
  have hr1 : r ≠ sb := by omega
  have hr2 : ∀ x : KSt, ¬ KR kb ⟨x, nb⟩ r := fun x => by rintro (h | h) <;> first | omega | (change _ = nb at h; omega)
  rw [e6, a4.o r hr1 (hr2 _), a3.o r hr1 (hr2 _), a2.o r hr1 (hr2 _), a1.o r hr1 (hr2 _), k3 r hr]
end Go.Proofs.Ytlcgkpapnpdfpaa
namespace Go.Proofs.Ytlcgkpapnpdfpaa
open Go Go.Conc Go.RowKit Go.Proofs
variable {An : Anchor} {w w' : World}
theorem OpsIn.later {N N' : Nat → Prop} {n tb o tl : Nat} {ta : Option Addr} {oa : Nat → Option Addr} {ol oc : Nat → Nat} {ops : Nat → List Op4} {S : List Int} {sa : Option Addr} (h : OpsIn w N n tb o tl ta oa ol oc ops S sa) (hs : w.heap.size ≤ w'.heap.size) (hold : ∀ r, r < w.heap.size → w'.heap[r]? = w.heap[r]?) (hN : ∀ r, N' r → w.heap.size ≤ r) : OpsIn w' N' n tb o tl ta oa ol oc ops S sa := by
  have hc : ∀ {a : Addr} {v : Value}, w.cell? a = some v → w'.cell? a = some v ∧ w'.frozen? a = w.frozen? a := fun {a v} h => by
    obtain ⟨c, e, z, ho⟩ := cell_block h
    have e1 := hold _ (Array.getElem?_eq_some_iff.1 ho).1
    exact ⟨by rw [← h]; unfold World.cell?; simp only [e1], by unfold World.frozen?; simp only [e1]⟩
  refine ⟨h.hn, h.hta, fun hp => by have := h.htb hp; omega, fun j hj => ?_, h.hlen, fun j hj k x hx => ?_, h.hsl, fun hp => ?_⟩
  · obtain ⟨h1, h2, h3⟩ := h.hth j hj
    exact ⟨(hc h1).1, (hc h1).2.trans h2, h3⟩
  · obtain ⟨opb, oo, h1, h2, f0, f1, f2, f3, g0, g1, g2, g3⟩ := h.hop j hj k x hx
    obtain ⟨c, e, z, ho⟩ := cell_block f0
    have hlt := (Array.getElem?_eq_some_iff.1 ho).1
    exact ⟨opb, oo, h1, fun hn => by have := hN _ hn; simp only at hlt; omega, (hc f0).1, (hc f1).1, (hc f2).1, (hc f3).1, (hc f0).2.trans g0, (hc f1).2.trans g1, (hc f2).2.trans g2, (hc f3).2.trans g3⟩
  · obtain ⟨sb, so, c, e, z, h1, h2, h3, h4⟩ := h.hS hp
    have hlt := (Array.getElem?_eq_some_iff.1 h3).1
    exact ⟨sb, so, c, e, z, h1, fun hn => by have := hN _ hn; omega, (hold _ hlt).trans h3, h4⟩
theorem own_off {base n size : Nat} {e : TypeId} {v : Value} {xs : List Value} (h : w.ownsRow base e size v n xs) (hs : ∀ b c, w.heap[b]? = some (.cells c e (0, 0)) → base ≤ b → w'.heap[b]? = w.heap[b]?) : w'.ownsRow base e size v n xs := by
  refine ⟨h.1, ?_⟩
  rcases h.2 with h2 | ⟨b, cap, cur, rfl, h3, h4, h5⟩
  · exact .inl h2
  · exact .inr ⟨b, cap, cur, rfl, h3, (hs b cur h4 h3).trans h4, h5⟩
structure PlayU (w : World) (n : Nat) (ans : Nat → List (Bool × Int)) (state : List Int) (order : List Nat) (aa : Nat) (ov sv : Value) (w' : World) : Prop where
  size : w.heap.size ≤ w'.heap.size
  old : ∀ (r : Nat) (c : Array Value) (e : TypeId) (z : Nat × Nat), w.heap[r]? = some (.cells c e z) → w'.heap[r]? = some (.cells c e z)
  arr : ∃ c, w'.heap[aa]? = some (.cells c 42 (0, 0)) ∧ c.size = n ∧ ∀ i, i < n → ∃ v, c[i]? = some v ∧ (ans i).length ≤ 65536 ∧ w'.ownsRow 0 44 3 v (ans i).length (ansC (ans i))
  ord : w'.ownsRow w.heap.size 3 1 ov order.length (order.map fun i : Nat => Value.int .i64 i)
  st : w'.ownsRow w.heap.size 2 1 sv state.length (state.map fun v => .int .i64 v)
def KSt.state (s : KSt) : List Int := [s.hd.1, s.hd.2, s.fr.1, s.fr.2] ++ s.vals
def kabs (kb : Nat) : Abs (KLay kb) KPl := ⟨KS.k, KC.c, id⟩
theorem kabs_ok (kb : Nat) : (kabs kb).Ok where
  beg := fun s i o y h => by
    obtain ⟨y1, y2⟩ := y
    have h2 := h.2
    cases y2 <;> exact h2
  stp := fun s c y h => by
    obtain ⟨y1, y2⟩ := y
    have h2 := h.2
    cases y2 <;> exact h2
def ks0 (n : Nat) (tg : Bool) : GS KPl := ⟨knew n tg, fun _ => ⟨0, none, []⟩⟩
set_option maxHeartbeats 1000000 in
theorem bes_kplay {size : Int} {tg : Bool} {m0 : Nat} (hm0 : min (max size 1) 65536 = (m0 : Int))
    {n tb o tl tc sc M : Nat} {mo : Int} {ta sa : Option Addr} {oa : Nat → Option Addr} {ol oc : Nat → Nat} {ops : Nat → List Op4} {S : List Int} (hI : OpsIn w (fun _ => False) n tb o tl ta oa ol oc ops S sa) (hM : min (max mo 0) 1048576 = (M : Int)) {c : Frame} {cs : List Frame} {Stop : Goroutine → World → Prop}
    (hP : ∀ (s : GS KPl) order, gDone n M (s, order) → (∃ k, ∀ f, k ≤ f → gOver ops n M S f (ks0 m0 tg) = (s, order)) →
      ∀ aa oa' oc' xa xc w', PlayU w n (fun i => (s.th i).ans) (KSt.state s.q) order aa (.slice oa' order.length oc') (.slice xa (KSt.state s.q).length xc) w' →
        Bes An Try.prog Stop (G (c.finish (.agg #[.slice (some ⟨aa, 0, none⟩) n n, .slice oa' order.length oc', .slice xa (KSt.state s.q).length xc, .bool (decide (0 < cnt s.live n))])) cs) w') :
    Bes An Try.prog Stop (G (Frame.enter Try.prog 34 #[.int .i64 size, .bool tg, .slice ta tl tc, .slice sa S.length sc, .int .i64 mo] .normal) (c :: cs)) w := by
  have hF : ∀ a : Addr, ¬ held F0 a := fun a h => by obtain ⟨z, hz, _⟩ := h; cases hz
  have hrow0 : ∀ r, r < w.heap.size → (w.alloc (.cells #[.slice none 0 0, .slice none 0 0, .slice none 0 0, .bool false] 31)).heap[r]? = w.heap[r]? := fun r hr => heap_alloc_lt _ _ hr
  have hs0 : (w.alloc (.cells #[.slice none 0 0, .slice none 0 0, .slice none 0 0, .bool false] 31)).heap.size = w.heap.size + 1 := by simp
  have htr : TrAt (w.alloc (.cells #[.slice none 0 0, .slice none 0 0, .slice none 0 0, .bool false] 31)) w.heap.size (.slice none 0 0) (.slice none 0 0) (.slice none 0 0) (.bool false) := ⟨heap_alloc_new _ _⟩
  refine bes_own (F := F0) (Stop := fun a u => ∃ A, a = G (Frame.enter Try.prog 47 #[.slice ta tl tc, .func (.func 64) #[.pointer (some ⟨w.heap.size + 2, 0, none⟩)] #[], .slice sa S.length sc, .int .i64 mo] .normal) (((Go.Conc.base 34).at ⟨A, []⟩ [.inRegion kplo2 [5, 6, 7], .code kpls3]) :: c :: cs) ∧
      Slots 26 A [(10, .pointer (some ⟨w.heap.size, 0, none⟩)), (11, .pointer (some ⟨w.heap.size + 2, 0, none⟩))] ∧ KU (w.heap.size + 2) ⟨knew m0 tg, w.heap.size + 1⟩ u ∧ w.heap.size + 3 ≤ u.heap.size ∧ (∀ r, r < w.heap.size + 1 → u.heap[r]? = (w.alloc (.cells #[.slice none 0 0, .slice none 0 0, .slice none 0 0, .bool false] 31)).heap[r]?))
    (kpl_0 under_F0 (Nat.zero_le _) fun A hA => own_knew hm0 fun w1 k1 k2 k3 => by
      rw [hs0] at k1 k2 k3 ⊢
      exact kpl_1 hA fun A2 hA2 => .stop fun d => ⟨A2, rfl, hA2, k1.heap rfl, k2, k3⟩) fun a W hS => ?_
  obtain ⟨A, rfl, hA, hQ, hWs, hWo⟩ := hS
  have hold1 : ∀ r, r < w.heap.size → W.heap[r]? = w.heap[r]? := fun r hr => (hWo r (by omega)).trans (hrow0 r hr)
  have hrb1 : W.heap[w.heap.size]? = some (.cells #[.slice none 0 0, .slice none 0 0, .slice none 0 0, .bool false] 31 (0, 0)) := (hWo _ (by omega)).trans htr.o
  have hNr : ∀ r, (KLay (w.heap.size + 2)).SR ⟨knew m0 tg, w.heap.size + 1⟩ r → w.heap.size + 1 ≤ r := fun r hr => by
    rcases hr with rfl | rfl <;> simp
  have hI1 : OpsIn W ((KLay (w.heap.size + 2)).SR ⟨knew m0 tg, w.heap.size + 1⟩) n tb o tl ta oa ol oc ops S sa := hI.later (by omega) hold1 fun r hr => by have := hNr r hr; omega
  refine bes_ops (L := KLay (w.heap.size + 2)) (klay_ok _) (s0 := ⟨knew m0 tg, w.heap.size + 1⟩) hQ hI1 hM ?_
  intro g p p' t u oa' oc' hg hpn hpo hOk hrel hpn' hpo' hpa hU hord hnR hsz hkeep
  obtain ⟨hd, hover⟩ := overG_abs (ab := kabs _) (kabs_ok _) hOk (fun j hj => ⟨rfl, rfl⟩) hrel
  rw [hpo] at hover
  have hK := hP _ _ hd hover
  have hQU : KU (w.heap.size + 2) t.1.s u := hU.su
  have hrb2 : u.heap[w.heap.size]? = some (.cells #[.slice none 0 0, .slice none 0 0, .slice none 0 0, .bool false] 31 (0, 0)) := hkeep _ _ _ _ hrb1 fun h => by have := hNr _ h; omega
  have hcnt : cnt ((opsUsers (KLay (w.heap.size + 2)) p g).liv t.1) n = cnt ((kabs _).x t.1).live n := cnt_congr fun j _ => livG_abs t.1 j
  rw [hcnt]
  obtain ⟨ca, hca, hcs, hci⟩ := hU.arr
  have hlt := (Array.getElem?_eq_some_iff.1 hca).1
  have hlr := (Array.getElem?_eq_some_iff.1 hrb2).1
  have htb := heap_alloc_new u (.cells #[.slice (some ⟨p.aa, 0, none⟩) n n, .slice oa' t.2.length oc', .slice none 0 0, .bool (decide (0 < cnt ((kabs _).x t.1).live n))] 31)
  have htl : ∀ r, r < u.heap.size → (u.alloc (.cells #[.slice (some ⟨p.aa, 0, none⟩) n n, .slice oa' t.2.length oc', .slice none 0 0, .bool (decide (0 < cnt ((kabs _).x t.1).live n))] 31)).heap[r]? = u.heap[r]? := fun r hr => heap_alloc_lt _ _ hr
  have hts : (u.alloc (.cells #[.slice (some ⟨p.aa, 0, none⟩) n n, .slice oa' t.2.length oc', .slice none 0 0, .bool (decide (0 < cnt ((kabs _).x t.1).live n))] 31)).heap.size = u.heap.size + 1 := by simp
  have hstl : (KSt.state ((kabs (w.heap.size + 2)).x t.1).q).length = 4 + (KSt.vals t.1.s.k).length := by
    show (KSt.state t.1.s.k).length = _
    simp only [KSt.state, List.length_append, List.length_cons, List.length_nil]
  refine bes_own (F := F0) (Stop := fun a u2 => ∃ xa xc, a = G (c.finish (.agg #[.slice (some ⟨p.aa, 0, none⟩) n n, .slice oa' t.2.length oc', .slice xa (KSt.state ((kabs (w.heap.size + 2)).x t.1).q).length xc, .bool (decide (0 < cnt ((kabs (w.heap.size + 2)).x t.1).live n))])) cs ∧
      PlayU w n (fun i => (((kabs (w.heap.size + 2)).x t.1).th i).ans) (KSt.state ((kabs (w.heap.size + 2)).x t.1).q) t.2 p.aa (.slice oa' t.2.length oc') (.slice xa (KSt.state ((kabs (w.heap.size + 2)).x t.1).q).length xc) u2)
    (kpl_2 under_F0 (Nat.zero_le _) hA fun A2 hA2 => ?_) fun a u2 ⟨xa, xc, ha, hu2⟩ => ?_
  · generalize u.alloc (.cells #[.slice (some ⟨p.aa, 0, none⟩) n n, .slice oa' t.2.length oc', .slice none 0 0, .bool (decide (0 < cnt ((kabs (w.heap.size + 2)).x t.1).live n))] 31) = U at htb htl hts ⊢
    refine own_kstate (hQU.same fun r hr => htl r (hQU.low hr)) fun w2 l' hV => ?_
    have k1 := hV.row
    obtain ⟨xa, xc, rfl⟩ : ∃ xa xc, l' = .slice xa (KSt.state ((kabs (w.heap.size + 2)).x t.1).q).length xc := by
      rcases k1.2 with ⟨rfl, h⟩ | ⟨b, cap, cur, rfl, _⟩
      · simp at h
      · exact ⟨_, _, rfl⟩
    have hR : TrAt w2 w.heap.size (.slice none 0 0) (.slice none 0 0) (.slice none 0 0) (.bool false) := ⟨(hV.old _ (by omega)).trans ((htl _ hlr).trans hrb2)⟩
    have hT : TrAt w2 u.heap.size (.slice (some ⟨p.aa, 0, none⟩) n n) (.slice oa' t.2.length oc') (.slice none 0 0) (.bool (decide (0 < cnt ((kabs (w.heap.size + 2)).x t.1).live n))) := ⟨(hV.old _ (by omega)).trans htb⟩
    refine kpl_3 (show w.heap.size ≠ u.heap.size by omega) hR hT (fun k => hF _) (fun k => hF _) hA2 (.stop fun d => ⟨xa, xc, rfl, ?_⟩)
    have hV2 := hV.size
    have hlw : ∀ r, r < u.heap.size → w2.heap[r]? = u.heap[r]? := fun r hr => (hV.old _ (by omega)).trans (htl _ hr)
    have hne : ∀ r, r ≠ w.heap.size → r ≠ u.heap.size → (trW (w2.setCell ⟨u.heap.size, 2, none⟩ (.slice xa (KSt.state ((kabs (w.heap.size + 2)).x t.1).q).length xc)) w.heap.size (.slice (some ⟨p.aa, 0, none⟩) n n) (.slice oa' t.2.length oc') (.slice xa (KSt.state ((kabs (w.heap.size + 2)).x t.1).q).length xc) (.bool (decide (0 < cnt ((kabs (w.heap.size + 2)).x t.1).live n)))).heap[r]? = w2.heap[r]? := fun r hr hr2 => by
      unfold trW
      rw [heap_setCell_ne _ _ _ hr, heap_setCell_ne _ _ _ hr, heap_setCell_ne _ _ _ hr, heap_setCell_ne _ _ _ hr, heap_setCell_ne _ _ _ hr2]
    have hsz2 : (trW (w2.setCell ⟨u.heap.size, 2, none⟩ (.slice xa (KSt.state ((kabs (w.heap.size + 2)).x t.1).q).length xc)) w.heap.size (.slice (some ⟨p.aa, 0, none⟩) n n) (.slice oa' t.2.length oc') (.slice xa (KSt.state ((kabs (w.heap.size + 2)).x t.1).q).length xc) (.bool (decide (0 < cnt ((kabs (w.heap.size + 2)).x t.1).live n)))).heap.size = w2.heap.size := by
      unfold trW; simp
    show PlayU _ _ _ _ _ _ _ _ ((trW (w2.setCell ⟨u.heap.size, 2, none⟩ (.slice xa (KSt.state ((kabs (w.heap.size + 2)).x t.1).q).length xc)) w.heap.size (.slice (some ⟨p.aa, 0, none⟩) n n) (.slice oa' t.2.length oc') (.slice xa (KSt.state ((kabs (w.heap.size + 2)).x t.1).q).length xc) (.bool (decide (0 < cnt ((kabs (w.heap.size + 2)).x t.1).live n)))).at d)
    have hne2 : ∀ r, r ≠ w.heap.size → r ≠ u.heap.size → ((trW (w2.setCell ⟨u.heap.size, 2, none⟩ (.slice xa (KSt.state ((kabs (w.heap.size + 2)).x t.1).q).length xc)) w.heap.size (.slice (some ⟨p.aa, 0, none⟩) n n) (.slice oa' t.2.length oc') (.slice xa (KSt.state ((kabs (w.heap.size + 2)).x t.1).q).length xc) (.bool (decide (0 < cnt ((kabs (w.heap.size + 2)).x t.1).live n)))).at d).heap[r]? = w2.heap[r]? := hne
    have hsz3 : ((trW (w2.setCell ⟨u.heap.size, 2, none⟩ (.slice xa (KSt.state ((kabs (w.heap.size + 2)).x t.1).q).length xc)) w.heap.size (.slice (some ⟨p.aa, 0, none⟩) n n) (.slice oa' t.2.length oc') (.slice xa (KSt.state ((kabs (w.heap.size + 2)).x t.1).q).length xc) (.bool (decide (0 < cnt ((kabs (w.heap.size + 2)).x t.1).live n)))).at d).heap.size = w2.heap.size := hsz2
    generalize (trW (w2.setCell ⟨u.heap.size, 2, none⟩ (.slice xa (KSt.state ((kabs (w.heap.size + 2)).x t.1).q).length xc)) w.heap.size (.slice (some ⟨p.aa, 0, none⟩) n n) (.slice oa' t.2.length oc') (.slice xa (KSt.state ((kabs (w.heap.size + 2)).x t.1).q).length xc) (.bool (decide (0 < cnt ((kabs (w.heap.size + 2)).x t.1).live n)))).at d = V at hne2 hsz3 ⊢
    have hty : ∀ (b : Nat) (c : Array Value) (e : TypeId) (z : Nat × Nat), u.heap[b]? = some (.cells c e z) → e ≠ 31 → V.heap[b]? = u.heap[b]? := fun b cc e z hb he => by
      have hbl := (Array.getElem?_eq_some_iff.1 hb).1
      rw [hne2 b (fun h => by rw [h, hrb2] at hb; cases hb; exact he rfl) (by omega), hlw b hbl]
    refine ⟨by omega, fun r cc e z hr => ?_, ⟨ca, ?_, ?_, fun i hi => ?_⟩, ?_, ?_⟩
    · have hlt := (Array.getElem?_eq_some_iff.1 hr).1
      rw [hne2 r (by omega) (by omega), hlw r (by omega)]
      exact hkeep _ _ _ _ ((hold1 r hlt).trans hr) fun h => by have := hNr _ h; omega
    · rw [hty _ _ _ _ (hpa ▸ hca) (by decide)]
      exact hpa ▸ hca
    · rw [hcs, hpn']
    · have hi' : i < p'.n := by rw [hpn']; exact hi
      have ht := hU.thr i hi'
      have e0 : (((kabs (w.heap.size + 2)).x t.1).th i).ans = (t.1.th i).ans := List.map_id _
      refine ⟨_, hci i hi', ?_, ?_⟩
      · simp only [e0]
        have h1 := ht.al
        have h2 := ht.kl
        rw [hpo', hI.hlen i hi] at h2
        exact Nat.le_trans (Nat.le_of_eq h1) (Nat.le_trans h2 (by omega))
      · simp only [e0]
        have hr : u.ownsRow 0 44 3 (t.1.th i).row (t.1.th i).ans.length (ansC (t.1.th i).ans) := ht.row
        exact own_off hr fun b cc hb _ => hty b cc _ _ hb (by decide)
    · exact ownsRow_mono_base (by omega) (own_off hord fun b cc hb _ => hty b cc _ _ hb (by decide))
    · have e2 : V.ownsRow 0 2 1 (.slice xa (KSt.state ((kabs (w.heap.size + 2)).x t.1).q).length xc) (KSt.state ((kabs (w.heap.size + 2)).x t.1).q).length ((KSt.state ((kabs (w.heap.size + 2)).x t.1).q).map fun v => .int .i64 v) := by
        refine ownsRow_same2 k1 fun b hb _ => ?_
        have := hV.new b hb
        exact hne2 b (by omega) (by omega)
      refine ⟨e2.1, ?_⟩
      rcases e2.2 with h | ⟨b, cap, cur, h1, h2, h3⟩
      · exact .inl h
      · refine .inr ⟨b, cap, cur, h1, ?_, h3⟩
        have := hV.new b (by rw [h1]; rfl)
        omega
  · subst ha
    exact hK _ _ _ _ _ _ hu2
end Go.Proofs.Ytlcgkpapnpdfpaa
namespace Go.Proofs.Ytlcgkpapnpdfpaa
open Go Go.Conc Go.RowKit Go.Proofs
variable {F : Fz} {w : World}
theorem callable62 : Callable 62 := callable Try.func62 rfl rfl
theorem bOp (k a b c : Int) : Try.prog.built 47 [(0, .int .i64 k)] = some #[.int .i64 k, .int .i64 0, .int .i64 0, .int .i64 0] := by kernel_rfl
theorem bOp2 (k a : Int) : Try.prog.built 47 [(0, .int .i64 k), (1, .int .i64 a)] = some #[.int .i64 k, .int .i64 a, .int .i64 0, .int .i64 0] := by kernel_rfl
@[go_sem] theorem run_bOp (k : Int) (w : World) : (Instr.build 47 #[(0, .int .i64 k)]).run Try.prog w = .ok (.agg #[.int .i64 k, .int .i64 0, .int .i64 0, .int .i64 0]) w := run_build w _ _ _ (bOp k 0 0 0)
@[go_sem] theorem ev_bOp (k : Int) (w : World) (es : Array Event) : (Instr.build 47 #[(0, .int .i64 k)]).events Try.prog w es = es := ev_build w es _ _ _ _ Try.underlying47 (bOp k 0 0 0)
@[go_sem] theorem run_bOp2 (k a : Int) (w : World) : (Instr.build 47 #[(0, .int .i64 k), (1, .int .i64 a)]).run Try.prog w = .ok (.agg #[.int .i64 k, .int .i64 a, .int .i64 0, .int .i64 0]) w := run_build w _ _ _ (bOp2 k a)
@[go_sem] theorem ev_bOp2 (k a : Int) (w : World) (es : Array Event) : (Instr.build 47 #[(0, .int .i64 k), (1, .int .i64 a)]).events Try.prog w es = es := ev_build w es _ _ _ _ Try.underlying47 (bOp2 k a)
noncomputable def kclBody : Code := Try.f31.body.getD .skip
noncomputable def kcls0 : Code := Code.piece [] kclBody
noncomputable def kclr0 : Code := Code.piece [true] kclBody
noncomputable def kclo0 : Array Oper := Code.opsOf kclr0
noncomputable def kcls1 : Code := Code.piece [false] kclBody
noncomputable def kclr1 : Code := Code.piece [false, true] kclBody
noncomputable def kclo1 : Array Oper := Code.opsOf kclr1
noncomputable def kcls2 : Code := Code.piece [false, false] kclBody
noncomputable def kclr2 : Code := Code.piece [false, false, true] kclBody
noncomputable def kclo2 : Array Oper := Code.opsOf kclr2
noncomputable def kcls3 : Code := Code.piece [false, false, false] kclBody
noncomputable def kclr3 : Code := Code.piece [false, false, false, true] kclBody
noncomputable def kclo3 : Array Oper := Code.opsOf kclr3
theorem kcls0_eq : kcls0 = .seq kclr0 kcls1 := by kernel_rfl
theorem kclr0_eq : kclr0 = .region 0 kclo0 false := by kernel_rfl
theorem kcls1_eq : kcls1 = .seq kclr1 kcls2 := by kernel_rfl
theorem kclr1_eq : kclr1 = .region 1 kclo1 false := by kernel_rfl
theorem kcls2_eq : kcls2 = .seq kclr2 kcls3 := by kernel_rfl
theorem kclr2_eq : kclr2 = .region 2 kclo2 false := by kernel_rfl
theorem kcls3_eq : kcls3 = .seq kclr3 .ret := by kernel_rfl
theorem kclr3_eq : kclr3 = .region 3 kclo3 false := by kernel_rfl
theorem enter_kcl (args : Array Value) : Frame.enter Try.prog 31 args .normal = (Go.Conc.base 31).at { tmps := args ++ Array.replicate (27 - args.size) undef, defers := [] } [.code kcls0] := enter_at args Try.func31 rfl
def kclT (s : Nat → Value) : Array Value := #[s 0, s 1, s 2, s 3, s 4, s 5, s 6, s 7, s 8, s 9, s 10, s 11, s 12, s 13, s 14, s 15, s 16, s 17, s 18, s 19, s 20, s 21, s 22, s 23, s 24, s 25, s 26]
theorem kclT_of {A : Array Value} (h : A.size = 27) : ∃ s, A = kclT s := by
  obtain ⟨s, hs, _⟩ := arr_lit A h
  exact ⟨s, hs⟩
def clW (w : World) : World := (((((w.alloc (.cells #[.slice none 0 0, .slice none 0 0, .slice none 0 0, .bool false] 31)).alloc (.cells #[.int .i64 2, .int .i64 0, .int .i64 0, .int .i64 0] 47)).alloc (.cells #[.int .i64 1, .int .i64 8, .int .i64 0, .int .i64 0, .int .i64 1, .int .i64 7, .int .i64 0, .int .i64 0, .int .i64 2, .int .i64 0, .int .i64 0, .int .i64 0, .int .i64 2, .int .i64 0, .int .i64 0, .int .i64 0, .int .i64 1, .int .i64 4, .int .i64 0, .int .i64 0] 47)).alloc (.cells #[.int .i64 1, .int .i64 9, .int .i64 0, .int .i64 0] 47)).alloc (.cells #[.slice (some ⟨w.heap.size + 1, 0, none⟩) 1 1, .slice (some ⟨w.heap.size + 2, 0, none⟩) 5 5, .slice (some ⟨w.heap.size + 3, 0, none⟩) 1 1] 34))
set_option maxRecDepth 100000 in
set_option maxHeartbeats 2000000 in
theorem cl_0 {n : Nat} (hU : Under F n) (hn : n ≤ w.heap.size) {tg : Bool} {cs : List Frame} {main : Bool} {Stop : Goroutine → World → Prop}
    (h : ∀ A, Slots 27 A [(0, .bool tg), (2, .pointer (some ⟨w.heap.size, 0, none⟩)), (3, .slice (some ⟨w.heap.size + 4, 0, none⟩) 3 3)] → Own Try.prog main F Stop (G (Frame.enter Try.prog 62 #[.slice none 0 0, .int .i64 1, .int .i64 14] .normal) (((Go.Conc.base 31).at ⟨A, []⟩ [.inRegion kclo2 [0, 1, 2, 3, 4, 5, 6, 7], .code kcls3]) :: cs)) (clW w)) :
    Own Try.prog main F Stop (G (Frame.enter Try.prog 31 #[.bool tg] .normal) cs) w := by
  rw [enter_kcl]
  walk_nrm
  rw [kcls0_eq]
  refine ogS ?_
  rw [kclr0_eq]
  refine ogR ?_
  simp only [kclo0, Code.opsOf, kclr0, Code.piece, kclBody, Try.f31, Option.getD_some, List.size_toArray, List.length_cons, List.length_nil, Nat.reduceAdd, Nat.zero_add, List.range, List.range.loop]
  (refine oW fun dd K hK => ?_; go_simp; refine qA hK hU ?_; clear hK K)
  refine ogE ?_
  rw [kcls1_eq]
  refine ogS ?_
  rw [kclr1_eq]
  refine ogR ?_
  simp only [kclo1, Code.opsOf, kclr1, Code.piece, kclBody, Try.f31, Option.getD_some, List.size_toArray, List.length_cons, List.length_nil, Nat.reduceAdd, Nat.zero_add, List.range, List.range.loop]
  (refine oW fun dd K hK => ?_; go_simp; refine qT hK ?_; clear hK K)
  (refine oW fun dd K hK => ?_; go_simp; refine qA hK hU ?_; clear hK K)
  (refine oW fun dd K hK => ?_; go_simp; refine qT hK ?_; clear hK K)
  (refine oW fun dd K hK => ?_; go_simp; refine qT hK ?_; clear hK K)
  (refine oW fun dd K hK => ?_; go_simp; refine qT hK ?_; clear hK K)
  (refine oW fun dd K hK => ?_; go_simp; refine qT hK ?_; clear hK K)
  (refine oW fun dd K hK => ?_; go_simp; refine qT hK ?_; clear hK K)
  (refine oW fun dd K hK => ?_; go_simp; refine qA hK hU ?_; clear hK K)
  (refine oW fun dd K hK => ?_; go_simp; refine qT hK ?_; clear hK K)
  (refine oW fun dd K hK => ?_; go_simp; refine qA hK hU ?_; clear hK K)
  (refine oW fun dd K hK => ?_; go_simp; refine qA hK hU ?_; clear hK K)
  (refine oW fun dd K hK => ?_; go_simp; refine qT hK ?_; clear hK K)
  refine ogE ?_
  rw [kcls2_eq]
  refine ogS ?_
  rw [kclr2_eq]
  refine ogR ?_
  simp only [kclo2, Code.opsOf, kclr2, Code.piece, kclBody, Try.f31, Option.getD_some, List.size_toArray, List.length_cons, List.length_nil, Nat.reduceAdd, Nat.zero_add, List.range, List.range.loop]
  refine oc callable62 #[.slice none 0 0, .int .i64 1, .int .i64 14] ?_
  refine h _ ?_
  exact ⟨rfl, rfl, rfl, rfl, trivial⟩
set_option maxRecDepth 100000 in
set_option maxHeartbeats 2000000 in
theorem cl_10 {tg : Bool} {rb th : Nat} {v : Value} {A : Array Value} (hA : Slots 27 A [(0, .bool tg), (2, .pointer (some ⟨rb, 0, none⟩)), (3, .slice (some ⟨th, 0, none⟩) 3 3)]) {cs : List Frame} {main : Bool} {Stop : Goroutine → World → Prop}
    (h : ∀ A, Slots 27 A [(0, .bool tg), (2, .pointer (some ⟨rb, 0, none⟩)), (3, .slice (some ⟨th, 0, none⟩) 3 3)] → Own Try.prog main F Stop (G (Frame.enter Try.prog 62 #[v, .int .i64 0, .int .i64 2] .normal) (((Go.Conc.base 31).at ⟨A, []⟩ [.inRegion kclo2 [1, 2, 3, 4, 5, 6, 7], .code kcls3]) :: cs)) w) :
    Own Try.prog main F Stop (G (((Go.Conc.base 31).at ⟨A, []⟩ [.inRegion kclo2 [0, 1, 2, 3, 4, 5, 6, 7], .code kcls3]).finish v) cs) w := by
  obtain ⟨hsz, h0, h2, h3, _⟩ := hA
  obtain ⟨s, rfl⟩ := kclT_of hsz
  change s 0 = _ at h0
  change s 2 = _ at h2
  change s 3 = _ at h3
  clear hsz
  simp only [kclT, h0, h2, h3]
  clear h0 h2 h3
  rw [Frame.finish_at]
  simp only [kclo2, Code.opsOf, kclr2, Code.piece, kclBody, Try.f31, Option.getD_some, List.size_toArray, List.length_cons, List.length_nil, Nat.reduceAdd, Nat.zero_add, List.range, List.range.loop]
  walk_nrm
  refine oc callable62 #[v, .int .i64 0, .int .i64 2] ?_
  refine h _ ?_
  exact ⟨rfl, rfl, rfl, rfl, trivial⟩
set_option maxRecDepth 100000 in
set_option maxHeartbeats 2000000 in
theorem cl_11 {tg : Bool} {rb th : Nat} {v : Value} {A : Array Value} (hA : Slots 27 A [(0, .bool tg), (2, .pointer (some ⟨rb, 0, none⟩)), (3, .slice (some ⟨th, 0, none⟩) 3 3)]) {cs : List Frame} {main : Bool} {Stop : Goroutine → World → Prop}
    (h : ∀ A, Slots 27 A [(0, .bool tg), (2, .pointer (some ⟨rb, 0, none⟩)), (3, .slice (some ⟨th, 0, none⟩) 3 3)] → Own Try.prog main F Stop (G (Frame.enter Try.prog 62 #[v, .int .i64 1, .int .i64 14] .normal) (((Go.Conc.base 31).at ⟨A, []⟩ [.inRegion kclo2 [2, 3, 4, 5, 6, 7], .code kcls3]) :: cs)) w) :
    Own Try.prog main F Stop (G (((Go.Conc.base 31).at ⟨A, []⟩ [.inRegion kclo2 [1, 2, 3, 4, 5, 6, 7], .code kcls3]).finish v) cs) w := by
  obtain ⟨hsz, h0, h2, h3, _⟩ := hA
  obtain ⟨s, rfl⟩ := kclT_of hsz
  change s 0 = _ at h0
  change s 2 = _ at h2
  change s 3 = _ at h3
  clear hsz
  simp only [kclT, h0, h2, h3]
  clear h0 h2 h3
  rw [Frame.finish_at]
  simp only [kclo2, Code.opsOf, kclr2, Code.piece, kclBody, Try.f31, Option.getD_some, List.size_toArray, List.length_cons, List.length_nil, Nat.reduceAdd, Nat.zero_add, List.range, List.range.loop]
  walk_nrm
  refine oc callable62 #[v, .int .i64 1, .int .i64 14] ?_
  refine h _ ?_
  exact ⟨rfl, rfl, rfl, rfl, trivial⟩
set_option maxRecDepth 100000 in
set_option maxHeartbeats 2000000 in
theorem cl_12 {tg : Bool} {rb th : Nat} {v : Value} {A : Array Value} (hA : Slots 27 A [(0, .bool tg), (2, .pointer (some ⟨rb, 0, none⟩)), (3, .slice (some ⟨th, 0, none⟩) 3 3)]) {cs : List Frame} {main : Bool} {Stop : Goroutine → World → Prop}
    (h : ∀ A, Slots 27 A [(0, .bool tg), (2, .pointer (some ⟨rb, 0, none⟩)), (3, .slice (some ⟨th, 0, none⟩) 3 3)] → Own Try.prog main F Stop (G (Frame.enter Try.prog 62 #[v, .int .i64 2, .int .i64 3] .normal) (((Go.Conc.base 31).at ⟨A, []⟩ [.inRegion kclo2 [3, 4, 5, 6, 7], .code kcls3]) :: cs)) w) :
    Own Try.prog main F Stop (G (((Go.Conc.base 31).at ⟨A, []⟩ [.inRegion kclo2 [2, 3, 4, 5, 6, 7], .code kcls3]).finish v) cs) w := by
  obtain ⟨hsz, h0, h2, h3, _⟩ := hA
  obtain ⟨s, rfl⟩ := kclT_of hsz
  change s 0 = _ at h0
  change s 2 = _ at h2
  change s 3 = _ at h3
  clear hsz
  simp only [kclT, h0, h2, h3]
  clear h0 h2 h3
  rw [Frame.finish_at]
  simp only [kclo2, Code.opsOf, kclr2, Code.piece, kclBody, Try.f31, Option.getD_some, List.size_toArray, List.length_cons, List.length_nil, Nat.reduceAdd, Nat.zero_add, List.range, List.range.loop]
  walk_nrm
  refine oc callable62 #[v, .int .i64 2, .int .i64 3] ?_
  refine h _ ?_
  exact ⟨rfl, rfl, rfl, rfl, trivial⟩
set_option maxRecDepth 100000 in
set_option maxHeartbeats 2000000 in
theorem cl_13 {tg : Bool} {rb th : Nat} {v : Value} {A : Array Value} (hA : Slots 27 A [(0, .bool tg), (2, .pointer (some ⟨rb, 0, none⟩)), (3, .slice (some ⟨th, 0, none⟩) 3 3)]) {cs : List Frame} {main : Bool} {Stop : Goroutine → World → Prop}
    (h : ∀ A, Slots 27 A [(0, .bool tg), (2, .pointer (some ⟨rb, 0, none⟩)), (3, .slice (some ⟨th, 0, none⟩) 3 3)] → Own Try.prog main F Stop (G (Frame.enter Try.prog 62 #[v, .int .i64 1, .int .i64 7] .normal) (((Go.Conc.base 31).at ⟨A, []⟩ [.inRegion kclo2 [4, 5, 6, 7], .code kcls3]) :: cs)) w) :
    Own Try.prog main F Stop (G (((Go.Conc.base 31).at ⟨A, []⟩ [.inRegion kclo2 [3, 4, 5, 6, 7], .code kcls3]).finish v) cs) w := by
  obtain ⟨hsz, h0, h2, h3, _⟩ := hA
  obtain ⟨s, rfl⟩ := kclT_of hsz
  change s 0 = _ at h0
  change s 2 = _ at h2
  change s 3 = _ at h3
  clear hsz
  simp only [kclT, h0, h2, h3]
  clear h0 h2 h3
  rw [Frame.finish_at]
  simp only [kclo2, Code.opsOf, kclr2, Code.piece, kclBody, Try.f31, Option.getD_some, List.size_toArray, List.length_cons, List.length_nil, Nat.reduceAdd, Nat.zero_add, List.range, List.range.loop]
  walk_nrm
  refine oc callable62 #[v, .int .i64 1, .int .i64 7] ?_
  refine h _ ?_
  exact ⟨rfl, rfl, rfl, rfl, trivial⟩
set_option maxRecDepth 100000 in
set_option maxHeartbeats 2000000 in
theorem cl_14 {tg : Bool} {rb th : Nat} {v : Value} {A : Array Value} (hA : Slots 27 A [(0, .bool tg), (2, .pointer (some ⟨rb, 0, none⟩)), (3, .slice (some ⟨th, 0, none⟩) 3 3)]) {cs : List Frame} {main : Bool} {Stop : Goroutine → World → Prop}
    (h : ∀ A, Slots 27 A [(0, .bool tg), (2, .pointer (some ⟨rb, 0, none⟩)), (3, .slice (some ⟨th, 0, none⟩) 3 3)] → Own Try.prog main F Stop (G (Frame.enter Try.prog 62 #[v, .int .i64 0, .int .i64 5] .normal) (((Go.Conc.base 31).at ⟨A, []⟩ [.inRegion kclo2 [5, 6, 7], .code kcls3]) :: cs)) w) :
    Own Try.prog main F Stop (G (((Go.Conc.base 31).at ⟨A, []⟩ [.inRegion kclo2 [4, 5, 6, 7], .code kcls3]).finish v) cs) w := by
  obtain ⟨hsz, h0, h2, h3, _⟩ := hA
  obtain ⟨s, rfl⟩ := kclT_of hsz
  change s 0 = _ at h0
  change s 2 = _ at h2
  change s 3 = _ at h3
  clear hsz
  simp only [kclT, h0, h2, h3]
  clear h0 h2 h3
  rw [Frame.finish_at]
  simp only [kclo2, Code.opsOf, kclr2, Code.piece, kclBody, Try.f31, Option.getD_some, List.size_toArray, List.length_cons, List.length_nil, Nat.reduceAdd, Nat.zero_add, List.range, List.range.loop]
  walk_nrm
  refine oc callable62 #[v, .int .i64 0, .int .i64 5] ?_
  refine h _ ?_
  exact ⟨rfl, rfl, rfl, rfl, trivial⟩
set_option maxRecDepth 100000 in
set_option maxHeartbeats 2000000 in
theorem cl_15 {tg : Bool} {rb th : Nat} {v : Value} {A : Array Value} (hA : Slots 27 A [(0, .bool tg), (2, .pointer (some ⟨rb, 0, none⟩)), (3, .slice (some ⟨th, 0, none⟩) 3 3)]) {cs : List Frame} {main : Bool} {Stop : Goroutine → World → Prop}
    (h : ∀ A, Slots 27 A [(0, .bool tg), (2, .pointer (some ⟨rb, 0, none⟩)), (3, .slice (some ⟨th, 0, none⟩) 3 3)] → Own Try.prog main F Stop (G (Frame.enter Try.prog 62 #[v, .int .i64 2, .int .i64 4] .normal) (((Go.Conc.base 31).at ⟨A, []⟩ [.inRegion kclo2 [6, 7], .code kcls3]) :: cs)) w) :
    Own Try.prog main F Stop (G (((Go.Conc.base 31).at ⟨A, []⟩ [.inRegion kclo2 [5, 6, 7], .code kcls3]).finish v) cs) w := by
  obtain ⟨hsz, h0, h2, h3, _⟩ := hA
  obtain ⟨s, rfl⟩ := kclT_of hsz
  change s 0 = _ at h0
  change s 2 = _ at h2
  change s 3 = _ at h3
  clear hsz
  simp only [kclT, h0, h2, h3]
  clear h0 h2 h3
  rw [Frame.finish_at]
  simp only [kclo2, Code.opsOf, kclr2, Code.piece, kclBody, Try.f31, Option.getD_some, List.size_toArray, List.length_cons, List.length_nil, Nat.reduceAdd, Nat.zero_add, List.range, List.range.loop]
  walk_nrm
  refine oc callable62 #[v, .int .i64 2, .int .i64 4] ?_
  refine h _ ?_
  exact ⟨rfl, rfl, rfl, rfl, trivial⟩
set_option maxRecDepth 100000 in
set_option maxHeartbeats 2000000 in
theorem cl_2 {tg : Bool} {rb th : Nat} {v : Value} {A : Array Value} (hA : Slots 27 A [(0, .bool tg), (2, .pointer (some ⟨rb, 0, none⟩)), (3, .slice (some ⟨th, 0, none⟩) 3 3)]) {cs : List Frame} {main : Bool} {Stop : Goroutine → World → Prop}
    (h : ∀ A, Slots 27 A [(2, .pointer (some ⟨rb, 0, none⟩))] → Own Try.prog main F Stop (G (Frame.enter Try.prog 34 #[.int .i64 2, .bool tg, .slice (some ⟨th, 0, none⟩) 3 3, v, .int .i64 200] .normal) (((Go.Conc.base 31).at ⟨A, []⟩ [.inRegion kclo3 [3, 4], .code .ret]) :: cs)) w) :
    Own Try.prog main F Stop (G (((Go.Conc.base 31).at ⟨A, []⟩ [.inRegion kclo2 [6, 7], .code kcls3]).finish v) cs) w := by
  obtain ⟨hsz, h0, h2, h3, _⟩ := hA
  obtain ⟨s, rfl⟩ := kclT_of hsz
  change s 0 = _ at h0
  change s 2 = _ at h2
  change s 3 = _ at h3
  clear hsz
  simp only [kclT, h0, h2, h3]
  clear h0 h2 h3
  rw [Frame.finish_at]
  simp only [kclo2, Code.opsOf, kclr2, Code.piece, kclBody, Try.f31, Option.getD_some, List.size_toArray, List.length_cons, List.length_nil, Nat.reduceAdd, Nat.zero_add, List.range, List.range.loop]
  walk_nrm
  (refine oW fun dd K hK => ?_; go_simp; refine qT hK ?_; clear hK K)
  refine ogE ?_
  rw [kcls3_eq]
  refine ogS ?_
  rw [kclr3_eq]
  refine ogR ?_
  simp only [kclo3, Code.opsOf, kclr3, Code.piece, kclBody, Try.f31, Option.getD_some, List.size_toArray, List.length_cons, List.length_nil, Nat.reduceAdd, Nat.zero_add, List.range, List.range.loop]
  (refine oW fun dd K hK => ?_; go_simp; refine qT hK ?_; clear hK K)
  (refine oW fun dd K hK => ?_; go_simp; refine qT hK ?_; clear hK K)
  (refine oW fun dd K hK => ?_; go_simp; refine qT hK ?_; clear hK K)
  refine oc callable34 #[.int .i64 2, .bool tg, .slice (some ⟨th, 0, none⟩) 3 3, v, .int .i64 200] ?_
  refine h _ ?_
  exact ⟨rfl, rfl, trivial⟩
set_option maxRecDepth 100000 in
set_option maxHeartbeats 2000000 in
theorem cl_3 {rb : Nat} {aa oa xa : Option Addr} {al ac ol oz xl xc : Nat} {st : Bool} {y0 y1 y2 y3 : Value} (hR : TrAt w rb y0 y1 y2 y3) (hnr : ∀ k, ¬ held F ⟨rb, k, none⟩) {A : Array Value} (hA : Slots 27 A [(2, .pointer (some ⟨rb, 0, none⟩))]) {c : Frame} {cs : List Frame} {main : Bool} {Stop : Goroutine → World → Prop}
    (h : Own Try.prog main F Stop (G (c.finish (.agg #[.slice aa al ac, .slice oa ol oz, .slice xa xl xc, .bool st])) cs) (trW w rb (.slice aa al ac) (.slice oa ol oz) (.slice xa xl xc) (.bool st))) :
    Own Try.prog main F Stop (G (((Go.Conc.base 31).at ⟨A, []⟩ [.inRegion kclo3 [3, 4], .code .ret]).finish (.agg #[.slice aa al ac, .slice oa ol oz, .slice xa xl xc, .bool st])) (c :: cs)) w := by
  obtain ⟨hsz, h2, _⟩ := hA
  obtain ⟨s, rfl⟩ := kclT_of hsz
  change s 2 = _ at h2
  clear hsz
  simp only [kclT, h2]
  clear h2
  rw [Frame.finish_at]
  simp only [kclo3, Code.opsOf, kclr3, Code.piece, kclBody, Try.f31, Option.getD_some, List.size_toArray, List.length_cons, List.length_nil, Nat.reduceAdd, Nat.zero_add, List.range, List.range.loop]
  walk_nrm
  (refine oW fun dd K hK => ?_; have hc0 := (hR.at dd).c0; have hc1 := (hR.at dd).c1; have hc2 := (hR.at dd).c2; have hc3 := (hR.at dd).c3; have hz0 := (hR.at dd).z; go_simp; refine hK _ _ ⟨⟨⟨0, grew4 hnr _ _ _ _⟩, fun e he => by (have hm := mem_listed he; clear he hK; simp [go_sem, storedEv, hc0, hc1, hc2, hc3, hz0] at hm; rcases hm with rfl | rfl | rfl | rfl <;> exact evT_write _ _ (hnr _))⟩, ?_⟩; clear hK K hc0 hc1 hc2 hc3 hz0; simp only [setCell_at']; refine Own.at ?_ dd)
  refine ogE ?_
  refine ogX ?_
  have hT3 := hR.put (.slice aa al ac) (.slice oa ol oz) (.slice xa xl xc) (.bool st)
  change Own _ _ _ _ _ (trW w rb (.slice aa al ac) (.slice oa ol oz) (.slice xa xl xc) (.bool st))
  generalize (trW w rb (.slice aa al ac) (.slice oa ol oz) (.slice xa xl xc) (.bool st)) = V at hT3 h ⊢
  have hc0 := hT3.c0
  have hc1 := hT3.c1
  have hc2 := hT3.c2
  have hc3 := hT3.c3
  have hz0 := hT3.z
  refine own_leave (fn := Try.f31) (v := .agg #[.slice aa al ac, .slice oa ol oz, .slice xa xl xc, .bool st]) rfl rfl Try.func31 (fun d => by simp [results, Try.f31, go_sem, hc0, hc1, hc2, hc3, hz0]) (fun d e he => by simp [results, Try.f31, go_sem, hc0, hc1, hc2, hc3, hz0] at he; rcases he with rfl | rfl | rfl | rfl <;> exact evT_read _ _) ?_
  exact h
end Go.Proofs.Ytlcgkpapnpdfpaa
namespace Go.Proofs.Ytlcgkpapnpdfpaa
open Go Go.Conc Go.RowKit Go.Proofs
variable {w w' : World}
theorem gRounds_stays {m : Pl} {ops : Nat → List Op4} {n M : Nat} : ∀ (f : Nat) (s : GS m × List Nat), gDone n M (gRounds ops n M f s) → ∀ e, f ≤ e → gRounds ops n M e s = gRounds ops n M f s := by
  intro f
  induction f with
  | zero =>
    intro s h e _
    exact gRounds_done h e
  | succ f ih =>
    intro s h e he
    by_cases hd : gDone n M s
    · rw [gRounds_done hd, gRounds_done hd]
    · obtain ⟨e, rfl⟩ : ∃ k, e = k + 1 := ⟨e - 1, by omega⟩
      simp only [gRounds, if_neg hd] at h ⊢
      exact ih _ h e (by omega)
theorem gOver_is {m : Pl} {ops : Nat → List Op4} {n M : Nat} {S : List Int} {s0 : GS m} {F : Nat} (hd : gDone n M (gOver ops n M S F s0)) {t : GS m × List Nat} (h : ∃ k, ∀ f, k ≤ f → gOver ops n M S f s0 = t) : t = gOver ops n M S F s0 := by
  obtain ⟨k, hk⟩ := h
  rw [← hk (max k F) (by omega)]
  exact gRounds_stays F _ hd (max k F) (by omega)
structure IntsAt (e : TypeId) (w wr : World) (ov : Value) (xs : List Int) : Prop where
  row : wr.ownsRow 0 e 1 ov xs.length (xs.map fun v => .int .i64 v)
  size : w.heap.size ≤ wr.heap.size
  old : ∀ r, r < w.heap.size → wr.heap[r]? = w.heap[r]?
  new : ∀ g, ov.ownBlock = some g → w.heap.size ≤ g
theorem IntsAt.nil (e : TypeId) (w : World) : IntsAt e w w (.slice none 0 0) [] := ⟨⟨rfl, .inl ⟨rfl, rfl⟩⟩, Nat.le_refl _, fun _ _ => rfl, fun g h => by cases h⟩
theorem IntsAt.more {e : TypeId} {w u w1 : World} {ov : Value} {xs ys : List Int} (h : IntsAt e w u ov xs) {v' : Value} (hown : w1.ownsRow 0 e 1 v' (xs.length + ys.length) ((xs.map fun v => .int .i64 v) ++ ys.map fun v => .int .i64 v)) (hg : u.grownBy w1 ov.ownBlock) (hf : v'.ownBlock = ov.ownBlock ∨ ∃ g, v'.ownBlock = some g ∧ u.heap.size ≤ g) : IntsAt e w w1 v' (xs ++ ys) := by
  refine ⟨by simpa using hown, by have := h.size; have := hg.size; omega, fun r hr => ?_, fun g hgv => ?_⟩
  · have hsz := h.size
    refine (hg.block r (by omega) fun e => ?_).trans (h.old r hr)
    have := h.new r e.symm
    omega
  · rcases hf with e | ⟨g', e, h2⟩
    · exact h.new g (e ▸ hgv)
    · rw [e] at hgv
      cases hgv
      have := h.size
      omega
theorem IntsAt.alloc {e : TypeId} {w u : World} {ov : Value} {xs : List Int} (h : IntsAt e w u ov xs) (o : Obj) : IntsAt e w (u.alloc o) ov xs :=
  ⟨h.row.alloc o, by have := h.size; simp; omega, fun r hr => (heap_alloc_lt _ _ (Nat.lt_of_lt_of_le hr h.size)).trans (h.old r hr), h.new⟩
end Go.Proofs.Ytlcgkpapnpdfpaa
namespace Go.Proofs.Ytlcgkpapnpdfpaa
open Go Go.Conc Go.RowKit Go.Proofs
variable {w w' w0 : World}
set_option maxRecDepth 100000 in
theorem many_callsB {v : Value} {l : List Int} {t : Int} {n : Nat} (hn : l.length + n < 1000000) (h : IntsAt 3 w0 w v l) :
    CallsB Try.prog Try.f62 #[v, .int .i64 t, .int .i64 n] w fun x w' => IntsAt 3 w0 w' x (l ++ List.replicate n t) := by
  obtain ⟨i0, z0, hi, hz0, hz1, hz2, hz3⟩ := infoA3
  have H : Aside (IntsAt 3 w0 w v l) := h
  have B : Aside (l.length + n < 1000000) := hn
  clear h hn
  refine callsB_of rfl ?_
  simp only [Try.ntmps62, List.size_toArray, List.length_cons, List.length_nil, Nat.reduceAdd, Nat.reduceSub, Array.replicate_succ, Array.replicate_zero, List.push_toArray, List.append_toArray, List.nil_append, List.cons_append]
  go_wp2
  go_loopg [0, 8] n (fun g x i wr => ∃ k : Nat, k ≤ n ∧ i = .int .i64 k ∧ g = n - k ∧ IntsAt 3 w0 wr x (l ++ List.replicate k t))
  case atStart => exact ⟨0, Nat.zero_le _, rfl, rfl, by simpa using H.out⟩
  case round =>
    obtain ⟨k, hk, rfl, hg, hI⟩ := hrel
    have I : Aside (IntsAt 3 w0 wr u0 (l ++ List.replicate k t) ∧ gk = n - k ∧ k ≤ n) := ⟨hI, hg, hk⟩
    clear hI hg
    rcases Nat.lt_or_ge k n with hlt | hge
    · have hlt' : (k : Int) < (n : Int) := by omega
      have hwr : IntKind.i64.wrap ((k : Int) + 1) = (k : Int) + 1 := IntWalk.i64_in _ (by have := B.out; omega)
      have L : Aside (k < n) := hlt
      clear hk hlt
      go_wp2_with (at_builtin; refine wpList_append_fresh rfl (.tmp 10) (.tmp 12) 24 rfl 3 i0 z0 1 8 Try.underlying24 hi hz0 hz1 hz2 hz3 (by decide) u0 (l ++ List.replicate k t).length ((l ++ List.replicate k t).map fun v => .int .i64 v) rfl (I.out.1.row.alloc _) ⟨wr.heap.size, 0, none⟩ 1 1 [.int .i64 t] rfl rfl (new_cells (X := wr) (l := [.int .i64 t]) rfl) (by intro u hu; simp at hu; subst hu; rfl) (by have := B.out; have := L.out; unfold maxLen; simp; omega) (by have := B.out; have := L.out; simp; omega) ?_; intro v' w1 hown hgrow hfr; have Z : Aside (IntsAt 3 w0 w1 v' ((l ++ List.replicate k t) ++ [t])) := (I.out.1.alloc _).more hown hgrow (hfr.imp id fun ⟨g', h1, h2⟩ => ⟨g', h1, h2⟩); clear hown hgrow hfr)
      go_roundg (n - (k + 1))
      case measure => have := I.out; have := L.out; omega
      case rel => exact ⟨k + 1, L.out, rfl, rfl, by have := Z.out; rw [List.append_assoc] at this; rw [List.replicate_succ']; exact this⟩
    · have e : k = n := by omega
      subst e
      clear hk hge
      go_wp2
      go_ret
      exact ⟨_, rfl, I.out.1⟩
end Go.Proofs.Ytlcgkpapnpdfpaa
namespace Go.Proofs.Ytlcgkpapnpdfpaa
open Go Go.Conc Go.RowKit Go.Proofs
variable {An : Anchor} {w w' w0 : World}
theorem closedMany : Closed Try.prog (fun f => [62].contains f) true := closed_ofX (x := []) (fun f h => by cases h) (by kernel_rfl)
theorem own_many {v : Value} {l : List Int} {t : Int} {n : Nat} (hn : l.length + n < 1000000) (h : IntsAt 3 w0 w v l) {c : Frame} {cs : List Frame} {main : Bool} {Stop : Goroutine → World → Prop}
    (K : ∀ w1 v', IntsAt 3 w0 w1 v' (l ++ List.replicate n t) → Own Try.prog main F0 Stop (G (c.finish v') cs) w1) :
    Own Try.prog main F0 Stop (G (Frame.enter Try.prog 62 #[v, .int .i64 t, .int .i64 n] .normal) (c :: cs)) w := by
  refine own_callB closedMany prog_late Try.func62 rfl (by kernel_rfl) (R := fun x w' => IntsAt 3 w0 w' x (l ++ List.replicate n t)) (fun τ e => many_callsB hn ⟨ownsRow_same2 h.row fun _ _ _ => rfl, h.size, h.old, h.new⟩) fun x w' τ e hR hg => ?_
  exact K w' x ⟨ownsRow_same2 hR.row fun _ _ _ => rfl, hR.size, hR.old, hR.new⟩
def clOps : Nat → List Op4 := fun i => if i = 0 then [⟨2, 0, 0, 0⟩] else if i = 1 then [⟨1, 8, 0, 0⟩, ⟨1, 7, 0, 0⟩, ⟨2, 0, 0, 0⟩, ⟨2, 0, 0, 0⟩, ⟨1, 4, 0, 0⟩] else if i = 2 then [⟨1, 9, 0, 0⟩] else []
def clS : List Int := ((((((([] ++ List.replicate 14 (1 : Int)) ++ List.replicate 2 0) ++ List.replicate 14 1) ++ List.replicate 3 2) ++ List.replicate 7 1) ++ List.replicate 5 0) ++ List.replicate 4 2)
def clE (tg : Bool) : GS KPl × List Nat := gOver clOps 3 200 clS 10 (ks0 2 tg)
theorem clE_done (tg : Bool) : gDone 3 200 (clE tg) := by cases tg <;> decide +kernel
theorem clE_live (tg : Bool) : cnt (clE tg).1.live 3 = 0 := by cases tg <;> decide +kernel
theorem clE_lens (tg : Bool) : (((clE tg).1.th 0).ans : List (Bool × Int)).length = 1 := by cases tg <;> decide +kernel
theorem clE_st1 : KSt.state (clE true).1.q = [0, 7, 1, 7, 9] := by decide +kernel
theorem clE_st0 : KSt.state (clE false).1.q = [0, 0, 1, 0, 9, 9] := by decide +kernel
def clAns (tg : Bool) (i : Nat) : List (Bool × Int) := ((clE tg).1.th i).ans
theorem clE_ans (tg : Bool) : clAns tg 0 = [(true, 4)] := by cases tg <;> decide +kernel
def clSt (tg : Bool) : List Int := if tg = true then [0, 7, 1, 7, 9] else [0, 0, 1, 0, 9, 9]
theorem clE_st (tg : Bool) : KSt.state (clE tg).1.q = clSt tg := by cases tg; exact clE_st0; exact clE_st1
theorem cl_old {r : Nat} (h : r < w.heap.size) : (clW w).heap[r]? = w.heap[r]? := by
  simp only [clW]
  rw [heap_alloc_lt _ _ (by simp; try omega), heap_alloc_lt _ _ (by simp; try omega), heap_alloc_lt _ _ (by simp; try omega), heap_alloc_lt _ _ (by simp; try omega), heap_alloc_lt _ _ h]
theorem cl_size : (clW w).heap.size = w.heap.size + 5 := by simp [clW]
theorem cl_b0 : (clW w).heap[w.heap.size]? = some (.cells #[.slice none 0 0, .slice none 0 0, .slice none 0 0, .bool false] 31 (0, 0)) := by
  simp only [clW]
  rw [heap_alloc_lt _ _ (by simp; try omega), heap_alloc_lt _ _ (by simp; try omega), heap_alloc_lt _ _ (by simp; try omega), heap_alloc_lt _ _ (by simp; try omega)]
  exact heap_alloc_new _ _
theorem cl_b1 : (clW w).heap[w.heap.size + 1]? = some (.cells #[.int .i64 2, .int .i64 0, .int .i64 0, .int .i64 0] 47 (0, 0)) := by
  simp only [clW]
  rw [heap_alloc_lt _ _ (by simp; try omega), heap_alloc_lt _ _ (by simp; try omega), heap_alloc_lt _ _ (by simp; try omega)]
  exact new_at (by simp) _
theorem cl_b2 : (clW w).heap[w.heap.size + 2]? = some (.cells #[.int .i64 1, .int .i64 8, .int .i64 0, .int .i64 0, .int .i64 1, .int .i64 7, .int .i64 0, .int .i64 0, .int .i64 2, .int .i64 0, .int .i64 0, .int .i64 0, .int .i64 2, .int .i64 0, .int .i64 0, .int .i64 0, .int .i64 1, .int .i64 4, .int .i64 0, .int .i64 0] 47 (0, 0)) := by
  simp only [clW]
  rw [heap_alloc_lt _ _ (by simp; try omega), heap_alloc_lt _ _ (by simp; try omega)]
  exact new_at (by simp) _
theorem cl_b3 : (clW w).heap[w.heap.size + 3]? = some (.cells #[.int .i64 1, .int .i64 9, .int .i64 0, .int .i64 0] 47 (0, 0)) := by
  simp only [clW]
  rw [heap_alloc_lt _ _ (by simp; try omega)]
  exact new_at (by simp) _
theorem cl_b4 : (clW w).heap[w.heap.size + 4]? = some (.cells #[.slice (some ⟨w.heap.size + 1, 0, none⟩) 1 1, .slice (some ⟨w.heap.size + 2, 0, none⟩) 5 5, .slice (some ⟨w.heap.size + 3, 0, none⟩) 1 1] 34 (0, 0)) := by
  simp only [clW]
  exact new_at (by simp) _
def clOl : Nat → Nat := fun i => if i = 1 then 5 else 1
theorem cl_in {u : World} (hu : ∀ r, r < w.heap.size + 5 → u.heap[r]? = (clW w).heap[r]?) (hsz : w.heap.size + 5 ≤ u.heap.size) {sv : Value} (hS : IntsAt 3 (clW w) u sv clS) : ∃ sa sc, sv = .slice sa clS.length sc ∧
    OpsIn u (fun _ => False) 3 (w.heap.size + 4) 0 3 (some ⟨w.heap.size + 4, 0, none⟩) (fun i => some ⟨w.heap.size + 1 + i, 0, none⟩) clOl clOl clOps clS sa := by
  have h1 : u.heap[w.heap.size + 1]? = _ := (hu _ (by omega)).trans cl_b1
  have h2 : u.heap[w.heap.size + 2]? = _ := (hu _ (by omega)).trans cl_b2
  have h3 : u.heap[w.heap.size + 3]? = _ := (hu _ (by omega)).trans cl_b3
  have h4 : u.heap[w.heap.size + 4]? = _ := (hu _ (by omega)).trans cl_b4
  have hr := hS.row
  rcases hr.2 with ⟨_, h⟩ | ⟨sb, sc, cur, h5, _, h6, _, _, _, h7⟩
  · exact absurd h (by decide)
  refine ⟨some ⟨sb, 0, none⟩, sc, h5, ⟨rfl, fun _ => rfl, fun _ => by omega, fun j hj => ?_, fun j hj => ?_, fun j hj k x hx => ?_, by decide, fun _ => ⟨_, _, _, _, _, rfl, id, h6, fun k v hv => ?_⟩⟩⟩
  · have : j = 0 ∨ j = 1 ∨ j = 2 := by omega
    rcases this with rfl | rfl | rfl
    · exact ⟨(cell_of h4 rfl).c, (cell_of (k := 0) h4 rfl).z, Nat.le_refl _⟩
    · exact ⟨(cell_of h4 rfl).c, (cell_of (k := 1) h4 rfl).z, Nat.le_refl _⟩
    · exact ⟨(cell_of h4 rfl).c, (cell_of (k := 2) h4 rfl).z, Nat.le_refl _⟩
  · have : j = 0 ∨ j = 1 ∨ j = 2 := by omega
    rcases this with rfl | rfl | rfl <;> rfl
  · have : j = 0 ∨ j = 1 ∨ j = 2 := by omega
    rcases this with rfl | rfl | rfl
    · have hk : k = 0 := by
        have := (List.getElem?_eq_some_iff.1 hx).1
        simp [clOps] at this
        omega
      subst hk
      obtain rfl : (⟨2, 0, 0, 0⟩ : Op4) = x := by simpa [clOps] using hx
      exact ⟨_, _, rfl, id, (cell_of h1 rfl).c, (cell_of h1 rfl).c, (cell_of h1 rfl).c, (cell_of h1 rfl).c, (cell_of (k := 0) h1 rfl).z, (cell_of (k := 1) h1 rfl).z, (cell_of (k := 2) h1 rfl).z, (cell_of (k := 3) h1 rfl).z⟩
    · have hk : k = 0 ∨ k = 1 ∨ k = 2 ∨ k = 3 ∨ k = 4 := by
        have := (List.getElem?_eq_some_iff.1 hx).1
        simp [clOps] at this
        omega
      rcases hk with rfl | rfl | rfl | rfl | rfl
      · obtain rfl : (⟨1, 8, 0, 0⟩ : Op4) = x := by simpa [clOps] using hx
        exact ⟨_, _, rfl, id, (cell_of h2 rfl).c, (cell_of h2 rfl).c, (cell_of h2 rfl).c, (cell_of h2 rfl).c, (cell_of (k := 0) h2 rfl).z, (cell_of (k := 1) h2 rfl).z, (cell_of (k := 2) h2 rfl).z, (cell_of (k := 3) h2 rfl).z⟩
      · obtain rfl : (⟨1, 7, 0, 0⟩ : Op4) = x := by simpa [clOps] using hx
        exact ⟨_, _, rfl, id, (cell_of h2 rfl).c, (cell_of h2 rfl).c, (cell_of h2 rfl).c, (cell_of h2 rfl).c, (cell_of (k := 4) h2 rfl).z, (cell_of (k := 5) h2 rfl).z, (cell_of (k := 6) h2 rfl).z, (cell_of (k := 7) h2 rfl).z⟩
      · obtain rfl : (⟨2, 0, 0, 0⟩ : Op4) = x := by simpa [clOps] using hx
        exact ⟨_, _, rfl, id, (cell_of h2 rfl).c, (cell_of h2 rfl).c, (cell_of h2 rfl).c, (cell_of h2 rfl).c, (cell_of (k := 8) h2 rfl).z, (cell_of (k := 9) h2 rfl).z, (cell_of (k := 10) h2 rfl).z, (cell_of (k := 11) h2 rfl).z⟩
      · obtain rfl : (⟨2, 0, 0, 0⟩ : Op4) = x := by simpa [clOps] using hx
        exact ⟨_, _, rfl, id, (cell_of h2 rfl).c, (cell_of h2 rfl).c, (cell_of h2 rfl).c, (cell_of h2 rfl).c, (cell_of (k := 12) h2 rfl).z, (cell_of (k := 13) h2 rfl).z, (cell_of (k := 14) h2 rfl).z, (cell_of (k := 15) h2 rfl).z⟩
      · obtain rfl : (⟨1, 4, 0, 0⟩ : Op4) = x := by simpa [clOps] using hx
        exact ⟨_, _, rfl, id, (cell_of h2 rfl).c, (cell_of h2 rfl).c, (cell_of h2 rfl).c, (cell_of h2 rfl).c, (cell_of (k := 16) h2 rfl).z, (cell_of (k := 17) h2 rfl).z, (cell_of (k := 18) h2 rfl).z, (cell_of (k := 19) h2 rfl).z⟩
    · have hk : k = 0 := by
        have := (List.getElem?_eq_some_iff.1 hx).1
        simp [clOps] at this
        omega
      subst hk
      obtain rfl : (⟨1, 9, 0, 0⟩ : Op4) = x := by simpa [clOps] using hx
      exact ⟨_, _, rfl, id, (cell_of h3 rfl).c, (cell_of h3 rfl).c, (cell_of h3 rfl).c, (cell_of h3 rfl).c, (cell_of (k := 0) h3 rfl).z, (cell_of (k := 1) h3 rfl).z, (cell_of (k := 2) h3 rfl).z, (cell_of (k := 3) h3 rfl).z⟩
  · refine ⟨?_, by simp⟩
    rw [Nat.zero_add]
    rw [← h7, List.getElem?_take_of_lt (by have := (List.getElem?_eq_some_iff.1 hv).1; simp at this; omega)] at hv
    simpa using hv
theorem PlayU.other {w1 u : World} {n : Nat} {ans : Nat → List (Bool × Int)} {state : List Int} {order : List Nat} {aa rb : Nat} {ov sv : Value} (h : PlayU w1 n ans state order aa ov sv w') (hs : w.heap.size ≤ w1.heap.size) (hold : ∀ r, r < w.heap.size → w1.heap[r]? = w.heap[r]?) (hu : u.heap.size = w'.heap.size) (hne : ∀ r, r ≠ rb → u.heap[r]? = w'.heap[r]?) (hr : ∃ c z, w'.heap[rb]? = some (.cells c 31 z)) (hrb : w.heap.size ≤ rb) : PlayU w n ans state order aa ov sv u := by
  obtain ⟨cr, zr, hr⟩ := hr
  have ty : ∀ (b : Nat) (c : Array Value) (e : TypeId) (z : Nat × Nat), w'.heap[b]? = some (.cells c e z) → e ≠ 31 → u.heap[b]? = w'.heap[b]? := fun b c e z hb he => hne b fun e2 => by
    rw [e2, hr] at hb
    cases hb
    exact he rfl
  obtain ⟨c, a1, a2, a3⟩ := h.arr
  refine ⟨by have := h.size; omega, fun r cc e z hr2 => ?_, ⟨c, (ty _ _ _ _ a1 (by decide)).trans a1, a2, fun i hi => ?_⟩, ?_, ?_⟩
  · have hlt := (Array.getElem?_eq_some_iff.1 hr2).1
    rw [hne r (by omega)]
    exact h.old r cc e z ((hold r hlt).trans hr2)
  · obtain ⟨v, v1, v2, v3⟩ := a3 i hi
    exact ⟨v, v1, v2, own_off v3 fun b cc hb _ => ty b cc _ _ hb (by decide)⟩
  · exact ownsRow_mono_base hs (own_off h.ord fun b cc hb _ => ty b cc _ _ hb (by decide))
  · exact ownsRow_mono_base hs (own_off h.st fun b cc hb _ => ty b cc _ _ hb (by decide))
set_option maxRecDepth 100000 in
set_option maxHeartbeats 1000000 in
theorem bes_classicE {tg : Bool} {E : GS KPl × List Nat} {st : List Int} (hE : ∀ t, (∃ k, ∀ f, k ≤ f → gOver clOps 3 200 clS f (ks0 2 tg) = t) → t = E) (hlive : cnt E.1.live 3 = 0) (hst : KSt.state E.1.q = st) {c : Frame} {cs : List Frame} {Stop : Goroutine → World → Prop}
    (K : ∀ aa oa oc xa xc w', PlayU w 3 (fun i => (E.1.th i).ans) st E.2 aa (.slice oa E.2.length oc) (.slice xa st.length xc) w' →
      Bes An Try.prog Stop (G (c.finish (.agg #[.slice (some ⟨aa, 0, none⟩) 3 3, .slice oa E.2.length oc, .slice xa st.length xc, .bool false])) cs) w') :
    Bes An Try.prog Stop (G (Frame.enter Try.prog 31 #[.bool tg] .normal) (c :: cs)) w := by
  refine bes_own (F := F0) (Stop := fun a u => ∃ A v, Slots 27 A [(2, .pointer (some ⟨w.heap.size, 0, none⟩))] ∧ IntsAt 3 (clW w) u v clS ∧ a = G (Frame.enter Try.prog 34 #[.int .i64 2, .bool tg, .slice (some ⟨w.heap.size + 4, 0, none⟩) 3 3, v, .int .i64 200] .normal) (((Go.Conc.base 31).at ⟨A, []⟩ [.inRegion kclo3 [3, 4], .code .ret]) :: c :: cs))
    (cl_0 under_F0 (Nat.zero_le _) fun A hA => own_many (w0 := clW w) (l := []) (t := 1) (n := 14) (by decide) (IntsAt.nil 3 _) fun w1 v1 i1 => cl_10 hA fun A hA =>
      own_many (w0 := clW w) (t := 0) (n := 2) (by simp) i1 fun w2 v2 i2 => cl_11 hA fun A hA =>
      own_many (w0 := clW w) (t := 1) (n := 14) (by simp) i2 fun w3 v3 i3 => cl_12 hA fun A hA =>
      own_many (w0 := clW w) (t := 2) (n := 3) (by simp) i3 fun w4 v4 i4 => cl_13 hA fun A hA =>
      own_many (w0 := clW w) (t := 1) (n := 7) (by simp) i4 fun w5 v5 i5 => cl_14 hA fun A hA =>
      own_many (w0 := clW w) (t := 0) (n := 5) (by simp) i5 fun w6 v6 i6 => cl_15 hA fun A hA =>
      own_many (w0 := clW w) (t := 2) (n := 4) (by simp) i6 fun w7 v7 i7 => cl_2 hA fun A hA => .stop fun d => ⟨A, v7, hA, ⟨ownsRow_same2 i7.row fun _ _ _ => rfl, i7.size, i7.old, i7.new⟩, rfl⟩) fun a u ⟨A, v, hA, hI, ha⟩ => ?_
  subst ha
  have hsz := hI.size
  rw [cl_size] at hsz
  have hold : ∀ r, r < w.heap.size + 5 → u.heap[r]? = (clW w).heap[r]? := fun r hr => hI.old r (by rw [cl_size]; exact hr)
  obtain ⟨sa, sc, rfl, hin⟩ := cl_in hold hsz hI
  refine bes_kplay (m0 := 2) rfl hin (M := 200) rfl fun s order hd hov aa oa' oc' xa xc w' hP => ?_
  have he := hE _ hov
  have e1 : s = E.1 := congrArg Prod.fst he
  have e2 : order = E.2 := congrArg Prod.snd he
  subst e1
  subst e2
  have hrb : w'.heap[w.heap.size]? = _ := hP.old _ _ _ _ ((hold _ (by omega)).trans cl_b0)
  rw [hlive, hst]
  rw [hst] at hP
  refine bes_own (F := F0) (Stop := fun a u2 => a = G (c.finish (.agg #[.slice (some ⟨aa, 0, none⟩) 3 3, .slice oa' E.2.length oc', .slice xa st.length xc, .bool false])) cs ∧ PlayU w 3 (fun i => (E.1.th i).ans) st E.2 aa (.slice oa' E.2.length oc') (.slice xa st.length xc) u2)
    (cl_3 (rb := w.heap.size) ⟨hrb⟩ (fun k => notF0 _) hA (.stop fun d => ⟨rfl, ?_⟩)) fun a u2 ⟨ha, hu⟩ => ?_
  · refine hP.other (w := w) (rb := w.heap.size) (by omega) (fun r hr => (hold r (by omega)).trans (cl_old hr)) ?_ (fun r hr => ?_) ⟨_, _, hrb⟩ (Nat.le_refl _)
    · show (trW _ _ _ _ _ _).heap.size = _
      unfold trW; simp
    · show (trW _ _ _ _ _ _).heap[r]? = _
      unfold trW
      rw [heap_setCell_ne _ _ _ hr, heap_setCell_ne _ _ _ hr, heap_setCell_ne _ _ _ hr, heap_setCell_ne _ _ _ hr]
  · subst ha
    exact K _ _ _ _ _ _ hu
theorem clE_is (tg : Bool) (t : GS KPl × List Nat) (h : ∃ k, ∀ f, k ≤ f → gOver clOps 3 200 clS f (ks0 2 tg) = t) : t = clE tg := gOver_is (F := 10) (clE_done tg) h
theorem bes_classic {tg : Bool} {c : Frame} {cs : List Frame} {Stop : Goroutine → World → Prop}
    (K : ∀ aa oa oc xa xc w', PlayU w 3 (fun i => ((clE tg).1.th i).ans) (clSt tg) (clE tg).2 aa (.slice oa (clE tg).2.length oc) (.slice xa (clSt tg).length xc) w' →
      Bes An Try.prog Stop (G (c.finish (.agg #[.slice (some ⟨aa, 0, none⟩) 3 3, .slice oa (clE tg).2.length oc, .slice xa (clSt tg).length xc, .bool false])) cs) w') :
    Bes An Try.prog Stop (G (Frame.enter Try.prog 31 #[.bool tg] .normal) (c :: cs)) w :=
  bes_classicE (clE_is tg) (clE_live tg) (clE_st tg) K
end Go.Proofs.Ytlcgkpapnpdfpaa
namespace Go.Proofs.Ytlcgkpapnpdfpaa
open Go Go.Conc Go.RowKit Go.Proofs
variable {w w' : World}
theorem RRow.drewN {w : World} {a : Option Addr} {xs : List Value} (h : RRow w a xs) (k : Nat) : RRow (w.drewN k) a xs := h.heap rfl
set_option maxRecDepth 100000 in
theorem same32 {aa ab : Option Addr} {ca cb : Nat} {xs : List Int} (hl : xs.length < 100000000) (hA : RRow w aa (xs.map fun v => .int .i64 v)) (hB : RRow w ab (xs.map fun v => .int .i64 v)) :
    Calls Try.prog 32 #[.slice aa xs.length ca, .slice ab xs.length cb] w fun x w' => x = .returned (.bool true) ∧ w'.heap = w.heap := by
  have E : Aside (RRow w aa (xs.map fun v => .int .i64 v) ∧ RRow w ab (xs.map fun v => .int .i64 v)) := ⟨hA, hB⟩
  clear hA hB
  go_enter Try.func32, Try.ntmps32
  go_wp2
  go_loopg [5] xs.length (fun g i wr => ∃ k : Nat, k ≤ xs.length ∧ i = .int .i64 k ∧ g = xs.length - k ∧ wr.heap = w.heap)
  case atStart => exact ⟨0, Nat.zero_le _, rfl, rfl, rfl⟩
  case round =>
    obtain ⟨k, hk, rfl, rfl, hw⟩ := hrel
    rcases Nat.lt_or_ge k xs.length with hlt | hge
    · obtain ⟨b1, o1, rfl, h1⟩ := (E.out.1.heap hw).c k (.int .i64 xs[k]) (by simp [hlt])
      obtain ⟨b2, o2, rfl, h2⟩ := (E.out.2.heap hw).c k (.int .i64 xs[k]) (by simp [hlt])
      have hwr : IntKind.i64.wrap ((k : Int) + 1) = (k : Int) + 1 := IntWalk.i64_in _ (by omega)
      go_wp2
      go_quiet (fail)
      go_wp2
      go_roundg (xs.length - (k + 1))
      case measure => omega
      case rel => exact ⟨k + 1, hlt, rfl, rfl, hw⟩
    · have : k = xs.length := by omega
      subst this
      go_wp2
      go_ret
      exact ⟨rfl, hw⟩
end Go.Proofs.Ytlcgkpapnpdfpaa
namespace Go.Proofs.Ytlcgkpapnpdfpaa
open Go Go.Conc Go.RowKit Go.Proofs
variable {F : Fz} {w : World}
theorem tr_newU (X : World) (x y z u x' y' z' u' : Value) : ((((X.alloc (.cells #[x, y, z, u] 31)).setCell ⟨X.heap.size, 0, none⟩ x').setCell ⟨X.heap.size, 1, none⟩ y').setCell ⟨X.heap.size, 2, none⟩ z').setCell ⟨X.heap.size, 3, none⟩ u' = X.alloc (.cells #[x', y', z', u'] 31) := by go_simp
set_option maxRecDepth 100000 in
set_option maxHeartbeats 2000000 in
theorem tu_1 {n : Nat} (hU : Under F n) (hn : n ≤ w.heap.size) {aa oa xa : Option Addr} {al ac ol oz xl xc : Nat} {st : Bool} {A : Array Value} (hA : Slots 76 A [(2, .int .i64 6), (3, .bool true), (4, .int .i64 0), (5, .int .i64 3), (6, .int .i64 1), (7, .int .i64 3)]) {cs : List Frame} {main : Bool} {Stop : Goroutine → World → Prop}
    (h : ∀ A, Slots 76 A [(2, .int .i64 6), (3, .bool true), (4, .int .i64 0), (5, .int .i64 3), (6, .int .i64 1), (7, .int .i64 3), (8, .pointer (some ⟨w.heap.size, 0, none⟩))] → Own Try.prog main F Stop (G ((Go.Conc.base 30).at ⟨A, []⟩ [.code ktur7, .code .ret]) cs) (w.alloc (.cells #[.slice aa al ac, .slice oa ol oz, .slice xa xl xc, .bool st] 31))) :
    Own Try.prog main F Stop (G (((Go.Conc.base 30).at ⟨A, []⟩ [.inRegion ktuo6 [0, 1, 2], .code ktus8]).finish (.agg #[.slice aa al ac, .slice oa ol oz, .slice xa xl xc, .bool st])) cs) w := by
  obtain ⟨hsz, h2, h3, h4, h5, h6, h7, _⟩ := hA
  obtain ⟨s, rfl⟩ := ktuT_of hsz
  change s 2 = _ at h2
  change s 3 = _ at h3
  change s 4 = _ at h4
  change s 5 = _ at h5
  change s 6 = _ at h6
  change s 7 = _ at h7
  clear hsz
  simp only [ktuT, h2, h3, h4, h5, h6, h7]
  clear h2 h3 h4 h5 h6 h7
  rw [Frame.finish_at]
  simp only [ktuo6, Code.opsOf, ktur6, Code.piece, ktuBody, Try.f30, Option.getD_some, List.size_toArray, List.length_cons, List.length_nil, Nat.reduceAdd, Nat.zero_add, List.range, List.range.loop]
  walk_nrm
  (refine oW fun dd K hK => ?_; go_simp; refine qA hK hU ?_; clear hK K)
  (refine oW fun dd K hK => ?_; go_simp; refine hK _ _ ⟨⟨⟨0, grew4 (fun k => not_held hU (show n ≤ w.heap.size by omega)) _ _ _ _⟩, fun e he => by (have hm := mem_listed he; clear he hK; simp [go_sem, storedEv] at hm; rcases hm with rfl | rfl | rfl | rfl <;> exact evT_write _ _ ((fun k => not_held hU (show n ≤ w.heap.size by omega)) _))⟩, ?_⟩; clear hK K; simp only [setCell_at']; refine Own.at ?_ dd)
  have e1 := tr_newU w (.slice none 0 0) (.slice none 0 0) (.slice none 0 0) (.bool false) (.slice aa al ac) (.slice oa ol oz) (.slice xa xl xc) (.bool st)
  rw [e1]
  clear e1
  refine ogE ?_
  rw [ktus8_eq]
  refine ogS ?_
  refine h _ ?_
  exact ⟨rfl, rfl, rfl, rfl, rfl, rfl, rfl, rfl, trivial⟩
def tuFns : List Nat := [32]
theorem closedTu : Closed Try.prog (fun f => tuFns.contains f) true := closed_ofX (x := []) (fun f h => by cases h) (by kernel_rfl)
theorem RRow.same {a : Option Addr} {xs : List Value} {w w' : World} (h : RRow w a xs) (he : ∀ b o, a = some ⟨b, o, none⟩ → w'.heap[b]? = w.heap[b]?) : RRow w' a xs :=
  ⟨fun k x hx => by
    obtain ⟨b, o, h1, h2⟩ := h.c k x hx
    exact ⟨b, o, h1, by simpa only [World.cell?, he b o h1] using h2⟩⟩
theorem RRow.alloc {a : Option Addr} {xs : List Value} {w : World} (h : RRow w a xs) (o : Obj) : RRow (w.alloc o) a xs :=
  ⟨fun k x hx => by
    obtain ⟨b, o1, h1, h2⟩ := h.c k x hx
    exact ⟨b, o1, h1, (cellB_alloc h2 o).1⟩⟩
theorem rrow_new (w : World) (xs : List Value) (e : TypeId) : RRow (w.alloc (.cells xs.toArray e)) (some ⟨w.heap.size, 0, none⟩) xs :=
  ⟨fun k x hx => ⟨_, _, rfl, by
    have := heap_alloc_new w (.cells xs.toArray e)
    simp only [World.cell?, this, Nat.zero_add]
    simpa using hx⟩⟩
set_option maxRecDepth 100000 in
theorem tu_2 {T xc : Nat} {xa : Option Addr} {v0 v1 : Value} (hT : w.heap[T]? = some (.cells #[v0, v1, .slice xa 5 xc, .bool false] 31 (0, 0))) (hX : RRow w xa (([0, 7, 1, 7, 9] : List Int).map fun v => .int .i64 v)) {A : Array Value} (hA : Slots 76 A [(2, .int .i64 6), (3, .bool true), (4, .int .i64 0), (5, .int .i64 3), (6, .int .i64 1), (7, .int .i64 3), (8, .pointer (some ⟨T, 0, none⟩))]) :
    ktur7.wp Try.prog (nrm fun a u => a.defers = [] ∧ (a.tmps.size = 76 ∧ a.tmps.getD 0 undef = .bool true ∧ w.heap.size ≤ u.heap.size ∧ ∀ r, r < w.heap.size → u.heap[r]? = w.heap[r]?)) ⟨A, []⟩ w := by
  obtain ⟨hsz, h2, h3, h4, h5, h6, h7, h8, _⟩ := hA
  obtain ⟨s, rfl⟩ := ktuT_of hsz
  change s 2 = _ at h2
  change s 3 = _ at h3
  change s 4 = _ at h4
  change s 5 = _ at h5
  change s 6 = _ at h6
  change s 7 = _ at h7
  change s 8 = _ at h8
  clear hsz
  have c2 : w.cell? ⟨T, 2, none⟩ = some (.slice xa 5 xc) := by simp [World.cell?, hT]
  have c3 : w.cell? ⟨T, 3, none⟩ = some (.bool false) := by simp [World.cell?, hT]
  have z3 : w.frozen? ⟨T, 3, none⟩ = false := by simp [World.frozen?, hT]
  have hlt := (Array.getElem?_eq_some_iff.1 hT).1
  have C : Aside (Calls Try.prog 32 #[.slice xa 5 xc, .slice (some ⟨w.heap.size, 0, none⟩) 5 5] (w.alloc (.cells #[.int .i64 0, .int .i64 7, .int .i64 1, .int .i64 7, .int .i64 9] 2)) fun x w' => x = .returned (.bool true) ∧ w'.heap = (w.alloc (.cells #[.int .i64 0, .int .i64 7, .int .i64 1, .int .i64 7, .int .i64 9] 2)).heap) :=
    same32 (xs := [0, 7, 1, 7, 9]) (by decide) (hX.alloc _) (rrow_new w ([0, 7, 1, 7, 9].map fun v => .int .i64 v) 2)
  have HT : Aside (w.heap[T]? = some (.cells #[v0, v1, .slice xa 5 xc, .bool false] 31 (0, 0)) ∧ T < w.heap.size) := ⟨hT, hlt⟩
  clear hT hX hlt
  simp only [ktur7, ktuBody, Code.piece, Try.f30, Option.getD_some, ktuT, h2, h3, h4, h5, h6, h7, h8]
  clear h2 h3 h4 h5 h6 h7 h8
  go_wp2_with (go_at_call 32; refine C.out.mono ?_; rintro e w1 ⟨rfl, hw1⟩; have W1 : Aside (w1.heap = (w.alloc (.cells #[.int .i64 0, .int .i64 7, .int .i64 1, .int .i64 7, .int .i64 9] 2)).heap) := hw1; have g3 : w1.cell? ⟨T, 3, none⟩ = some (.bool false) := (by simp [World.cell?, W1.out, heap_alloc_lt _ _ HT.out.2, HT.out.1]); clear hw1)
  refine ⟨rfl, rfl, rfl, ?_, fun r hr => ?_⟩
  · rw [W1.out]; simp
  · rw [W1.out]; exact heap_alloc_lt _ _ hr
variable {An : Anchor}
theorem bes_turns {c : Frame} {cs : List Frame} {Stop : Goroutine → World → Prop} (K : ∀ w', w.heap.size ≤ w'.heap.size → (∀ (r : Nat) (c : Array Value) (e : TypeId) (z : Nat × Nat), w.heap[r]? = some (.cells c e z) → w'.heap[r]? = some (.cells c e z)) → Bes An Try.prog Stop (G (c.finish (.bool true)) cs) w') :
    Bes An Try.prog Stop (G (Frame.enter Try.prog 30 #[] .normal) (c :: cs)) w := by
  refine bes_own (F := F0) (Stop := fun a u => ∃ A, Slots 76 A [(2, .int .i64 6), (3, .bool true), (4, .int .i64 0), (5, .int .i64 3), (6, .int .i64 1), (7, .int .i64 3)] ∧ w.heap.size ≤ u.heap.size ∧ (∀ r, r < w.heap.size → u.heap[r]? = w.heap[r]?) ∧ a = G (Frame.enter Try.prog 31 #[.bool true] .normal) (((Go.Conc.base 30).at ⟨A, []⟩ [.inRegion ktuo6 [0, 1, 2], .code ktus8]) :: c :: cs))
    (tu_0 fun A w' hA hs ho => .stop fun d => ⟨A, hA, hs, ho, rfl⟩) fun a u ⟨A, hA, hs, ho, ha⟩ => ?_
  subst ha
  refine bes_classic fun aa oa oc xa xc w' hP => ?_
  have hst := hP.st
  refine bes_own (F := F0) (Stop := fun a u2 => a = G (c.finish (.bool true)) cs ∧ w'.heap.size ≤ u2.heap.size ∧ ∀ r, r < w'.heap.size → u2.heap[r]? = w'.heap[r]?)
    (tu_1 under_F0 (Nat.zero_le _) hA fun A hA => ?_) fun a u2 ⟨ha, hs2, ho2⟩ => ?_
  · have hn := heap_alloc_new w' (.cells #[.slice (some ⟨aa, 0, none⟩) 3 3, .slice oa (clE true).2.length oc, .slice xa (clSt true).length xc, .bool false] 31)
    have hX := (rrow_of hst).alloc (.cells #[.slice (some ⟨aa, 0, none⟩) 3 3, .slice oa (clE true).2.length oc, .slice xa (clSt true).length xc, .bool false] 31)
    have hz : (w'.alloc (.cells #[.slice (some ⟨aa, 0, none⟩) 3 3, .slice oa (clE true).2.length oc, .slice xa (clSt true).length xc, .bool false] 31)).heap.size = w'.heap.size + 1 := by simp
    have hl : ∀ r, r < w'.heap.size → (w'.alloc (.cells #[.slice (some ⟨aa, 0, none⟩) 3 3, .slice oa (clE true).2.length oc, .slice xa (clSt true).length xc, .bool false] 31)).heap[r]? = w'.heap[r]? := fun r hr => heap_alloc_lt _ _ hr
    generalize w'.alloc (.cells #[.slice (some ⟨aa, 0, none⟩) 3 3, .slice oa (clE true).2.length oc, .slice xa (clSt true).length xc, .bool false] 31) = V at hn hX hz hl ⊢
    refine own_piece closedTu prog_late (by kernel_rfl) (R := fun A u => A.size = 76 ∧ A.getD 0 undef = .bool true ∧ V.heap.size ≤ u.heap.size ∧ ∀ r, r < V.heap.size → u.heap[r]? = V.heap[r]?) (by decide) (fun τ e => tu_2 (w := retape V τ e) hn (hX.heap rfl) hA) fun A2 w2 τ e hR hg => ?_
    obtain ⟨r1, r2, r3, r4⟩ := hR
    refine ogX ?_
    refine own_go rfl (fun d => stepG_leave (fn := Try.f30) (v := .bool true) rfl rfl Try.func30 (by simpa [results, Try.f30, Array.getD_eq_getD_getElem?] using r2) (by simp [results, Try.f30, go_sem])) (.stop fun d => ⟨rfl, ?_, fun r hr => ?_⟩)
    · have r3 : V.heap.size ≤ w2.heap.size := r3
      show _ ≤ w2.heap.size
      omega
    · have r4 : w2.heap[r]? = V.heap[r]? := r4 r (by omega)
      exact r4.trans (hl r hr)
  · subst ha
    have h6 := hP.size
    refine K u2 (by omega) fun r cc e z hr => ?_
    have hlt := (Array.getElem?_eq_some_iff.1 hr).1
    have h6 := hP.old r cc e z ((ho r hlt).trans hr)
    rw [ho2 r (Array.getElem?_eq_some_iff.1 h6).1]
    exact h6
end Go.Proofs.Ytlcgkpapnpdfpaa
namespace Go.Proofs.Ytlcgkpapnpdfpaa
open Go Go.Conc Go.RowKit Go.Proofs
theorem bes_good {An : Anchor} {P : Program} {Post : Value → World → Prop} {fr : Frame} {W : World} (hA : An.Holds W)
    (hB : Bes An P (fun g w => g.status = .running ∧ ∀ d, ∃ v, stepG P true g (w.at d) = .ended (.done v) (w.at d) #[] ∧ (An.Holds (w.at d) → Post v (w.at d))) (G fr []) W) :
    ∃ M last o w' t', runNT P (M + 1) (solo (G fr []) W) #[] = (.ended o w', t') ∧ runN P M (solo (G fr []) W) = .next last ∧ step P last = .ended o w' ∧ Go.Conc.Good P Post last o w' t' := by
  rw [solo_eq_crowd]
  obtain ⟨N, gs', g', w', sl', T', q', B', hr, h0', ⟨hrun, hS⟩, hL', hP', hA'⟩ := hB #[G fr []] none #[] (fun _ => 0) 0 rfl (leavers_one _ _) past_nil hA
  obtain ⟨K, last, o, w2, t', e1, e2, e3, e4⟩ := beside_ends (P := P) (Post := Post) (D := fun _ _ es => ∀ e ∈ es, EvL NoShun B' e) (sl := sl') (n := 0) (fun _ _ _ h => h) h0' hL' hP' (Goes.stop fun w₂ r₂ => by
    obtain ⟨d, rfl⟩ := r₂
    obtain ⟨v, h1, h2⟩ := hS d
    exact ⟨hrun, v, #[], h1, by simp, h2 (hA'.at d)⟩)
  refine ⟨N + K, last, o, w2, t', ?_, ?_, e3, e4⟩
  · rw [Nat.add_assoc, runNT_add, hr]; exact e1
  · rw [runN_add, ← runNT_fst P _ _ #[], hr]; exact e2
theorem below_of {W w' : World} (h : (⟨W.heap.size, W⟩ : Anchor).Holds w') (hc : ∀ (r : Nat) (c : Array Value) (e : TypeId) (z : Nat × Nat), W.heap[r]? = some (.cells c e z) → w'.heap[r]? = some (.cells c e z)) : Below W.heap.size W w' := by
  refine ⟨h.os, h.tape, h.output, h.low, fun r hr => ?_⟩
  obtain ⟨o, ho⟩ : ∃ o, W.heap[r]? = some o := ⟨_, Array.getElem?_eq_getElem hr⟩
  by_cases e : ∃ c e z, o = .cells c e z
  · obtain ⟨c, e, z, rfl⟩ := e
    rw [hc r c e z ho, ho]
  · rw [h.obj r o hr ho fun c e1 z e2 => e ⟨c, e1, z, e2⟩, ho]
theorem law_ends {f k : Nat} {fn : Func} {A : Array Value} (h2 : ¬ 2 = f) (hf : Try.prog.funcs[f]? = some fn) (hr : fn.results = #[.tmp k]) {v : Value} (hA : A.getD k undef = v) (w : World) :
    stepG Try.prog true (G { (base f).at ⟨A, []⟩ [.code .ret] with mode := .returning } []) w = .ended (.done v) w #[] := by
  subst hA
  simp [G, stepG, unwind, doReturn, results, Frame.at, base, hf, hr, seen, GStep.after, h2]
section
variable {An : Anchor} {W : World}
def LawPost (W : World) (v : Value) (w' : World) : Prop := v = .bool true ∧ ∀ (r : Nat) (c : Array Value) (e : TypeId) (z : Nat × Nat), W.heap[r]? = some (.cells c e z) → w'.heap[r]? = some (.cells c e z)
def LawStop (An : Anchor) (Post : Value → World → Prop) (g : Goroutine) (w : World) : Prop := g.status = .running ∧ ∀ d, ∃ v, stepG Try.prog true g (w.at d) = .ended (.done v) (w.at d) #[] ∧ (An.Holds (w.at d) → Post v (w.at d))
theorem law_stop {f k : Nat} {fn : Func} {A : Array Value} (hf : Try.prog.funcs[f]? = some fn) (hr : fn.results = #[.tmp k]) (h2 : ¬ 2 = f) (hA : A.getD k undef = .bool true) {w : World} (h : ∀ (r : Nat) (c : Array Value) (e : TypeId) (z : Nat × Nat), W.heap[r]? = some (.cells c e z) → w.heap[r]? = some (.cells c e z)) :
    LawStop An (LawPost W) (G { (base f).at ⟨A, []⟩ [.code .ret] with mode := .returning } []) w :=
  ⟨rfl, fun d => ⟨_, law_ends h2 hf hr hA _, fun _ => ⟨rfl, h⟩⟩⟩
end
theorem Try.own : ownKnob Try.prog.godebug = none := by kernel_rfl
theorem Try.laidOut : laidOutB Try.prog = true := by kernel_rfl
end Go.Proofs.Ytlcgkpapnpdfpaa
namespace Go.Proofs.Ytlcgkpapnpdfpaa
open Go Go.Conc Go.RowKit Go.Proofs
variable {F : Fz} {w : World}
noncomputable def kscBody : Code := Try.f8.body.getD .skip
noncomputable def kscs0 : Code := Code.piece [] kscBody
noncomputable def kscr0 : Code := Code.piece [true] kscBody
noncomputable def ksco0 : Array Oper := Code.opsOf kscr0
noncomputable def kscs1 : Code := Code.piece [false] kscBody
noncomputable def kscs2 : Code := Code.piece [false, true] kscBody
noncomputable def kscr1 : Code := Code.piece [false, true, true] kscBody
noncomputable def ksco1 : Array Oper := Code.opsOf kscr1
noncomputable def kscc4 : Code := Code.piece [false, true, false] kscBody
noncomputable def kscs3 : Code := Code.piece [false, true, false, true] kscBody
noncomputable def kscr2 : Code := Code.piece [false, true, false, true, true] kscBody
noncomputable def ksco2 : Array Oper := Code.opsOf kscr2
noncomputable def kscs4 : Code := Code.piece [false, false] kscBody
noncomputable def kscr3 : Code := Code.piece [false, false, true] kscBody
noncomputable def ksco3 : Array Oper := Code.opsOf kscr3
noncomputable def kscs5 : Code := Code.piece [false, false, false] kscBody
noncomputable def kscs6 : Code := Code.piece [false, false, false, true] kscBody
noncomputable def kscr4 : Code := Code.piece [false, false, false, true, true] kscBody
noncomputable def ksco4 : Array Oper := Code.opsOf kscr4
noncomputable def kscc32 : Code := Code.piece [false, false, false, true, false] kscBody
noncomputable def kscs7 : Code := Code.piece [false, false, false, true, false, true] kscBody
noncomputable def kscr5 : Code := Code.piece [false, false, false, true, false, true, true] kscBody
noncomputable def ksco5 : Array Oper := Code.opsOf kscr5
noncomputable def kscs8 : Code := Code.piece [false, false, false, false] kscBody
noncomputable def kscr6 : Code := Code.piece [false, false, false, false, true] kscBody
noncomputable def ksco6 : Array Oper := Code.opsOf kscr6
theorem kscs0_eq : kscs0 = .seq kscr0 kscs1 := by kernel_rfl
theorem kscr0_eq : kscr0 = .region 0 ksco0 false := by kernel_rfl
theorem kscs1_eq : kscs1 = .seq kscs2 kscs4 := by kernel_rfl
theorem kscs2_eq : kscs2 = .seq kscr1 kscc4 := by kernel_rfl
theorem kscr1_eq : kscr1 = .region 1 ksco1 false := by kernel_rfl
theorem kscc4_eq : kscc4 = .cond (.tmp 4) kscs3 .skip := by kernel_rfl
theorem kscs3_eq : kscs3 = .seq kscr2 .ret := by kernel_rfl
theorem kscr2_eq : kscr2 = .region 2 ksco2 false := by kernel_rfl
theorem kscs4_eq : kscs4 = .seq kscr3 kscs5 := by kernel_rfl
theorem kscr3_eq : kscr3 = .region 3 ksco3 false := by kernel_rfl
theorem kscs5_eq : kscs5 = .seq kscs6 kscs8 := by kernel_rfl
theorem kscs6_eq : kscs6 = .seq kscr4 kscc32 := by kernel_rfl
theorem kscr4_eq : kscr4 = .region 4 ksco4 false := by kernel_rfl
theorem kscc32_eq : kscc32 = .cond (.tmp 32) kscs7 .skip := by kernel_rfl
theorem kscs7_eq : kscs7 = .seq kscr5 .ret := by kernel_rfl
theorem kscr5_eq : kscr5 = .region 5 ksco5 false := by kernel_rfl
theorem kscs8_eq : kscs8 = .seq kscr6 .ret := by kernel_rfl
theorem kscr6_eq : kscr6 = .region 6 ksco6 false := by kernel_rfl
theorem enter_ksc (args : Array Value) : Frame.enter Try.prog 8 args .normal = (Go.Conc.base 8).at { tmps := args ++ Array.replicate (57 - args.size) undef, defers := [] } [.code kscs0] := enter_at args Try.func8 rfl
theorem callable8 : Callable 8 := callable Try.func8 rfl rfl
def kscT (s : Nat → Value) : Array Value := #[s 0, s 1, s 2, s 3, s 4, s 5, s 6, s 7, s 8, s 9, s 10, s 11, s 12, s 13, s 14, s 15, s 16, s 17, s 18, s 19, s 20, s 21, s 22, s 23, s 24, s 25, s 26, s 27, s 28, s 29, s 30, s 31, s 32, s 33, s 34, s 35, s 36, s 37, s 38, s 39, s 40, s 41, s 42, s 43, s 44, s 45, s 46, s 47, s 48, s 49, s 50, s 51, s 52, s 53, s 54, s 55, s 56]
theorem kscT_of {A : Array Value} (h : A.size = 57) : ∃ s, A = kscT s := by
  obtain ⟨s, hs, _⟩ := arr_lit A h
  exact ⟨s, hs⟩
set_option maxRecDepth 100000 in
set_option maxHeartbeats 2000000 in
theorem sc_0  {cs : List Frame} {main : Bool} {Stop : Goroutine → World → Prop}
    (h : ∀ A, A.size = 57 → Own Try.prog main F Stop (G (Frame.enter Try.prog 30 #[] .normal) (((Go.Conc.base 8).at ⟨A, []⟩ [.inRegion ksco1 [0, 1], .code kscc4, .code kscs4]) :: cs)) w) :
    Own Try.prog main F Stop (G (Frame.enter Try.prog 8 #[] .normal) cs) w := by
  rw [enter_ksc]
  walk_nrm
  rw [kscs0_eq]
  refine ogS ?_
  rw [kscr0_eq]
  refine ogR ?_
  simp only [ksco0, Code.opsOf, kscr0, Code.piece, kscBody, Try.f8, Option.getD_some, List.size_toArray, List.length_cons, List.length_nil, Nat.reduceAdd, Nat.zero_add, List.range, List.range.loop]
  (refine oW fun dd K hK => ?_; go_simp; refine qT hK ?_; clear hK K)
  refine ogE ?_
  rw [kscs1_eq]
  refine ogS ?_
  rw [kscs2_eq]
  refine ogS ?_
  rw [kscr1_eq]
  refine ogR ?_
  simp only [ksco1, Code.opsOf, kscr1, Code.piece, kscBody, Try.f8, Option.getD_some, List.size_toArray, List.length_cons, List.length_nil, Nat.reduceAdd, Nat.zero_add, List.range, List.range.loop]
  refine oc callable30 #[] ?_
  refine h _ ?_
  rfl
set_option maxRecDepth 100000 in
set_option maxHeartbeats 2000000 in
theorem sc_1 {A : Array Value} (hA : A.size = 57) {cs : List Frame} {main : Bool} {Stop : Goroutine → World → Prop}
    (h : ∀ A, A.size = 57 → Own Try.prog main F Stop (G (Frame.enter Try.prog 31 #[.bool false] .normal) (((Go.Conc.base 8).at ⟨A, []⟩ [.inRegion ksco3 [0, 1, 2, 3, 4, 5], .code kscs5]) :: cs)) w) :
    Own Try.prog main F Stop (G (((Go.Conc.base 8).at ⟨A, []⟩ [.inRegion ksco1 [0, 1], .code kscc4, .code kscs4]).finish (.bool true)) cs) w := by
  obtain ⟨s, rfl⟩ := kscT_of hA
  clear hA
  simp only [kscT]
  rw [Frame.finish_at]
  simp only [ksco1, Code.opsOf, kscr1, Code.piece, kscBody, Try.f8, Option.getD_some, List.size_toArray, List.length_cons, List.length_nil, Nat.reduceAdd, Nat.zero_add, List.range, List.range.loop]
  walk_nrm
  (refine oW fun dd K hK => ?_; go_simp; refine qT hK ?_; clear hK K)
  refine ogE ?_
  rw [kscc4_eq]
  refine ogF ?_
  simp only [Bool.false_eq_true, if_false]
  refine ogK ?_
  rw [kscs4_eq]
  refine ogS ?_
  rw [kscr3_eq]
  refine ogR ?_
  simp only [ksco3, Code.opsOf, kscr3, Code.piece, kscBody, Try.f8, Option.getD_some, List.size_toArray, List.length_cons, List.length_nil, Nat.reduceAdd, Nat.zero_add, List.range, List.range.loop]
  refine oc callable31 #[.bool false] ?_
  refine h _ ?_
  rfl
set_option maxRecDepth 100000 in
set_option maxHeartbeats 2000000 in
theorem sc_2 {v : Value} {A : Array Value} (hA : A.size = 57) {cs : List Frame} {main : Bool} {Stop : Goroutine → World → Prop}
    (h : ∀ A, Slots 57 A [(5, v)] → Own Try.prog main F Stop (G (Frame.enter Try.prog 31 #[.bool true] .normal) (((Go.Conc.base 8).at ⟨A, []⟩ [.inRegion ksco3 [1, 2, 3, 4, 5], .code kscs5]) :: cs)) w) :
    Own Try.prog main F Stop (G (((Go.Conc.base 8).at ⟨A, []⟩ [.inRegion ksco3 [0, 1, 2, 3, 4, 5], .code kscs5]).finish v) cs) w := by
  obtain ⟨s, rfl⟩ := kscT_of hA
  clear hA
  simp only [kscT]
  rw [Frame.finish_at]
  simp only [ksco3, Code.opsOf, kscr3, Code.piece, kscBody, Try.f8, Option.getD_some, List.size_toArray, List.length_cons, List.length_nil, Nat.reduceAdd, Nat.zero_add, List.range, List.range.loop]
  walk_nrm
  refine oc callable31 #[.bool true] ?_
  refine h _ ?_
  exact ⟨rfl, rfl, trivial⟩
set_option maxRecDepth 100000 in
set_option maxHeartbeats 2000000 in
theorem sc_3 {aa oa xa ba pa ya : Option Addr} {al ac ol oz xl xc bl bc pl pz yl yc : Nat} {st tt : Bool} {A : Array Value} (hA : Slots 57 A [(5, .agg #[.slice aa al ac, .slice oa ol oz, .slice xa xl xc, .bool st])]) {cs : List Frame} {main : Bool} {Stop : Goroutine → World → Prop}
    (h : ∀ A W, Slots 57 A [(1, .pointer (some ⟨w.heap.size, 0, none⟩)), (2, .pointer (some ⟨w.heap.size + 1, 0, none⟩))] → TrAt W w.heap.size (.slice aa al ac) (.slice oa ol oz) (.slice xa xl xc) (.bool st) → TrAt W (w.heap.size + 1) (.slice ba bl bc) (.slice pa pl pz) (.slice ya yl yc) (.bool tt) → (∀ r, r < w.heap.size → W.heap[r]? = w.heap[r]?) → Own Try.prog main F0 Stop (G ((Go.Conc.base 8).at ⟨A, []⟩ [.code kscr4, .code kscc32, .code kscs8]) cs) W) :
    Own Try.prog main F0 Stop (G (((Go.Conc.base 8).at ⟨A, []⟩ [.inRegion ksco3 [1, 2, 3, 4, 5], .code kscs5]).finish (.agg #[.slice ba bl bc, .slice pa pl pz, .slice ya yl yc, .bool tt])) cs) w := by
  obtain ⟨hsz, h5, _⟩ := hA
  obtain ⟨s, rfl⟩ := kscT_of hsz
  change s 5 = _ at h5
  clear hsz
  simp only [kscT, h5]
  clear h5
  rw [Frame.finish_at]
  simp only [ksco3, Code.opsOf, kscr3, Code.piece, kscBody, Try.f8, Option.getD_some, List.size_toArray, List.length_cons, List.length_nil, Nat.reduceAdd, Nat.zero_add, List.range, List.range.loop]
  walk_nrm
  have hU : Under F0 0 := under_F0
  (refine oW fun dd K hK => ?_; go_simp; refine qA hK hU ?_; clear hK K)
  (refine oW fun dd K hK => ?_; go_simp; refine qA hK hU ?_; clear hK K)
  have hR1 : TrAt ((w.alloc (.cells #[.slice none 0 0, .slice none 0 0, .slice none 0 0, .bool false] 31)).alloc (.cells #[.slice none 0 0, .slice none 0 0, .slice none 0 0, .bool false] 31)) w.heap.size (.slice none 0 0) (.slice none 0 0) (.slice none 0 0) (.bool false) := ⟨(heap_alloc_lt _ _ (by simp)).trans (heap_alloc_new _ _)⟩
  have hR2 : TrAt ((w.alloc (.cells #[.slice none 0 0, .slice none 0 0, .slice none 0 0, .bool false] 31)).alloc (.cells #[.slice none 0 0, .slice none 0 0, .slice none 0 0, .bool false] 31)) (w.heap.size + 1) (.slice none 0 0) (.slice none 0 0) (.slice none 0 0) (.bool false) := ⟨new2 w _ _ 31⟩
  have hlo : ∀ r, r < w.heap.size → ((w.alloc (.cells #[.slice none 0 0, .slice none 0 0, .slice none 0 0, .bool false] 31)).alloc (.cells #[.slice none 0 0, .slice none 0 0, .slice none 0 0, .bool false] 31)).heap[r]? = w.heap[r]? := fun r hr => old2 _ _ _ hr
  generalize (w.alloc (.cells #[.slice none 0 0, .slice none 0 0, .slice none 0 0, .bool false] 31)).alloc (.cells #[.slice none 0 0, .slice none 0 0, .slice none 0 0, .bool false] 31) = V at hR1 hR2 hlo ⊢
  (refine oW fun dd K hK => ?_; have hc0 := (hR1.at dd).c0; have hc1 := (hR1.at dd).c1; have hc2 := (hR1.at dd).c2; have hc3 := (hR1.at dd).c3; have hz0 := (hR1.at dd).z; go_simp; refine hK _ _ ⟨⟨⟨0, grew4 (fun k => notF0 _) _ _ _ _⟩, fun e he => by (have hm := mem_listed he; clear he hK; simp [go_sem, storedEv, hc0, hc1, hc2, hc3, hz0] at hm; rcases hm with rfl | rfl | rfl | rfl <;> exact evT_write _ _ (notF0 _))⟩, ?_⟩; clear hK K hc0 hc1 hc2 hc3 hz0; simp only [setCell_at']; refine Own.at ?_ dd)
  have hR1b := hR1.put (.slice aa al ac) (.slice oa ol oz) (.slice xa xl xc) (.bool st)
  have hR2b : TrAt (trW V w.heap.size (.slice aa al ac) (.slice oa ol oz) (.slice xa xl xc) (.bool st)) (w.heap.size + 1) (.slice none 0 0) (.slice none 0 0) (.slice none 0 0) (.bool false) := ⟨by unfold trW; rw [heap_setCell_ne _ _ _ (by simp), heap_setCell_ne _ _ _ (by simp), heap_setCell_ne _ _ _ (by simp), heap_setCell_ne _ _ _ (by simp)]; exact hR2.o⟩
  have hlo2 : ∀ r, r < w.heap.size → (trW V w.heap.size (.slice aa al ac) (.slice oa ol oz) (.slice xa xl xc) (.bool st)).heap[r]? = w.heap[r]? := fun r hr => by unfold trW; rw [heap_setCell_ne _ _ _ (by simp only; omega), heap_setCell_ne _ _ _ (by simp only; omega), heap_setCell_ne _ _ _ (by simp only; omega), heap_setCell_ne _ _ _ (by simp only; omega)]; exact hlo r hr
  change Own _ _ _ _ _ (trW V w.heap.size (.slice aa al ac) (.slice oa ol oz) (.slice xa xl xc) (.bool st))
  generalize trW V w.heap.size (.slice aa al ac) (.slice oa ol oz) (.slice xa xl xc) (.bool st) = V2 at hR1b hR2b hlo2 ⊢
  clear hR1 hR2 hlo
  (refine oW fun dd K hK => ?_; have hc0 := (hR2b.at dd).c0; have hc1 := (hR2b.at dd).c1; have hc2 := (hR2b.at dd).c2; have hc3 := (hR2b.at dd).c3; have hz0 := (hR2b.at dd).z; go_simp; refine hK _ _ ⟨⟨⟨0, grew4 (fun k => notF0 _) _ _ _ _⟩, fun e he => by (have hm := mem_listed he; clear he hK; simp [go_sem, storedEv, hc0, hc1, hc2, hc3, hz0] at hm; rcases hm with rfl | rfl | rfl | rfl <;> exact evT_write _ _ (notF0 _))⟩, ?_⟩; clear hK K hc0 hc1 hc2 hc3 hz0; simp only [setCell_at']; refine Own.at ?_ dd)
  have hR2c := hR2b.put (.slice ba bl bc) (.slice pa pl pz) (.slice ya yl yc) (.bool tt)
  have hR1c : TrAt (trW V2 (w.heap.size + 1) (.slice ba bl bc) (.slice pa pl pz) (.slice ya yl yc) (.bool tt)) w.heap.size (.slice aa al ac) (.slice oa ol oz) (.slice xa xl xc) (.bool st) := ⟨by unfold trW; rw [heap_setCell_ne _ _ _ (by simp), heap_setCell_ne _ _ _ (by simp), heap_setCell_ne _ _ _ (by simp), heap_setCell_ne _ _ _ (by simp)]; exact hR1b.o⟩
  have hlo3 : ∀ r, r < w.heap.size → (trW V2 (w.heap.size + 1) (.slice ba bl bc) (.slice pa pl pz) (.slice ya yl yc) (.bool tt)).heap[r]? = w.heap[r]? := fun r hr => by unfold trW; rw [heap_setCell_ne _ _ _ (by simp only; omega), heap_setCell_ne _ _ _ (by simp only; omega), heap_setCell_ne _ _ _ (by simp only; omega), heap_setCell_ne _ _ _ (by simp only; omega)]; exact hlo2 r hr
  change Own _ _ _ _ _ (trW V2 (w.heap.size + 1) (.slice ba bl bc) (.slice pa pl pz) (.slice ya yl yc) (.bool tt))
  generalize trW V2 (w.heap.size + 1) (.slice ba bl bc) (.slice pa pl pz) (.slice ya yl yc) (.bool tt) = V3 at hR2c hR1c hlo3 ⊢
  refine ogE ?_
  rw [kscs5_eq]
  refine ogS ?_
  rw [kscs6_eq]
  refine ogS ?_
  exact h _ _ ⟨rfl, rfl, rfl, trivial⟩ hR1c hR2c hlo3
structure ClAt (W : World) (T aa rb : Nat) (st : List Int) : Prop where
  t : ∃ v1 xa xc, W.heap[T]? = some (.cells #[.slice (some ⟨aa, 0, none⟩) 3 3, v1, .slice xa st.length xc, .bool false] 31 (0, 0)) ∧ RRow W xa (st.map fun v => .int .i64 v)
  a : ∃ rc, At W ⟨aa, 0, none⟩ (.slice (some ⟨rb, 0, none⟩) 1 rc)
  r : At W ⟨rb, 1, none⟩ (.int .i64 4)
theorem ClAt.heap {W W' : World} {T aa rb : Nat} {st : List Int} (h : ClAt W T aa rb st) (e : W'.heap = W.heap) : ClAt W' T aa rb st := by
  obtain ⟨v1, xa, xc, t1, t2⟩ := h.t
  obtain ⟨rc, a1, a2⟩ := h.a
  exact ⟨⟨v1, xa, xc, by rw [e]; exact t1, t2.heap e⟩, ⟨rc, by simpa only [World.cell?, e] using a1, by simpa only [World.frozen?, e] using a2⟩, ⟨by simpa only [World.cell?, e] using h.r.c, by simpa only [World.frozen?, e] using h.r.z⟩⟩
def scFns : List Nat := [32]
set_option maxRecDepth 100000 in
theorem sc_4 {T1 T2 a1 a2 r1 r2 : Nat} {s1 s2 : List Int} (h1 : ClAt w T1 a1 r1 s1) (h2 : ClAt w T2 a2 r2 s2) {A : Array Value} (hA : Slots 57 A [(1, .pointer (some ⟨T1, 0, none⟩)), (2, .pointer (some ⟨T2, 0, none⟩))]) :
    kscr4.wp Try.prog (nrm fun a u => a.defers = [] ∧ (Slots 57 a.tmps [(1, .pointer (some ⟨T1, 0, none⟩)), (2, .pointer (some ⟨T2, 0, none⟩)), (32, .bool false)] ∧ u.heap = w.heap)) ⟨A, []⟩ w := by
  obtain ⟨v1, xa, xc, t1, _⟩ := h1.t
  obtain ⟨rc1, b1⟩ := h1.a
  obtain ⟨v2, ya, yc, t2, _⟩ := h2.t
  obtain ⟨rc2, b2⟩ := h2.a
  obtain ⟨hsz, k1, k2, _⟩ := hA
  obtain ⟨s, rfl⟩ := kscT_of hsz
  change s 1 = _ at k1
  change s 2 = _ at k2
  clear hsz h1 h2
  have c1 : w.cell? ⟨T1, 0, none⟩ = some (.slice (some ⟨a1, 0, none⟩) 3 3) := by simp [World.cell?, t1]
  have c2 : w.cell? ⟨T2, 0, none⟩ = some (.slice (some ⟨a2, 0, none⟩) 3 3) := by simp [World.cell?, t2]
  have b1c := b1.c
  have b2c := b2.c
  clear t1 t2 b1 b2
  simp only [kscr4, kscBody, Code.piece, Try.f8, Option.getD_some, kscT, k1, k2]
  clear k1 k2
  go_wp2
  exact ⟨rfl, ⟨rfl, rfl, rfl, rfl, trivial⟩, rfl⟩
set_option maxRecDepth 100000 in
theorem sc_6 {T1 T2 a1 a2 r1 r2 : Nat} {s2 : List Int} (h1 : ClAt w T1 a1 r1 [0, 0, 1, 0, 9, 9]) (h2 : ClAt w T2 a2 r2 s2) {A : Array Value} (hA : Slots 57 A [(1, .pointer (some ⟨T1, 0, none⟩)), (2, .pointer (some ⟨T2, 0, none⟩)), (32, .bool false)]) :
    kscr6.wp Try.prog (nrm fun a u => a.defers = [] ∧ (a.tmps.size = 57 ∧ a.tmps.getD 0 undef = .bool true ∧ ∀ r, r < w.heap.size → u.heap[r]? = w.heap[r]?)) ⟨A, []⟩ w := by
  have B : Aside (ClAt w T1 a1 r1 [0, 0, 1, 0, 9, 9] ∧ ClAt w T2 a2 r2 s2) := ⟨h1, h2⟩
  obtain ⟨v1, xa, xc, t1, hX⟩ := h1.t
  obtain ⟨hsz, k1, k2, k3, _⟩ := hA
  obtain ⟨s, rfl⟩ := kscT_of hsz
  change s 1 = _ at k1
  change s 2 = _ at k2
  change s 32 = _ at k3
  clear hsz
  have c2 : w.cell? ⟨T1, 2, none⟩ = some (.slice xa 6 xc) := by simp [World.cell?, t1]
  have C : Aside (Calls Try.prog 32 #[.slice xa 6 xc, .slice (some ⟨w.heap.size, 0, none⟩) 6 6] (w.alloc (.cells #[.int .i64 0, .int .i64 0, .int .i64 1, .int .i64 0, .int .i64 9, .int .i64 9] 2)) fun x w' => x = .returned (.bool true) ∧ w'.heap = (w.alloc (.cells #[.int .i64 0, .int .i64 0, .int .i64 1, .int .i64 0, .int .i64 9, .int .i64 9] 2)).heap) :=
    same32 (xs := [0, 0, 1, 0, 9, 9]) (by decide) (hX.alloc _) (rrow_new w ([0, 0, 1, 0, 9, 9].map fun v => .int .i64 v) 2)
  clear h1 h2 hX t1
  simp only [kscr6, kscBody, Code.piece, Try.f8, Option.getD_some, kscT, k1, k2, k3]
  clear k1 k2 k3
  go_wp2_with (go_at_call 32; refine C.out.mono ?_; rintro e u1 ⟨rfl, hw1⟩; have W1 : Aside (∀ r, r < w.heap.size → u1.heap[r]? = w.heap[r]?) := (fun r hr => by rw [hw1]; exact heap_alloc_lt _ _ hr); clear hw1 c2; obtain ⟨y1, xa1, xc1, q1, _⟩ := B.out.1.t; obtain ⟨y2, xa2, xc2, q2, _⟩ := B.out.2.t; obtain ⟨rc1, b1⟩ := B.out.1.a; obtain ⟨rc2, b2⟩ := B.out.2.a; have d1 := B.out.1.r; have d2 := B.out.2.r; obtain ⟨_, _, _, w1⟩ := cell_block b1.c; obtain ⟨_, _, _, w2⟩ := cell_block b2.c; obtain ⟨_, _, _, w3⟩ := cell_block d1.c; obtain ⟨_, _, _, w4⟩ := cell_block d2.c; have e1 := W1.out _ (Array.getElem?_eq_some_iff.1 q1).1; have e2 := W1.out _ (Array.getElem?_eq_some_iff.1 q2).1; have e3 := W1.out _ (Array.getElem?_eq_some_iff.1 w1).1; have e4 := W1.out _ (Array.getElem?_eq_some_iff.1 w2).1; have e5 := W1.out _ (Array.getElem?_eq_some_iff.1 w3).1; have e6 := W1.out _ (Array.getElem?_eq_some_iff.1 w4).1; have g1 : u1.cell? ⟨T1, 0, none⟩ = some (.slice (some ⟨a1, 0, none⟩) 3 3) := (by simp [World.cell?, e1, q1]); have g2 : u1.cell? ⟨T2, 0, none⟩ = some (.slice (some ⟨a2, 0, none⟩) 3 3) := (by simp [World.cell?, e2, q2]); have g3 := (cell_heap (j := 0) e3).1.trans b1.c; have g4 := (cell_heap (j := 0) e4).1.trans b2.c; have g5 := (cell_heap (j := 1) e5).1.trans d1.c; have g6 := (cell_heap (j := 1) e6).1.trans d2.c; clear e1 e2 e3 e4 e5 e6 q1 q2 w1 w2 w3 w4 b1 b2 d1 d2)
  exact ⟨rfl, rfl, rfl, W1.out⟩
end Go.Proofs.Ytlcgkpapnpdfpaa
namespace Go.Proofs.Ytlcgkpapnpdfpaa
open Go Go.Conc Go.RowKit Go.Proofs
open Go.ChangeShapes Go.WideShapes Go.ChangeAt
variable {An : Anchor} {W w w' : World}
theorem closedSc : Closed Try.prog (fun f => scFns.contains f) true := closed_ofX (x := []) (fun f h => by cases h) (by kernel_rfl)
theorem PlayU.first {ans : Nat → List (Bool × Int)} {state : List Int} {order : List Nat} {aa : Nat} {ov sv : Value} (h : PlayU w 3 ans state order aa ov sv w') (h0 : ans 0 = [(true, 4)]) : ∃ rb rc, At w' ⟨aa, 0, none⟩ (.slice (some ⟨rb, 0, none⟩) 1 rc) ∧ At w' ⟨rb, 1, none⟩ (.int .i64 4) := by
  obtain ⟨c, a1, a2, a3⟩ := h.arr
  obtain ⟨v, v1, v2, v3⟩ := a3 0 (by decide)
  rw [h0] at v3
  obtain ⟨rb, rc, rfl, h1⟩ := row_get (k := 1) v3 rfl
  exact ⟨rb, rc, cell_of a1 v1, h1⟩
theorem At.keep {a : Addr} {v : Value} (h : At w a v) (e : w'.heap[a.block]? = w.heap[a.block]?) : At w' a v :=
  ⟨by rw [← h.c]; unfold World.cell?; simp only [e], by rw [← h.z]; unfold World.frozen?; simp only [e]⟩
theorem RRow.old {a : Option Addr} {xs : List Value} (h : RRow w a xs) (ho : ∀ (r : Nat) (c : Array Value) (e : TypeId) (z : Nat × Nat), w.heap[r]? = some (.cells c e z) → w'.heap[r]? = some (.cells c e z)) : RRow w' a xs :=
  ⟨fun k x hx => by
    obtain ⟨b, o, h1, h2⟩ := h.c k x hx
    obtain ⟨c, e, z, h3⟩ := cell_block h2
    have h4 := ho _ _ _ _ h3
    exact ⟨b, o, h1, by rw [← h2]; unfold World.cell?; simp only [h3, h4]⟩⟩
theorem At.old {a : Addr} {v : Value} (h : At w a v) (ho : ∀ (r : Nat) (c : Array Value) (e : TypeId) (z : Nat × Nat), w.heap[r]? = some (.cells c e z) → w'.heap[r]? = some (.cells c e z)) : At w' a v := by
  obtain ⟨c, e, z, h3⟩ := cell_block h.c
  exact h.keep ((ho _ _ _ _ h3).trans h3.symm)
theorem bes_sclassic : Bes An Try.prog (LawStop An (LawPost W)) (G (Frame.enter Try.prog 8 #[] .normal) []) W := by
  refine bes_own (F := F0) (Stop := fun a u => ∃ A d, A.size = 57 ∧ u = W.at d ∧ a = G (Frame.enter Try.prog 30 #[] .normal) [(Go.Conc.base 8).at ⟨A, []⟩ [.inRegion ksco1 [0, 1], .code kscc4, .code kscs4]])
    (sc_0 fun A hA => .stop fun d => ⟨A, d, hA, rfl, rfl⟩) fun a u ⟨A, d, hA, hu, ha⟩ => ?_
  subst ha
  refine bes_turns fun w1 hs hold => ?_
  have hold1 : ∀ (r : Nat) (c : Array Value) (e : TypeId) (z : Nat × Nat), W.heap[r]? = some (.cells c e z) → w1.heap[r]? = some (.cells c e z) := fun r c e z h => hold r c e z (by rw [hu]; exact h)
  refine bes_own (F := F0) (Stop := fun a u => ∃ A d, A.size = 57 ∧ u = w1.at d ∧ a = G (Frame.enter Try.prog 31 #[.bool false] .normal) [(Go.Conc.base 8).at ⟨A, []⟩ [.inRegion ksco3 [0, 1, 2, 3, 4, 5], .code kscs5]])
    (sc_1 hA fun A hA => .stop fun d => ⟨A, d, hA, rfl, rfl⟩) fun a u1 ⟨A, d, hA, hu1, ha⟩ => ?_
  subst ha
  refine bes_classic fun aa oa oc xa xc w2 hP => ?_
  have hold2 : ∀ (r : Nat) (c : Array Value) (e : TypeId) (z : Nat × Nat), W.heap[r]? = some (.cells c e z) → w2.heap[r]? = some (.cells c e z) := fun r c e z h => hP.old r c e z (by rw [hu1]; exact hold1 r c e z h)
  refine bes_own (F := F0) (Stop := fun a u => ∃ A d, Slots 57 A [(5, .agg #[.slice (some ⟨aa, 0, none⟩) 3 3, .slice oa (clE false).2.length oc, .slice xa (clSt false).length xc, .bool false])] ∧ u = w2.at d ∧ a = G (Frame.enter Try.prog 31 #[.bool true] .normal) [(Go.Conc.base 8).at ⟨A, []⟩ [.inRegion ksco3 [1, 2, 3, 4, 5], .code kscs5]])
    (sc_2 hA fun A hA => .stop fun d => ⟨A, d, hA, rfl, rfl⟩) fun a u2 ⟨A, d, hA, hu2, ha⟩ => ?_
  subst ha
  obtain ⟨rb, rc, f1, f2⟩ := hP.first (clE_ans false)
  have hX := rrow_of hP.st
  refine bes_classic fun ba pa pc ya yc w3 hP2 => ?_
  have hold23 : ∀ (r : Nat) (c : Array Value) (e : TypeId) (z : Nat × Nat), w2.heap[r]? = some (.cells c e z) → w3.heap[r]? = some (.cells c e z) := fun r c e z h => hP2.old r c e z (by rw [hu2]; exact h)
  obtain ⟨rb2, rc2, g1, g2⟩ := hP2.first (clE_ans true)
  have hY := rrow_of hP2.st
  have f1 := f1.old hold23
  have f2 := f2.old hold23
  have hX := hX.old hold23
  refine bes_own (F := F0) (Stop := LawStop An (LawPost W)) ?_ fun a u h => Bes.stop h
  refine sc_3 hA fun A V hA hT1 hT2 hl => ?_
  have ko : ∀ (r : Nat) (c : Array Value) (e : TypeId) (z : Nat × Nat), w3.heap[r]? = some (.cells c e z) → V.heap[r]? = some (.cells c e z) := fun r c e z h => (hl r (Array.getElem?_eq_some_iff.1 h).1).trans h
  have C1 : ClAt V w3.heap.size aa rb (clSt false) := ⟨⟨_, xa, xc, hT1.o, hX.old ko⟩, ⟨rc, f1.old ko⟩, f2.old ko⟩
  have C2 : ClAt V (w3.heap.size + 1) ba rb2 (clSt true) := ⟨⟨_, ya, yc, hT2.o, hY.old ko⟩, ⟨rc2, g1.old ko⟩, g2.old ko⟩
  refine own_piece closedSc prog_late (by kernel_rfl) (R := fun A u => Slots 57 A [(1, .pointer (some ⟨w3.heap.size, 0, none⟩)), (2, .pointer (some ⟨w3.heap.size + 1, 0, none⟩)), (32, .bool false)] ∧ u.heap = V.heap) (by decide) (fun τ e => sc_4 (w := retape V τ e) (C1.heap rfl) (C2.heap rfl) hA) fun A2 w4 τ e hR hg => ?_
  obtain ⟨hA2, hV4⟩ := hR
  obtain ⟨k1, k2, k3, k4, _⟩ := hA2
  rw [kscc32_eq]
  refine ogF ?_ k4
  simp only [Bool.false_eq_true, if_false]
  refine ogK ?_
  rw [kscs8_eq]
  refine ogS ?_
  have hV4 : w4.heap = V.heap := hV4
  refine own_piece closedSc prog_late (by kernel_rfl) (R := fun A u => A.size = 57 ∧ A.getD 0 undef = .bool true ∧ ∀ r, r < w4.heap.size → u.heap[r]? = w4.heap[r]?) (by decide) (fun τ e => sc_6 (w := retape w4 τ e) (C1.heap hV4) (C2.heap hV4) ⟨k1, k2, k3, k4, trivial⟩) fun A3 w5 τ e hR hg => ?_
  obtain ⟨r1, r2, r3⟩ := hR
  have r3 : ∀ r, r < w4.heap.size → w5.heap[r]? = w4.heap[r]? := r3
  refine ogX ?_
  refine .stop fun d => law_stop Try.func8 rfl (by decide) r2 fun r c e z h => ?_
  have h2 := ko r c e z (hold23 r c e z (hold2 r c e z h))
  show w5.heap[r]? = _
  rw [r3 r (by rw [hV4]; exact (Array.getElem?_eq_some_iff.1 h2).1), hV4]
  exact h2
set_option maxRecDepth 100000 in
theorem classic_lifted (os : Os) (started : os.Started) (H : Type) (enc : TypeId × Value → H) :
    ReturnsInLeavingWide {} Try.checked os 8 .any (Rows.stackClassicSpec.pre6 enc Try.prog Try.f8 Rows.stackClassicRow.domain false) (Rows.stackClassicSpec.post enc Try.prog Try.f8 false true false false) := by
  refine returnsInLeavingWide_of_change_sized (C := Try.checked) Try.own started Try.func8
    (ChangeSpec.witness6 (enc := enc) (C := Try.checked) false ⟨#[], #[], []⟩ 8 (by kernel_rfl) (by kernel_rfl) (by kernel_rfl) (by kernel_rfl)) ?_
  intro W base args ds gs before hval0 hW _ hsz0 _
  have hW' := hW
  obtain ⟨p, q, hA0, hV, rfl, _, _⟩ := hW
  have hA : DataW.TrodAll enc Try.prog W 0 (fun _ => true) true Try.f8.params.toList args.toList ds p := hA0
  rw [Try.params8] at hA
  obtain ⟨rfl, rfl, rfl⟩ := trodAll_none hA
  obtain ⟨rfl, rfl⟩ := trodVars_none hV
  clear hA0 hval0
  simp only [List.append_nil] at hW'
  obtain ⟨M, last, o, w', t', h1, h2, h3, h4⟩ := bes_good (An := ⟨W.heap.size, W⟩) (Post := fun v w' => LawPost W v w' ∧ (⟨W.heap.size, W⟩ : Anchor).Holds w') (W := W) (fr := Frame.enter Try.prog 8 #[] .normal) ⟨rfl, rfl, rfl, Nat.le_refl _, fun r o _ h _ => h⟩ (Bes.bind bes_sclassic fun g w h => Bes.stop ⟨h.1, fun d => by
    obtain ⟨v, e1, e2⟩ := h.2 d
    exact ⟨v, e1, fun hh => ⟨e2 hh, hh⟩⟩⟩)
  refine ⟨M, last, o, w', t', h1, h2, h3, h4.mono fun v hF => ?_⟩
  obtain ⟨⟨rfl, hk⟩, hh⟩ := hF
  have hbelow := below_of hh hk
  refine ⟨_, _, _, [], [], [], hW', ?_, ?_, rfl, hbelow.frame _, fun h => by cases h⟩
  · exact trodAll_mk1 (shut_bool Try.underlying4 true)
  · exact trodAll_mk0
theorem stackClassic_holds : Rows.StackClassicSaid :=
  OpenClaim.holds_of_wide_leaving 8 Try.f8 rfl rfl rfl rfl rfl rfl rfl ⟨rfl, rfl, rfl, rfl, rfl⟩ rfl rfl rfl rfl rfl (by kernel_rfl) Try.func8 (by kernel_rfl)
    (of_decide_eq_true (by kernel_rfl)) (by unfold Func.isWrapper; first | (rw [if_pos (by decide +kernel)]; kernel_rfl) | (rw [if_neg (by decide +kernel)]; exact ⟨rfl, rfl⟩))
    (fun os started H enc _ => classic_lifted os started H enc)
end Go.Proofs.Ytlcgkpapnpdfpaa
namespace Go.Proofs.Ytlcgkpapnpdfpaa
open Go Go.Conc Go.RowKit Go.Proofs
variable {F : Fz} {w : World}
@[go_sem] theorem eql74_none (w : World) : (binOp .eql 74 (.pointer none) (.pointer none)).run Try.prog w = .ok (.bool true) w := by kernel_rfl
@[go_sem] theorem eql74_noneE (w : World) (es : Array Event) : (binOp .eql 74 (.pointer none) (.pointer none)).events Try.prog w es = es := by kernel_rfl
set_option maxRecDepth 100000 in
theorem own_pop_nil {sv : Value} {c : Frame} {cs : List Frame} {main : Bool} {Stop : Goroutine → World → Prop} (h : Own Try.prog main F Stop (G (c.finish (.tuple #[.int .i64 0, .bool false])) cs) w) :
    Own Try.prog main F Stop (G (Frame.enter Try.prog 43 #[.pointer none, sv] .normal) (c :: cs)) w := by
  rw [enter_kpo]
  walk_nrm
  rw [kpos0_eq]
  refine ogS ?_
  rw [kpor0_eq]
  refine ogR ?_
  simp only [kpoo0, Code.opsOf, kpor0, Code.piece, kpoBody, Try.f43, Option.getD_some, List.size_toArray, List.length_cons, List.length_nil, Nat.reduceAdd, Nat.zero_add, List.range, List.range.loop]
  (refine oW fun dd K hK => ?_; go_simp; refine qT hK ?_; clear hK K)
  (refine oW fun dd K hK => ?_; go_simp; refine qT hK ?_; clear hK K)
  refine ogE ?_
  rw [kpos1_eq]
  refine ogS ?_
  rw [kpos2_eq]
  refine ogS ?_
  rw [kpor1_eq]
  refine ogR ?_
  simp only [kpoo1, Code.opsOf, kpor1, Code.piece, kpoBody, Try.f43, Option.getD_some, List.size_toArray, List.length_cons, List.length_nil, Nat.reduceAdd, Nat.zero_add, List.range, List.range.loop]
  (refine oW fun dd K hK => ?_; go_simp; refine qT hK ?_; clear hK K)
  (refine oW fun dd K hK => ?_; go_simp; refine qT hK ?_; clear hK K)
  refine ogE ?_
  rw [kpoc10_eq]
  refine ogT ?_
  simp only [if_true]
  rw [kpos3_eq]
  refine ogS ?_
  rw [kpor2_eq]
  refine ogR ?_
  simp only [kpoo2, Code.opsOf, kpor2, Code.piece, kpoBody, Try.f43, Option.getD_some, List.size_toArray, List.length_cons, List.length_nil, Nat.reduceAdd, Nat.zero_add, List.range, List.range.loop]
  (refine oW fun dd K hK => ?_; go_simp; refine qT hK ?_; clear hK K)
  (refine oW fun dd K hK => ?_; go_simp; refine qT hK ?_; clear hK K)
  refine ogE ?_
  refine ogX ?_
  refine own_go rfl (fun d => stepG_leave (fn := Try.f43) (v := .tuple #[.int .i64 0, .bool false]) rfl rfl Try.func43 (by simp [results, Try.f43]) (by simp [results, Try.f43, go_sem])) ?_
  exact h
set_option maxRecDepth 100000 in
theorem own_peek_nil {sv : Value} {c : Frame} {cs : List Frame} {main : Bool} {Stop : Goroutine → World → Prop} (h : Own Try.prog main F Stop (G (c.finish (.tuple #[.int .i64 0, .bool false])) cs) w) :
    Own Try.prog main F Stop (G (Frame.enter Try.prog 44 #[.pointer none, sv] .normal) (c :: cs)) w := by
  rw [enter_kpe]
  walk_nrm
  rw [kpes0_eq]
  refine ogS ?_
  rw [kper0_eq]
  refine ogR ?_
  simp only [kpeo0, Code.opsOf, kper0, Code.piece, kpeBody, Try.f44, Option.getD_some, List.size_toArray, List.length_cons, List.length_nil, Nat.reduceAdd, Nat.zero_add, List.range, List.range.loop]
  (refine oW fun dd K hK => ?_; go_simp; refine qT hK ?_; clear hK K)
  (refine oW fun dd K hK => ?_; go_simp; refine qT hK ?_; clear hK K)
  refine ogE ?_
  rw [kpes1_eq]
  refine ogS ?_
  rw [kpes2_eq]
  refine ogS ?_
  rw [kper1_eq]
  refine ogR ?_
  simp only [kpeo1, Code.opsOf, kper1, Code.piece, kpeBody, Try.f44, Option.getD_some, List.size_toArray, List.length_cons, List.length_nil, Nat.reduceAdd, Nat.zero_add, List.range, List.range.loop]
  (refine oW fun dd K hK => ?_; go_simp; refine qT hK ?_; clear hK K)
  (refine oW fun dd K hK => ?_; go_simp; refine qT hK ?_; clear hK K)
  refine ogE ?_
  rw [kpec10_eq]
  refine ogT ?_
  simp only [if_true]
  rw [kpes3_eq]
  refine ogS ?_
  rw [kper2_eq]
  refine ogR ?_
  simp only [kpeo2, Code.opsOf, kper2, Code.piece, kpeBody, Try.f44, Option.getD_some, List.size_toArray, List.length_cons, List.length_nil, Nat.reduceAdd, Nat.zero_add, List.range, List.range.loop]
  (refine oW fun dd K hK => ?_; go_simp; refine qT hK ?_; clear hK K)
  (refine oW fun dd K hK => ?_; go_simp; refine qT hK ?_; clear hK K)
  refine ogE ?_
  refine ogX ?_
  refine own_go rfl (fun d => stepG_leave (fn := Try.f44) (v := .tuple #[.int .i64 0, .bool false]) rfl rfl Try.func44 (by simp [results, Try.f44]) (by simp [results, Try.f44, go_sem])) ?_
  exact h
set_option maxRecDepth 100000 in
theorem own_push_nil {sv : Value} {x : Int} {c : Frame} {cs : List Frame} {main : Bool} {Stop : Goroutine → World → Prop} (h : Own Try.prog main F Stop (G (c.finish (.bool false)) cs) w) :
    Own Try.prog main F Stop (G (Frame.enter Try.prog 45 #[.pointer none, sv, .int .i64 x] .normal) (c :: cs)) w := by
  rw [enter_kpu]
  walk_nrm
  rw [kpus0_eq]
  refine ogS ?_
  rw [kpur0_eq]
  refine ogR ?_
  simp only [kpuo0, Code.opsOf, kpur0, Code.piece, kpuBody, Try.f45, Option.getD_some, List.size_toArray, List.length_cons, List.length_nil, Nat.reduceAdd, Nat.zero_add, List.range, List.range.loop]
  (refine oW fun dd K hK => ?_; go_simp; refine qT hK ?_; clear hK K)
  refine ogE ?_
  rw [kpus1_eq]
  refine ogS ?_
  rw [kpus2_eq]
  refine ogS ?_
  rw [kpur1_eq]
  refine ogR ?_
  simp only [kpuo1, Code.opsOf, kpur1, Code.piece, kpuBody, Try.f45, Option.getD_some, List.size_toArray, List.length_cons, List.length_nil, Nat.reduceAdd, Nat.zero_add, List.range, List.range.loop]
  (refine oW fun dd K hK => ?_; go_simp; refine qT hK ?_; clear hK K)
  (refine oW fun dd K hK => ?_; go_simp; refine qT hK ?_; clear hK K)
  refine ogE ?_
  rw [kpuc10_eq]
  refine ogT ?_
  simp only [if_true]
  rw [kpus3_eq]
  refine ogS ?_
  rw [kpur2_eq]
  refine ogR ?_
  simp only [kpuo2, Code.opsOf, kpur2, Code.piece, kpuBody, Try.f45, Option.getD_some, List.size_toArray, List.length_cons, List.length_nil, Nat.reduceAdd, Nat.zero_add, List.range, List.range.loop]
  (refine oW fun dd K hK => ?_; go_simp; refine qT hK ?_; clear hK K)
  refine ogE ?_
  refine ogX ?_
  refine own_go rfl (fun d => stepG_leave (fn := Try.f45) (v := .bool false) rfl rfl Try.func45 (by simp [results, Try.f45]) (by simp [results, Try.f45, go_sem])) ?_
  exact h
set_option maxRecDepth 100000 in
theorem own_empty_nil {sv : Value} {c : Frame} {cs : List Frame} {main : Bool} {Stop : Goroutine → World → Prop} (h : Own Try.prog main F Stop (G (c.finish (.bool true)) cs) w) :
    Own Try.prog main F Stop (G (Frame.enter Try.prog 46 #[.pointer none, sv] .normal) (c :: cs)) w := by
  rw [enter_kem]
  walk_nrm
  rw [kems0_eq]
  refine ogS ?_
  rw [kemr0_eq]
  refine ogR ?_
  simp only [kemo0, Code.opsOf, kemr0, Code.piece, kemBody, Try.f46, Option.getD_some, List.size_toArray, List.length_cons, List.length_nil, Nat.reduceAdd, Nat.zero_add, List.range, List.range.loop]
  (refine oW fun dd K hK => ?_; go_simp; refine qT hK ?_; clear hK K)
  refine ogE ?_
  rw [kems1_eq]
  refine ogS ?_
  rw [kems2_eq]
  refine ogS ?_
  rw [kemr1_eq]
  refine ogR ?_
  simp only [kemo1, Code.opsOf, kemr1, Code.piece, kemBody, Try.f46, Option.getD_some, List.size_toArray, List.length_cons, List.length_nil, Nat.reduceAdd, Nat.zero_add, List.range, List.range.loop]
  (refine oW fun dd K hK => ?_; go_simp; refine qT hK ?_; clear hK K)
  (refine oW fun dd K hK => ?_; go_simp; refine qT hK ?_; clear hK K)
  refine ogE ?_
  rw [kemc6_eq]
  refine ogT ?_
  simp only [if_true]
  rw [kems3_eq]
  refine ogS ?_
  rw [kemr2_eq]
  refine ogR ?_
  simp only [kemo2, Code.opsOf, kemr2, Code.piece, kemBody, Try.f46, Option.getD_some, List.size_toArray, List.length_cons, List.length_nil, Nat.reduceAdd, Nat.zero_add, List.range, List.range.loop]
  (refine oW fun dd K hK => ?_; go_simp; refine qT hK ?_; clear hK K)
  refine ogE ?_
  refine ogX ?_
  refine own_go rfl (fun d => stepG_leave (fn := Try.f46) (v := .bool true) rfl rfl Try.func46 (by simp [results, Try.f46]) (by simp [results, Try.f46, go_sem])) ?_
  exact h
set_option maxRecDepth 100000 in
theorem own_size_nil {c : Frame} {cs : List Frame} {main : Bool} {Stop : Goroutine → World → Prop} (h : Own Try.prog main F Stop (G (c.finish (.int .i64 0)) cs) w) :
    Own Try.prog main F Stop (G (Frame.enter Try.prog 40 #[.pointer none] .normal) (c :: cs)) w := by
  rw [enter_ksz]
  walk_nrm
  rw [kszs0_eq]
  refine ogS ?_
  rw [kszr0_eq]
  refine ogR ?_
  simp only [kszo0, Code.opsOf, kszr0, Code.piece, kszBody, Try.f40, Option.getD_some, List.size_toArray, List.length_cons, List.length_nil, Nat.reduceAdd, Nat.zero_add, List.range, List.range.loop]
  (refine oW fun dd K hK => ?_; go_simp; refine qT hK ?_; clear hK K)
  refine ogE ?_
  rw [kszs1_eq]
  refine ogS ?_
  rw [kszs2_eq]
  refine ogS ?_
  rw [kszr1_eq]
  refine ogR ?_
  simp only [kszo1, Code.opsOf, kszr1, Code.piece, kszBody, Try.f40, Option.getD_some, List.size_toArray, List.length_cons, List.length_nil, Nat.reduceAdd, Nat.zero_add, List.range, List.range.loop]
  (refine oW fun dd K hK => ?_; go_simp; refine qT hK ?_; clear hK K)
  (refine oW fun dd K hK => ?_; go_simp; refine qT hK ?_; clear hK K)
  refine ogE ?_
  rw [kszc4_eq]
  refine ogT ?_
  simp only [if_true]
  rw [kszs3_eq]
  refine ogS ?_
  rw [kszr2_eq]
  refine ogR ?_
  simp only [kszo2, Code.opsOf, kszr2, Code.piece, kszBody, Try.f40, Option.getD_some, List.size_toArray, List.length_cons, List.length_nil, Nat.reduceAdd, Nat.zero_add, List.range, List.range.loop]
  (refine oW fun dd K hK => ?_; go_simp; refine qT hK ?_; clear hK K)
  refine ogE ?_
  refine ogX ?_
  refine own_go rfl (fun d => stepG_leave (fn := Try.f40) (v := .int .i64 0) rfl rfl Try.func40 (by simp [results, Try.f40]) (by simp [results, Try.f40, go_sem])) ?_
  exact h
noncomputable def kvaBody : Code := Try.f39.body.getD .skip
noncomputable def kvas0 : Code := Code.piece [] kvaBody
noncomputable def kvar0 : Code := Code.piece [true] kvaBody
noncomputable def kvao0 : Array Oper := Code.opsOf kvar0
noncomputable def kvas1 : Code := Code.piece [false] kvaBody
noncomputable def kvas2 : Code := Code.piece [false, true] kvaBody
noncomputable def kvar1 : Code := Code.piece [false, true, true] kvaBody
noncomputable def kvao1 : Array Oper := Code.opsOf kvar1
noncomputable def kvac6 : Code := Code.piece [false, true, false] kvaBody
noncomputable def kvas3 : Code := Code.piece [false, true, false, true] kvaBody
noncomputable def kvar2 : Code := Code.piece [false, true, false, true, true] kvaBody
noncomputable def kvao2 : Array Oper := Code.opsOf kvar2
noncomputable def kvas4 : Code := Code.piece [false, false] kvaBody
noncomputable def kvar3 : Code := Code.piece [false, false, true] kvaBody
noncomputable def kvao3 : Array Oper := Code.opsOf kvar3
noncomputable def kvas5 : Code := Code.piece [false, false, false] kvaBody
noncomputable def kvas6 : Code := Code.piece [false, false, false, true] kvaBody
noncomputable def kvar4 : Code := Code.piece [false, false, false, true, true] kvaBody
noncomputable def kvao4 : Array Oper := Code.opsOf kvar4
noncomputable def kvab0 : Code := Code.piece [false, false, false, true, false] kvaBody
noncomputable def kval7 : Code := Code.piece [false, false, false, true, false, true] kvaBody
noncomputable def kvas8 : Code := Code.piece [false, false, false, true, false, true, true] kvaBody
noncomputable def kvas9 : Code := Code.piece [false, false, false, true, false, true, true, true] kvaBody
noncomputable def kvar5 : Code := Code.piece [false, false, false, true, false, true, true, true, true] kvaBody
noncomputable def kvao5 : Array Oper := Code.opsOf kvar5
noncomputable def kvac23 : Code := Code.piece [false, false, false, true, false, true, true, true, false] kvaBody
noncomputable def kvas10 : Code := Code.piece [false, false, false, true, false, true, true, false] kvaBody
noncomputable def kvab1 : Code := Code.piece [false, false, false, true, false, true, true, false, true] kvaBody
noncomputable def kvar7 : Code := Code.piece [false, false, false, true, false, true, true, false, true, true] kvaBody
noncomputable def kvao7 : Array Oper := Code.opsOf kvar7
noncomputable def kvar6 : Code := Code.piece [false, false, false, true, false, true, true, false, false] kvaBody
noncomputable def kvao6 : Array Oper := Code.opsOf kvar6
noncomputable def kvas11 : Code := Code.piece [false, false, false, false] kvaBody
noncomputable def kvar8 : Code := Code.piece [false, false, false, false, true] kvaBody
noncomputable def kvao8 : Array Oper := Code.opsOf kvar8
theorem kvas0_eq : kvas0 = .seq kvar0 kvas1 := by kernel_rfl
theorem kvar0_eq : kvar0 = .region 0 kvao0 false := by kernel_rfl
theorem kvas1_eq : kvas1 = .seq kvas2 kvas4 := by kernel_rfl
theorem kvas2_eq : kvas2 = .seq kvar1 kvac6 := by kernel_rfl
theorem kvar1_eq : kvar1 = .region 1 kvao1 false := by kernel_rfl
theorem kvac6_eq : kvac6 = .cond (.tmp 6) kvas3 .skip := by kernel_rfl
theorem kvas3_eq : kvas3 = .seq kvar2 .ret := by kernel_rfl
theorem kvar2_eq : kvar2 = .region 2 kvao2 false := by kernel_rfl
theorem kvas4_eq : kvas4 = .seq kvar3 kvas5 := by kernel_rfl
theorem kvar3_eq : kvar3 = .region 3 kvao3 false := by kernel_rfl
theorem kvas5_eq : kvas5 = .seq kvas6 kvas11 := by kernel_rfl
theorem kvas6_eq : kvas6 = .seq kvar4 kvab0 := by kernel_rfl
theorem kvar4_eq : kvar4 = .region 4 kvao4 false := by kernel_rfl
theorem kvab0_eq : kvab0 = .block 0 kval7 := by kernel_rfl
theorem kval7_eq : kval7 = .loop kvas8 := by kernel_rfl
theorem kvas8_eq : kvas8 = .seq kvas9 kvas10 := by kernel_rfl
theorem kvas9_eq : kvas9 = .seq kvar5 kvac23 := by kernel_rfl
theorem kvar5_eq : kvar5 = .region 5 kvao5 false := by kernel_rfl
theorem kvac23_eq : kvac23 = .cond (.tmp 23) .skip (.exit 0) := by kernel_rfl
theorem kvas10_eq : kvas10 = .seq kvab1 kvar6 := by kernel_rfl
theorem kvab1_eq : kvab1 = .block 1 kvar7 := by kernel_rfl
theorem kvar7_eq : kvar7 = .region 7 kvao7 false := by kernel_rfl
theorem kvar6_eq : kvar6 = .region 6 kvao6 false := by kernel_rfl
theorem kvas11_eq : kvas11 = .seq kvar8 .ret := by kernel_rfl
theorem kvar8_eq : kvar8 = .region 8 kvao8 false := by kernel_rfl
theorem enter_kva (args : Array Value) : Frame.enter Try.prog 39 args .normal = (Go.Conc.base 39).at { tmps := args ++ Array.replicate (44 - args.size) undef, defers := [] } [.code kvas0] := enter_at args Try.func39 rfl
theorem callable39 : Callable 39 := callable Try.func39 rfl rfl
theorem callable40' : Callable 40 := callable Try.func40 rfl rfl
set_option maxRecDepth 100000 in
theorem own_values_nil {c : Frame} {cs : List Frame} {main : Bool} {Stop : Goroutine → World → Prop} (h : Own Try.prog main F Stop (G (c.finish (.slice none 0 0)) cs) w) :
    Own Try.prog main F Stop (G (Frame.enter Try.prog 39 #[.pointer none] .normal) (c :: cs)) w := by
  rw [enter_kva]
  walk_nrm
  rw [kvas0_eq]
  refine ogS ?_
  rw [kvar0_eq]
  refine ogR ?_
  simp only [kvao0, Code.opsOf, kvar0, Code.piece, kvaBody, Try.f39, Option.getD_some, List.size_toArray, List.length_cons, List.length_nil, Nat.reduceAdd, Nat.zero_add, List.range, List.range.loop]
  (refine oW fun dd K hK => ?_; go_simp; refine qT hK ?_; clear hK K)
  refine ogE ?_
  rw [kvas1_eq]
  refine ogS ?_
  rw [kvas2_eq]
  refine ogS ?_
  rw [kvar1_eq]
  refine ogR ?_
  simp only [kvao1, Code.opsOf, kvar1, Code.piece, kvaBody, Try.f39, Option.getD_some, List.size_toArray, List.length_cons, List.length_nil, Nat.reduceAdd, Nat.zero_add, List.range, List.range.loop]
  (refine oW fun dd K hK => ?_; go_simp; refine qT hK ?_; clear hK K)
  (refine oW fun dd K hK => ?_; go_simp; refine qT hK ?_; clear hK K)
  refine ogE ?_
  rw [kvac6_eq]
  refine ogT ?_
  simp only [if_true]
  rw [kvas3_eq]
  refine ogS ?_
  rw [kvar2_eq]
  refine ogR ?_
  simp only [kvao2, Code.opsOf, kvar2, Code.piece, kvaBody, Try.f39, Option.getD_some, List.size_toArray, List.length_cons, List.length_nil, Nat.reduceAdd, Nat.zero_add, List.range, List.range.loop]
  (refine oW fun dd K hK => ?_; go_simp; refine qT hK ?_; clear hK K)
  refine ogE ?_
  refine ogX ?_
  refine own_go rfl (fun d => stepG_leave (fn := Try.f39) (v := .slice none 0 0) rfl rfl Try.func39 (by simp [results, Try.f39]) (by simp [results, Try.f39, go_sem])) ?_
  exact h
def KZ (kb : Nat) (w : World) : Prop := w.heap[kb]? = some (.cells #[.int .u64 0, .int .u64 0, .slice none 0 0, .bool false] 92 (0, 0))
theorem KZ.c {kb : Nat} (h : KZ kb w) : w.cell? ⟨kb, 0, none⟩ = some (.int .u64 (pk (-1, 0))) ∧ w.cell? ⟨kb, 1, none⟩ = some (.int .u64 (pk (-1, 0))) ∧ w.cell? ⟨kb, 2, none⟩ = some (.slice none 0 0) := by
  have h : w.heap[kb]? = _ := h
  refine ⟨?_, ?_, ?_⟩ <;> simp [World.cell?, h] <;> rfl
section
variable {sv : Value} {main : Bool} {sb m kb : Nat} {X : Nat → World → Prop}
theorem own_push_z {v : Int} (S : Stepr sv main sb X) (hZ : KZ kb w) (hX : X m w) (hm : m + 7 < 4611686018427387904) (hsb : sb ≠ kb) {c : Frame} {cs : List Frame} {Stop : Goroutine → World → Prop}
    (K : ∀ w', KZ kb w' → X (m + 1) w' → w'.heap.size = w.heap.size → (∀ r, r ≠ sb → w'.heap[r]? = w.heap[r]?) → Own Try.prog main F0 Stop (G (c.finish (.bool false)) cs) w') :
    Own Try.prog main F0 Stop (G (Frame.enter Try.prog 45 #[.pointer (some ⟨kb, 0, none⟩), sv, .int .i64 v] .normal) (c :: cs)) w := by
  refine pu_0 fun A1 hA1 => tk_0 fun A hA => S.tick _ _ _ _ _ hX (by omega) fun w1 hx hz ho => ?_
  have hZ1 : KZ kb w1 := (ho kb (Ne.symm hsb)).trans hZ
  refine tk_1a (hx := 1) (n := -1) (t := 0) (by omega) (by omega) (by omega) hZ1.c.2.1 hA ?_
  exact pu_1a (sv := sv) hA1 (K w1 hZ1 hx hz ho)
theorem own_pop_z (S : Stepr sv main sb X) (hZ : KZ kb w) (hX : X m w) (hm : m + 7 < 4611686018427387904) (hsb : sb ≠ kb) {c : Frame} {cs : List Frame} {Stop : Goroutine → World → Prop}
    (K : ∀ w', KZ kb w' → X (m + 1) w' → w'.heap.size = w.heap.size → (∀ r, r ≠ sb → w'.heap[r]? = w.heap[r]?) → Own Try.prog main F0 Stop (G (c.finish (.tuple #[.int .i64 0, .bool false])) cs) w') :
    Own Try.prog main F0 Stop (G (Frame.enter Try.prog 43 #[.pointer (some ⟨kb, 0, none⟩), sv] .normal) (c :: cs)) w := by
  refine po_0 fun A1 hA1 => tk_0 fun A hA => S.tick _ _ _ _ _ hX (by omega) fun w1 hx hz ho => ?_
  have hZ1 : KZ kb w1 := (ho kb (Ne.symm hsb)).trans hZ
  refine tk_1a (hx := 0) (n := -1) (t := 0) (by omega) (by omega) (by omega) hZ1.c.1 hA ?_
  exact po_1a (sv := sv) hA1 (K w1 hZ1 hx hz ho)
theorem own_peek_z (S : Stepr sv main sb X) (hZ : KZ kb w) (hX : X m w) (hm : m + 7 < 4611686018427387904) (hsb : sb ≠ kb) {c : Frame} {cs : List Frame} {Stop : Goroutine → World → Prop}
    (K : ∀ w', KZ kb w' → X (m + 1) w' → w'.heap.size = w.heap.size → (∀ r, r ≠ sb → w'.heap[r]? = w.heap[r]?) → Own Try.prog main F0 Stop (G (c.finish (.tuple #[.int .i64 0, .bool false])) cs) w') :
    Own Try.prog main F0 Stop (G (Frame.enter Try.prog 44 #[.pointer (some ⟨kb, 0, none⟩), sv] .normal) (c :: cs)) w := by
  refine pk_0 fun A hA => S.tick _ _ _ _ _ hX (by omega) fun w1 hx hz ho => ?_
  have hZ1 : KZ kb w1 := (ho kb (Ne.symm hsb)).trans hZ
  exact pk_1a (n := -1) (t := 0) (by omega) (by omega) (by omega) hZ1.c.1 hA (K w1 hZ1 hx hz ho)
theorem own_empty_z (S : Stepr sv main sb X) (hZ : KZ kb w) (hX : X m w) (hm : m + 7 < 4611686018427387904) (hsb : sb ≠ kb) {c : Frame} {cs : List Frame} {Stop : Goroutine → World → Prop}
    (K : ∀ w', KZ kb w' → X (m + 1) w' → w'.heap.size = w.heap.size → (∀ r, r ≠ sb → w'.heap[r]? = w.heap[r]?) → Own Try.prog main F0 Stop (G (c.finish (.bool true)) cs) w') :
    Own Try.prog main F0 Stop (G (Frame.enter Try.prog 46 #[.pointer (some ⟨kb, 0, none⟩), sv] .normal) (c :: cs)) w := by
  refine em_0 fun A hA => S.tick _ _ _ _ _ hX (by omega) fun w1 hx hz ho => ?_
  have hZ1 : KZ kb w1 := (ho kb (Ne.symm hsb)).trans hZ
  have := em_1 (n := -1) (t := 0) (by omega) (by omega) hZ1.c.1 hA (K w1 hZ1 hx hz ho)
  exact this
end
set_option maxRecDepth 100000 in
theorem own_size_z {kb : Nat} (hZ : KZ kb w) {c : Frame} {cs : List Frame} {main : Bool} {Stop : Goroutine → World → Prop} (h : Own Try.prog main F Stop (G (c.finish (.int .i64 0)) cs) w) :
    Own Try.prog main F Stop (G (Frame.enter Try.prog 40 #[.pointer (some ⟨kb, 0, none⟩)] .normal) (c :: cs)) w := by
  have c2 := hZ.c.2.2
  clear hZ
  rw [enter_ksz]
  walk_nrm
  rw [kszs0_eq]
  refine ogS ?_
  rw [kszr0_eq]
  refine ogR ?_
  simp only [kszo0, Code.opsOf, kszr0, Code.piece, kszBody, Try.f40, Option.getD_some, List.size_toArray, List.length_cons, List.length_nil, Nat.reduceAdd, Nat.zero_add, List.range, List.range.loop]
  (refine oW fun dd K hK => ?_; go_simp; refine qT hK ?_; clear hK K)
  refine ogE ?_
  rw [kszs1_eq]
  refine ogS ?_
  rw [kszs2_eq]
  refine ogS ?_
  rw [kszr1_eq]
  refine ogR ?_
  simp only [kszo1, Code.opsOf, kszr1, Code.piece, kszBody, Try.f40, Option.getD_some, List.size_toArray, List.length_cons, List.length_nil, Nat.reduceAdd, Nat.zero_add, List.range, List.range.loop]
  (refine oW fun dd K hK => ?_; go_simp; refine qT hK ?_; clear hK K)
  (refine oW fun dd K hK => ?_; go_simp; refine qT hK ?_; clear hK K)
  refine ogE ?_
  rw [kszc4_eq]
  refine ogF ?_
  simp only [Bool.false_eq_true, if_false]
  refine ogK ?_
  rw [kszs4_eq]
  refine ogS ?_
  rw [kszr3_eq]
  refine ogR ?_
  simp only [kszo3, Code.opsOf, kszr3, Code.piece, kszBody, Try.f40, Option.getD_some, List.size_toArray, List.length_cons, List.length_nil, Nat.reduceAdd, Nat.zero_add, List.range, List.range.loop]
  (refine oW fun dd K hK => ?_; go_simp; refine qT hK ?_; clear hK K)
  (refine oW fun dd K hK => ?_; go_simp; refine qT hK ?_; clear hK K)
  (refine oW fun dd K hK => ?_; go_simp; refine qT hK ?_; clear hK K)
  (refine oW fun dd K hK => ?_; go_simp; refine qL hK ?_; clear hK K)
  (refine oW fun dd K hK => ?_; go_simp; refine qT hK ?_; clear hK K)
  (refine oW fun dd K hK => ?_; go_simp; refine qT hK ?_; clear hK K)
  refine ogE ?_
  refine ogX ?_
  refine own_go rfl (fun d => stepG_leave (fn := Try.f40) (v := .int .i64 0) rfl rfl Try.func40 (by simp [results, Try.f40]) (by simp [results, Try.f40, go_sem])) ?_
  exact h
set_option maxRecDepth 100000 in
theorem own_values_z {kb : Nat} (hZ : KZ kb w) {c : Frame} {cs : List Frame} {main : Bool} {Stop : Goroutine → World → Prop} (h : Own Try.prog main F Stop (G (c.finish (.slice none 0 0)) cs) w) :
    Own Try.prog main F Stop (G (Frame.enter Try.prog 39 #[.pointer (some ⟨kb, 0, none⟩)] .normal) (c :: cs)) w := by
  have c0 := hZ.c.1
  clear hZ
  rw [enter_kva]
  walk_nrm
  rw [kvas0_eq]
  refine ogS ?_
  rw [kvar0_eq]
  refine ogR ?_
  simp only [kvao0, Code.opsOf, kvar0, Code.piece, kvaBody, Try.f39, Option.getD_some, List.size_toArray, List.length_cons, List.length_nil, Nat.reduceAdd, Nat.zero_add, List.range, List.range.loop]
  (refine oW fun dd K hK => ?_; go_simp; refine qT hK ?_; clear hK K)
  refine ogE ?_
  rw [kvas1_eq]
  refine ogS ?_
  rw [kvas2_eq]
  refine ogS ?_
  rw [kvar1_eq]
  refine ogR ?_
  simp only [kvao1, Code.opsOf, kvar1, Code.piece, kvaBody, Try.f39, Option.getD_some, List.size_toArray, List.length_cons, List.length_nil, Nat.reduceAdd, Nat.zero_add, List.range, List.range.loop]
  (refine oW fun dd K hK => ?_; go_simp; refine qT hK ?_; clear hK K)
  (refine oW fun dd K hK => ?_; go_simp; refine qT hK ?_; clear hK K)
  refine ogE ?_
  rw [kvac6_eq]
  refine ogF ?_
  simp only [Bool.false_eq_true, if_false]
  refine ogK ?_
  rw [kvas4_eq]
  refine ogS ?_
  rw [kvar3_eq]
  refine ogR ?_
  simp only [kvao3, Code.opsOf, kvar3, Code.piece, kvaBody, Try.f39, Option.getD_some, List.size_toArray, List.length_cons, List.length_nil, Nat.reduceAdd, Nat.zero_add, List.range, List.range.loop]
  (refine oW fun dd K hK => ?_; go_simp; refine qT hK ?_; clear hK K)
  refine ogE ?_
  rw [kvas5_eq]
  refine ogS ?_
  rw [kvas6_eq]
  refine ogS ?_
  rw [kvar4_eq]
  refine ogR ?_
  simp only [kvao4, Code.opsOf, kvar4, Code.piece, kvaBody, Try.f39, Option.getD_some, List.size_toArray, List.length_cons, List.length_nil, Nat.reduceAdd, Nat.zero_add, List.range, List.range.loop]
  (refine oW fun dd K hK => ?_; go_simp; refine qT hK ?_; clear hK K)
  (refine oW fun dd K hK => ?_; go_simp; refine qT hK ?_; clear hK K)
  (refine oW fun dd K hK => ?_; go_simp; refine qT hK ?_; clear hK K)
  refine oc callable76 #[.pointer (some ⟨kb, 0, none⟩)] ?_
  refine own_ldU c0 rfl ?_
  rw [Frame.finish_at]
  walk_nrm
  refine oc callable77 #[.int .u64 (pk (-1, 0))] ?_
  refine own_of (n := -1) (t := 0) (by omega) (by omega) ?_
  rw [Frame.finish_at]
  walk_nrm
  (refine oW fun dd K hK => ?_; go_simp; refine qT hK ?_; clear hK K)
  refine ogE ?_
  rw [kvab0_eq]
  refine ogB ?_
  rw [kval7_eq]
  refine ogP ?_
  rw [kvas8_eq]
  refine ogS ?_
  rw [kvas9_eq]
  refine ogS ?_
  rw [kvar5_eq]
  refine ogR ?_
  simp only [kvao5, Code.opsOf, kvar5, Code.piece, kvaBody, Try.f39, Option.getD_some, List.size_toArray, List.length_cons, List.length_nil, Nat.reduceAdd, Nat.zero_add, List.range, List.range.loop]
  (refine oW fun dd K hK => ?_; go_simp; refine qT hK ?_; clear hK K)
  (refine oW fun dd K hK => ?_; go_simp; refine qT hK ?_; clear hK K)
  (refine oW fun dd K hK => ?_; go_simp; refine qT hK ?_; clear hK K)
  refine ogU rfl rfl ?_
  walk_nrm
  refine ogU rfl rfl ?_
  walk_nrm
  refine ogU rfl rfl ?_
  walk_nrm
  refine ogU rfl rfl ?_
  walk_nrm
  refine ogU rfl rfl ?_
  walk_nrm
  refine ogU rfl rfl ?_
  walk_nrm
  refine ogU rfl rfl ?_
  walk_nrm
  refine ogU rfl rfl ?_
  walk_nrm
  (refine oW fun dd K hK => ?_; go_simp; refine qT hK ?_; clear hK K)
  refine ogE ?_
  rw [kvac23_eq]
  refine ogF ?_
  simp only [Bool.false_eq_true, if_false]
  refine own_go rfl (fun d => stepG_exit rfl) ?_
  rw [kvas11_eq]
  refine ogS ?_
  rw [kvar8_eq]
  refine ogR ?_
  simp only [kvao8, Code.opsOf, kvar8, Code.piece, kvaBody, Try.f39, Option.getD_some, List.size_toArray, List.length_cons, List.length_nil, Nat.reduceAdd, Nat.zero_add, List.range, List.range.loop]
  (refine oW fun dd K hK => ?_; go_simp; refine qT hK ?_; clear hK K)
  (refine oW fun dd K hK => ?_; go_simp; refine qT hK ?_; clear hK K)
  refine ogE ?_
  refine ogX ?_
  refine own_go rfl (fun d => stepG_leave (fn := Try.f39) (v := .slice none 0 0) rfl rfl Try.func39 (by simp [results, Try.f39]) (by simp [results, Try.f39, go_sem])) ?_
  exact h
end Go.Proofs.Ytlcgkpapnpdfpaa
namespace Go.Proofs.Ytlcgkpapnpdfpaa
open Go Go.Conc Go.RowKit Go.Proofs
variable {w : World}
theorem b92z : Try.prog.built 92 [] = some #[.int .u64 0, .int .u64 0, .slice none 0 0, .bool false] := by kernel_rfl
theorem b78z : Try.prog.built 78 [] = some #[.int .i64 0] := by kernel_rfl
@[go_sem] theorem run_b92z (w : World) : (Instr.build 92 #[]).run Try.prog w = .ok (.agg #[.int .u64 0, .int .u64 0, .slice none 0 0, .bool false]) w := run_build w _ _ _ b92z
@[go_sem] theorem ev_b92z (w : World) (es : Array Event) : (Instr.build 92 #[]).events Try.prog w es = es := ev_build w es _ _ _ _ Try.underlying92 b92z
@[go_sem] theorem run_b78z (w : World) : (Instr.build 78 #[]).run Try.prog w = .ok (.agg #[.int .i64 0]) w := run_build w _ _ _ b78z
@[go_sem] theorem ev_b78z (w : World) (es : Array Event) : (Instr.build 78 #[]).events Try.prog w es = es := ev_build w es _ _ _ _ Try.underlying78 b78z
theorem callable30' : Callable 30 := callable Try.func30 rfl rfl
noncomputable def ksnBody : Code := Try.f12.body.getD .skip
noncomputable def ksns0 : Code := Code.piece [] ksnBody
noncomputable def ksnr0 : Code := Code.piece [true] ksnBody
noncomputable def ksno0 : Array Oper := Code.opsOf ksnr0
noncomputable def ksns1 : Code := Code.piece [false] ksnBody
noncomputable def ksns2 : Code := Code.piece [false, true] ksnBody
noncomputable def ksnr1 : Code := Code.piece [false, true, true] ksnBody
noncomputable def ksno1 : Array Oper := Code.opsOf ksnr1
noncomputable def ksnc13 : Code := Code.piece [false, true, false] ksnBody
noncomputable def ksns3 : Code := Code.piece [false, true, false, true] ksnBody
noncomputable def ksnr2 : Code := Code.piece [false, true, false, true, true] ksnBody
noncomputable def ksno2 : Array Oper := Code.opsOf ksnr2
noncomputable def ksns4 : Code := Code.piece [false, false] ksnBody
noncomputable def ksnr3 : Code := Code.piece [false, false, true] ksnBody
noncomputable def ksno3 : Array Oper := Code.opsOf ksnr3
noncomputable def ksns5 : Code := Code.piece [false, false, false] ksnBody
noncomputable def ksnr4 : Code := Code.piece [false, false, false, true] ksnBody
noncomputable def ksno4 : Array Oper := Code.opsOf ksnr4
noncomputable def ksns6 : Code := Code.piece [false, false, false, false] ksnBody
noncomputable def ksnr5 : Code := Code.piece [false, false, false, false, true] ksnBody
noncomputable def ksno5 : Array Oper := Code.opsOf ksnr5
noncomputable def ksns7 : Code := Code.piece [false, false, false, false, false] ksnBody
noncomputable def ksnr6 : Code := Code.piece [false, false, false, false, false, true] ksnBody
noncomputable def ksno6 : Array Oper := Code.opsOf ksnr6
noncomputable def ksns8 : Code := Code.piece [false, false, false, false, false, false] ksnBody
noncomputable def ksns9 : Code := Code.piece [false, false, false, false, false, false, true] ksnBody
noncomputable def ksnr7 : Code := Code.piece [false, false, false, false, false, false, true, true] ksnBody
noncomputable def ksno7 : Array Oper := Code.opsOf ksnr7
noncomputable def ksnc75 : Code := Code.piece [false, false, false, false, false, false, true, false] ksnBody
noncomputable def ksns10 : Code := Code.piece [false, false, false, false, false, false, true, false, true] ksnBody
noncomputable def ksnr8 : Code := Code.piece [false, false, false, false, false, false, true, false, true, true] ksnBody
noncomputable def ksno8 : Array Oper := Code.opsOf ksnr8
noncomputable def ksns11 : Code := Code.piece [false, false, false, false, false, false, false] ksnBody
noncomputable def ksnr9 : Code := Code.piece [false, false, false, false, false, false, false, true] ksnBody
noncomputable def ksno9 : Array Oper := Code.opsOf ksnr9
noncomputable def ksns12 : Code := Code.piece [false, false, false, false, false, false, false, false] ksnBody
noncomputable def ksnr10 : Code := Code.piece [false, false, false, false, false, false, false, false, true] ksnBody
noncomputable def ksno10 : Array Oper := Code.opsOf ksnr10
noncomputable def ksns13 : Code := Code.piece [false, false, false, false, false, false, false, false, false] ksnBody
noncomputable def ksns14 : Code := Code.piece [false, false, false, false, false, false, false, false, false, true] ksnBody
noncomputable def ksnr11 : Code := Code.piece [false, false, false, false, false, false, false, false, false, true, true] ksnBody
noncomputable def ksno11 : Array Oper := Code.opsOf ksnr11
noncomputable def ksnc133 : Code := Code.piece [false, false, false, false, false, false, false, false, false, true, false] ksnBody
noncomputable def ksns15 : Code := Code.piece [false, false, false, false, false, false, false, false, false, true, false, true] ksnBody
noncomputable def ksnr12 : Code := Code.piece [false, false, false, false, false, false, false, false, false, true, false, true, true] ksnBody
noncomputable def ksno12 : Array Oper := Code.opsOf ksnr12
noncomputable def ksns16 : Code := Code.piece [false, false, false, false, false, false, false, false, false, false] ksnBody
noncomputable def ksnr13 : Code := Code.piece [false, false, false, false, false, false, false, false, false, false, true] ksnBody
noncomputable def ksno13 : Array Oper := Code.opsOf ksnr13
theorem ksns0_eq : ksns0 = .seq ksnr0 ksns1 := by kernel_rfl
theorem ksnr0_eq : ksnr0 = .region 0 ksno0 false := by kernel_rfl
theorem ksns1_eq : ksns1 = .seq ksns2 ksns4 := by kernel_rfl
theorem ksns2_eq : ksns2 = .seq ksnr1 ksnc13 := by kernel_rfl
theorem ksnr1_eq : ksnr1 = .region 1 ksno1 false := by kernel_rfl
theorem ksnc13_eq : ksnc13 = .cond (.tmp 13) ksns3 .skip := by kernel_rfl
theorem ksns3_eq : ksns3 = .seq ksnr2 .ret := by kernel_rfl
theorem ksnr2_eq : ksnr2 = .region 2 ksno2 false := by kernel_rfl
theorem ksns4_eq : ksns4 = .seq ksnr3 ksns5 := by kernel_rfl
theorem ksnr3_eq : ksnr3 = .region 3 ksno3 false := by kernel_rfl
theorem ksns5_eq : ksns5 = .seq ksnr4 ksns6 := by kernel_rfl
theorem ksnr4_eq : ksnr4 = .region 4 ksno4 false := by kernel_rfl
theorem ksns6_eq : ksns6 = .seq ksnr5 ksns7 := by kernel_rfl
theorem ksnr5_eq : ksnr5 = .region 5 ksno5 false := by kernel_rfl
theorem ksns7_eq : ksns7 = .seq ksnr6 ksns8 := by kernel_rfl
theorem ksnr6_eq : ksnr6 = .region 6 ksno6 false := by kernel_rfl
theorem ksns8_eq : ksns8 = .seq ksns9 ksns11 := by kernel_rfl
theorem ksns9_eq : ksns9 = .seq ksnr7 ksnc75 := by kernel_rfl
theorem ksnr7_eq : ksnr7 = .region 7 ksno7 false := by kernel_rfl
theorem ksnc75_eq : ksnc75 = .cond (.tmp 75) ksns10 .skip := by kernel_rfl
theorem ksns10_eq : ksns10 = .seq ksnr8 .ret := by kernel_rfl
theorem ksnr8_eq : ksnr8 = .region 8 ksno8 false := by kernel_rfl
theorem ksns11_eq : ksns11 = .seq ksnr9 ksns12 := by kernel_rfl
theorem ksnr9_eq : ksnr9 = .region 9 ksno9 false := by kernel_rfl
theorem ksns12_eq : ksns12 = .seq ksnr10 ksns13 := by kernel_rfl
theorem ksnr10_eq : ksnr10 = .region 10 ksno10 false := by kernel_rfl
theorem ksns13_eq : ksns13 = .seq ksns14 ksns16 := by kernel_rfl
theorem ksns14_eq : ksns14 = .seq ksnr11 ksnc133 := by kernel_rfl
theorem ksnr11_eq : ksnr11 = .region 11 ksno11 false := by kernel_rfl
theorem ksnc133_eq : ksnc133 = .cond (.tmp 133) ksns15 .skip := by kernel_rfl
theorem ksns15_eq : ksns15 = .seq ksnr12 .ret := by kernel_rfl
theorem ksnr12_eq : ksnr12 = .region 12 ksno12 false := by kernel_rfl
theorem ksns16_eq : ksns16 = .seq ksnr13 .ret := by kernel_rfl
theorem ksnr13_eq : ksnr13 = .region 13 ksno13 false := by kernel_rfl
theorem enter_ksn (args : Array Value) : Frame.enter Try.prog 12 args .normal = (Go.Conc.base 12).at { tmps := args ++ Array.replicate (141 - args.size) undef, defers := [] } [.code ksns0] := enter_at args Try.func12 rfl
theorem callable12 : Callable 12 := callable Try.func12 rfl rfl
def ksnT (s : Nat → Value) : Array Value := #[s 0, s 1, s 2, s 3, s 4, s 5, s 6, s 7, s 8, s 9, s 10, s 11, s 12, s 13, s 14, s 15, s 16, s 17, s 18, s 19, s 20, s 21, s 22, s 23, s 24, s 25, s 26, s 27, s 28, s 29, s 30, s 31, s 32, s 33, s 34, s 35, s 36, s 37, s 38, s 39, s 40, s 41, s 42, s 43, s 44, s 45, s 46, s 47, s 48, s 49, s 50, s 51, s 52, s 53, s 54, s 55, s 56, s 57, s 58, s 59, s 60, s 61, s 62, s 63, s 64, s 65, s 66, s 67, s 68, s 69, s 70, s 71, s 72, s 73, s 74, s 75, s 76, s 77, s 78, s 79, s 80, s 81, s 82, s 83, s 84, s 85, s 86, s 87, s 88, s 89, s 90, s 91, s 92, s 93, s 94, s 95, s 96, s 97, s 98, s 99, s 100, s 101, s 102, s 103, s 104, s 105, s 106, s 107, s 108, s 109, s 110, s 111, s 112, s 113, s 114, s 115, s 116, s 117, s 118, s 119, s 120, s 121, s 122, s 123, s 124, s 125, s 126, s 127, s 128, s 129, s 130, s 131, s 132, s 133, s 134, s 135, s 136, s 137, s 138, s 139, s 140]
theorem ksnT_of {A : Array Value} (h : A.size = 141) : ∃ s, A = ksnT s := by
  obtain ⟨s, hs, _⟩ := arr_lit A h
  exact ⟨s, hs⟩
set_option maxRecDepth 100000 in
set_option maxHeartbeats 2000000 in
theorem sn_0 {a size : Int} {cs : List Frame} {main : Bool} {Stop : Goroutine → World → Prop}
    (h : ∀ A, Slots 141 A [(0, .int .i64 a), (1, .int .i64 size)] → Own Try.prog main F0 Stop (G (Frame.enter Try.prog 30 #[] .normal) (((Go.Conc.base 12).at ⟨A, []⟩ [.inRegion ksno1 [0, 1], .code ksnc13, .code ksns4]) :: cs)) w) :
    Own Try.prog main F0 Stop (G (Frame.enter Try.prog 12 #[.int .i64 a, .int .i64 size] .normal) cs) w := by
  rw [enter_ksn]
  walk_nrm
  rw [ksns0_eq]
  refine ogS ?_
  rw [ksnr0_eq]
  refine ogR ?_
  simp only [ksno0, Code.opsOf, ksnr0, Code.piece, ksnBody, Try.f12, Option.getD_some, List.size_toArray, List.length_cons, List.length_nil, Nat.reduceAdd, Nat.zero_add, List.range, List.range.loop]
  (refine oW fun dd K hK => ?_; go_simp; refine qT hK ?_; clear hK K)
  refine ogE ?_
  rw [ksns1_eq]
  refine ogS ?_
  rw [ksns2_eq]
  refine ogS ?_
  rw [ksnr1_eq]
  refine ogR ?_
  simp only [ksno1, Code.opsOf, ksnr1, Code.piece, ksnBody, Try.f12, Option.getD_some, List.size_toArray, List.length_cons, List.length_nil, Nat.reduceAdd, Nat.zero_add, List.range, List.range.loop]
  refine oc callable30 #[] ?_
  refine h _ ?_
  exact ⟨rfl, rfl, rfl, trivial⟩
set_option maxRecDepth 100000 in
set_option maxHeartbeats 2000000 in
theorem sn_1 {a size : Int} {n : Nat} (hn : min (max size 1) 65536 = (n : Int)) {mx : Int} (hs1 : (if size < 1 then 1 else size) = mx) (hs2 : (if 65536 < mx then 65536 else mx) = (n : Int)) {A : Array Value} (hA : Slots 141 A [(0, .int .i64 a), (1, .int .i64 size)]) {cs : List Frame} {main : Bool} {Stop : Goroutine → World → Prop}
    (h : ∀ A w', A.getD 4 undef = .bool true → (∀ r, r < w.heap.size → w'.heap[r]? = w.heap[r]?) → Own Try.prog main F0 Stop (G { (Go.Conc.base 12).at ⟨A, []⟩ [.code .ret] with mode := .returning } cs) w') :
    Own Try.prog main F0 Stop (G (((Go.Conc.base 12).at ⟨A, []⟩ [.inRegion ksno1 [0, 1], .code ksnc13, .code ksns4]).finish (.bool true)) cs) w := by
  obtain ⟨hsz, h0, h1, _⟩ := hA
  obtain ⟨s, rfl⟩ := ksnT_of hsz
  change s 0 = _ at h0
  change s 1 = _ at h1
  clear hsz
  simp only [ksnT, h0, h1]
  clear h0 h1
  rw [Frame.finish_at]
  simp only [ksno1, Code.opsOf, ksnr1, Code.piece, ksnBody, Try.f12, Option.getD_some, List.size_toArray, List.length_cons, List.length_nil, Nat.reduceAdd, Nat.zero_add, List.range, List.range.loop]
  walk_nrm
  (refine oW fun dd K hK => ?_; go_simp; refine qT hK ?_; clear hK K)
  refine ogE ?_
  rw [ksnc13_eq]
  refine ogF ?_
  simp only [Bool.false_eq_true, if_false]
  refine ogK ?_
  rw [ksns4_eq]
  refine ogS ?_
  rw [ksnr3_eq]
  refine ogR ?_
  simp only [ksno3, Code.opsOf, ksnr3, Code.piece, ksnBody, Try.f12, Option.getD_some, List.size_toArray, List.length_cons, List.length_nil, Nat.reduceAdd, Nat.zero_add, List.range, List.range.loop]
  (refine oW fun dd K hK => ?_; go_simp; refine qT hK ?_; clear hK K)
  refine ogE ?_
  rw [ksns5_eq]
  refine ogS ?_
  rw [ksnr4_eq]
  refine ogR ?_
  simp only [ksno4, Code.opsOf, ksnr4, Code.piece, ksnBody, Try.f12, Option.getD_some, List.size_toArray, List.length_cons, List.length_nil, Nat.reduceAdd, Nat.zero_add, List.range, List.range.loop]
  have hU : Under F0 0 := under_F0
  (refine oW fun dd K hK => ?_; go_simp; refine qT hK ?_; clear hK K)
  (refine oW fun dd K hK => ?_; go_simp; refine qA hK hU ?_; clear hK K)
  (refine oW fun dd K hK => ?_; go_simp; refine qT hK ?_; clear hK K)
  (refine oW fun dd K hK => ?_; go_simp; refine qA hK hU ?_; clear hK K)
  (refine oW fun dd K hK => ?_; go_simp; refine qT hK ?_; clear hK K)
  (refine oW fun dd K hK => ?_; go_simp; refine qT hK ?_; clear hK K)
  have z0 : KZ w.heap.size ((w.alloc (.cells #[.int .u64 0, .int .u64 0, .slice none 0 0, .bool false] 92)).alloc (.cells #[.int .i64 0] 78)) := (heap_alloc_lt _ _ (by simp)).trans (heap_alloc_new _ _)
  have x0 : CntAt (w.heap.size + 1) 0 ((w.alloc (.cells #[.int .u64 0, .int .u64 0, .slice none 0 0, .bool false] 92)).alloc (.cells #[.int .i64 0] 78)) := new2 w _ _ 78
  have q0 : ((w.alloc (.cells #[.int .u64 0, .int .u64 0, .slice none 0 0, .bool false] 92)).alloc (.cells #[.int .i64 0] 78)).heap.size = w.heap.size + 2 := by simp
  have l0 : ∀ r, r < w.heap.size → ((w.alloc (.cells #[.int .u64 0, .int .u64 0, .slice none 0 0, .bool false] 92)).alloc (.cells #[.int .i64 0] 78)).heap[r]? = w.heap[r]? := fun r hr => old2 _ _ _ hr
  generalize ((w.alloc (.cells #[.int .u64 0, .int .u64 0, .slice none 0 0, .bool false] 92)).alloc (.cells #[.int .i64 0] 78)) = w0 at z0 x0 q0 l0 ⊢
  have hsb : w.heap.size + 1 ≠ w.heap.size := by omega
  have hsl : w.heap.size ≤ w.heap.size + 1 := by omega
  have hkl : w.heap.size ≤ w.heap.size := by omega
  generalize w.heap.size + 1 = sb at x0 hsb hsl ⊢
  generalize hkb : w.heap.size = kb at z0 hsb hsl hkl q0 l0 ⊢
  refine ogE ?_
  rw [ksns6_eq]
  refine ogS ?_
  rw [ksnr5_eq]
  refine ogR ?_
  simp only [ksno5, Code.opsOf, ksnr5, Code.piece, ksnBody, Try.f12, Option.getD_some, List.size_toArray, List.length_cons, List.length_nil, Nat.reduceAdd, Nat.zero_add, List.range, List.range.loop]
  (refine oW fun dd K hK => ?_; go_simp; refine qT hK ?_; clear hK K)
  (refine oW fun dd K hK => ?_; go_simp; refine qT hK ?_; clear hK K)
  (refine oW fun dd K hK => ?_; go_simp; refine qT hK ?_; clear hK K)
  refine oc callable43 #[.pointer none, .iface 76 (.pointer (some ⟨sb, 0, none⟩))] ?_
  refine own_pop_nil ?_
  rw [Frame.finish_at]
  walk_nrm
  (refine oW fun dd K hK => ?_; go_simp; refine qT hK ?_; clear hK K)
  (refine oW fun dd K hK => ?_; go_simp; refine qT hK ?_; clear hK K)
  (refine oW fun dd K hK => ?_; go_simp; refine qT hK ?_; clear hK K)
  (refine oW fun dd K hK => ?_; go_simp; refine qT hK ?_; clear hK K)
  (refine oW fun dd K hK => ?_; go_simp; refine qT hK ?_; clear hK K)
  refine ogE ?_
  rw [ksns7_eq]
  refine ogS ?_
  rw [ksnr6_eq]
  refine ogR ?_
  simp only [ksno6, Code.opsOf, ksnr6, Code.piece, ksnBody, Try.f12, Option.getD_some, List.size_toArray, List.length_cons, List.length_nil, Nat.reduceAdd, Nat.zero_add, List.range, List.range.loop]
  (refine oW fun dd K hK => ?_; go_simp; refine qT hK ?_; clear hK K)
  (refine oW fun dd K hK => ?_; go_simp; refine qT hK ?_; clear hK K)
  (refine oW fun dd K hK => ?_; go_simp; refine qT hK ?_; clear hK K)
  refine oc callable44 #[.pointer none, .iface 76 (.pointer (some ⟨sb, 0, none⟩))] ?_
  refine own_peek_nil ?_
  rw [Frame.finish_at]
  walk_nrm
  (refine oW fun dd K hK => ?_; go_simp; refine qT hK ?_; clear hK K)
  (refine oW fun dd K hK => ?_; go_simp; refine qT hK ?_; clear hK K)
  (refine oW fun dd K hK => ?_; go_simp; refine qT hK ?_; clear hK K)
  (refine oW fun dd K hK => ?_; go_simp; refine qT hK ?_; clear hK K)
  (refine oW fun dd K hK => ?_; go_simp; refine qT hK ?_; clear hK K)
  refine ogE ?_
  rw [ksns8_eq]
  refine ogS ?_
  rw [ksns9_eq]
  refine ogS ?_
  rw [ksnr7_eq]
  refine ogR ?_
  simp only [ksno7, Code.opsOf, ksnr7, Code.piece, ksnBody, Try.f12, Option.getD_some, List.size_toArray, List.length_cons, List.length_nil, Nat.reduceAdd, Nat.zero_add, List.range, List.range.loop]
  (refine oW fun dd K hK => ?_; go_simp; refine qT hK ?_; clear hK K)
  (refine oW fun dd K hK => ?_; go_simp; refine qT hK ?_; clear hK K)
  (refine oW fun dd K hK => ?_; go_simp; refine qT hK ?_; clear hK K)
  (refine oW fun dd K hK => ?_; go_simp; refine qT hK ?_; clear hK K)
  refine oc callable45 #[.pointer none, .iface 76 (.pointer (some ⟨sb, 0, none⟩)), .int .i64 a] ?_
  refine own_push_nil ?_
  rw [Frame.finish_at]
  walk_nrm
  (refine oW fun dd K hK => ?_; go_simp; refine qT hK ?_; clear hK K)
  (refine oW fun dd K hK => ?_; go_simp; refine qT hK ?_; clear hK K)
  (refine oW fun dd K hK => ?_; go_simp; refine qT hK ?_; clear hK K)
  (refine oW fun dd K hK => ?_; go_simp; refine qT hK ?_; clear hK K)
  (refine oW fun dd K hK => ?_; go_simp; refine qT hK ?_; clear hK K)
  (refine oW fun dd K hK => ?_; go_simp; refine qT hK ?_; clear hK K)
  (refine oW fun dd K hK => ?_; go_simp; refine qT hK ?_; clear hK K)
  (refine oW fun dd K hK => ?_; go_simp; refine qT hK ?_; clear hK K)
  (refine oW fun dd K hK => ?_; go_simp; refine qT hK ?_; clear hK K)
  (refine oW fun dd K hK => ?_; go_simp; refine qT hK ?_; clear hK K)
  (refine oW fun dd K hK => ?_; go_simp; refine qT hK ?_; clear hK K)
  (refine oW fun dd K hK => ?_; go_simp; refine qT hK ?_; clear hK K)
  (refine oW fun dd K hK => ?_; go_simp; refine qT hK ?_; clear hK K)
  (refine oW fun dd K hK => ?_; go_simp; refine qT hK ?_; clear hK K)
  (refine oW fun dd K hK => ?_; go_simp; refine qT hK ?_; clear hK K)
  (refine oW fun dd K hK => ?_; go_simp; refine qT hK ?_; clear hK K)
  (refine oW fun dd K hK => ?_; go_simp; refine qT hK ?_; clear hK K)
  (refine oW fun dd K hK => ?_; go_simp; refine qT hK ?_; clear hK K)
  refine oc callable46 #[.pointer none, .iface 76 (.pointer (some ⟨sb, 0, none⟩))] ?_
  refine own_empty_nil ?_
  rw [Frame.finish_at]
  walk_nrm
  (refine oW fun dd K hK => ?_; go_simp; refine qT hK ?_; clear hK K)
  (refine oW fun dd K hK => ?_; go_simp; refine qT hK ?_; clear hK K)
  (refine oW fun dd K hK => ?_; go_simp; refine qT hK ?_; clear hK K)
  (refine oW fun dd K hK => ?_; go_simp; refine qT hK ?_; clear hK K)
  refine oc callable40 #[.pointer none] ?_
  refine own_size_nil ?_
  rw [Frame.finish_at]
  walk_nrm
  (refine oW fun dd K hK => ?_; go_simp; refine qT hK ?_; clear hK K)
  (refine oW fun dd K hK => ?_; go_simp; refine qT hK ?_; clear hK K)
  (refine oW fun dd K hK => ?_; go_simp; refine qT hK ?_; clear hK K)
  (refine oW fun dd K hK => ?_; go_simp; refine qT hK ?_; clear hK K)
  refine oc callable39 #[.pointer none] ?_
  refine own_values_nil ?_
  rw [Frame.finish_at]
  walk_nrm
  (refine oW fun dd K hK => ?_; go_simp; refine qT hK ?_; clear hK K)
  (refine oW fun dd K hK => ?_; go_simp; refine qT hK ?_; clear hK K)
  (refine oW fun dd K hK => ?_; go_simp; refine qT hK ?_; clear hK K)
  (refine oW fun dd K hK => ?_; go_simp; refine qT hK ?_; clear hK K)
  (refine oW fun dd K hK => ?_; go_simp; refine qT hK ?_; clear hK K)
  (refine oW fun dd K hK => ?_; go_simp; refine qT hK ?_; clear hK K)
  (refine oW fun dd K hK => ?_; go_simp; refine qT hK ?_; clear hK K)
  have hc0 : w0.cell? ⟨sb, 0, none⟩ = some (.int .i64 0) := (by simp [World.cell?, show w0.heap[sb]? = _ from x0])
  have hz0 : w0.frozen? ⟨sb, 0, none⟩ = false := (by simp [World.frozen?, show w0.heap[sb]? = _ from x0])
  (refine oW fun dd K hK => ?_; go_simp; refine qL hK ?_; clear hK K)
  clear hc0 hz0
  (refine oW fun dd K hK => ?_; go_simp; refine qT hK ?_; clear hK K)
  (refine oW fun dd K hK => ?_; go_simp; refine qT hK ?_; clear hK K)
  refine ogE ?_
  rw [ksnc75_eq]
  refine ogF ?_
  simp only [Bool.false_eq_true, if_false]
  refine ogK ?_
  rw [ksns11_eq]
  refine ogS ?_
  rw [ksnr9_eq]
  refine ogR ?_
  simp only [ksno9, Code.opsOf, ksnr9, Code.piece, ksnBody, Try.f12, Option.getD_some, List.size_toArray, List.length_cons, List.length_nil, Nat.reduceAdd, Nat.zero_add, List.range, List.range.loop]
  (refine oW fun dd K hK => ?_; go_simp; refine qT hK ?_; clear hK K)
  (refine oW fun dd K hK => ?_; go_simp; refine qT hK ?_; clear hK K)
  (refine oW fun dd K hK => ?_; go_simp; refine qT hK ?_; clear hK K)
  refine oc callable43 #[.pointer (some ⟨kb, 0, none⟩), .iface 76 (.pointer (some ⟨sb, 0, none⟩))] ?_
  refine own_pop_z (m := 0) (cntS main sb) z0 x0 (by decide) hsb fun w1 z1 x1 s1 o1 => ?_
  rw [Frame.finish_at]
  walk_nrm
  (refine oW fun dd K hK => ?_; go_simp; refine qT hK ?_; clear hK K)
  (refine oW fun dd K hK => ?_; go_simp; refine qT hK ?_; clear hK K)
  (refine oW fun dd K hK => ?_; go_simp; refine qT hK ?_; clear hK K)
  (refine oW fun dd K hK => ?_; go_simp; refine qT hK ?_; clear hK K)
  (refine oW fun dd K hK => ?_; go_simp; refine qT hK ?_; clear hK K)
  refine ogE ?_
  rw [ksns12_eq]
  refine ogS ?_
  rw [ksnr10_eq]
  refine ogR ?_
  simp only [ksno10, Code.opsOf, ksnr10, Code.piece, ksnBody, Try.f12, Option.getD_some, List.size_toArray, List.length_cons, List.length_nil, Nat.reduceAdd, Nat.zero_add, List.range, List.range.loop]
  (refine oW fun dd K hK => ?_; go_simp; refine qT hK ?_; clear hK K)
  (refine oW fun dd K hK => ?_; go_simp; refine qT hK ?_; clear hK K)
  (refine oW fun dd K hK => ?_; go_simp; refine qT hK ?_; clear hK K)
  refine oc callable44 #[.pointer (some ⟨kb, 0, none⟩), .iface 76 (.pointer (some ⟨sb, 0, none⟩))] ?_
  refine own_peek_z (m := 1) (cntS main sb) z1 x1 (by decide) hsb fun w2 z2 x2 s2 o2 => ?_
  rw [Frame.finish_at]
  walk_nrm
  (refine oW fun dd K hK => ?_; go_simp; refine qT hK ?_; clear hK K)
  (refine oW fun dd K hK => ?_; go_simp; refine qT hK ?_; clear hK K)
  (refine oW fun dd K hK => ?_; go_simp; refine qT hK ?_; clear hK K)
  (refine oW fun dd K hK => ?_; go_simp; refine qT hK ?_; clear hK K)
  (refine oW fun dd K hK => ?_; go_simp; refine qT hK ?_; clear hK K)
  refine ogE ?_
  rw [ksns13_eq]
  refine ogS ?_
  rw [ksns14_eq]
  refine ogS ?_
  rw [ksnr11_eq]
  refine ogR ?_
  simp only [ksno11, Code.opsOf, ksnr11, Code.piece, ksnBody, Try.f12, Option.getD_some, List.size_toArray, List.length_cons, List.length_nil, Nat.reduceAdd, Nat.zero_add, List.range, List.range.loop]
  (refine oW fun dd K hK => ?_; go_simp; refine qT hK ?_; clear hK K)
  (refine oW fun dd K hK => ?_; go_simp; refine qT hK ?_; clear hK K)
  (refine oW fun dd K hK => ?_; go_simp; refine qT hK ?_; clear hK K)
  (refine oW fun dd K hK => ?_; go_simp; refine qT hK ?_; clear hK K)
  refine oc callable45 #[.pointer (some ⟨kb, 0, none⟩), .iface 76 (.pointer (some ⟨sb, 0, none⟩)), .int .i64 a] ?_
  refine own_push_z (m := 2) (cntS main sb) z2 x2 (by decide) hsb fun w3 z3 x3 s3 o3 => ?_
  rw [Frame.finish_at]
  walk_nrm
  (refine oW fun dd K hK => ?_; go_simp; refine qT hK ?_; clear hK K)
  (refine oW fun dd K hK => ?_; go_simp; refine qT hK ?_; clear hK K)
  (refine oW fun dd K hK => ?_; go_simp; refine qT hK ?_; clear hK K)
  (refine oW fun dd K hK => ?_; go_simp; refine qT hK ?_; clear hK K)
  (refine oW fun dd K hK => ?_; go_simp; refine qT hK ?_; clear hK K)
  (refine oW fun dd K hK => ?_; go_simp; refine qT hK ?_; clear hK K)
  (refine oW fun dd K hK => ?_; go_simp; refine qT hK ?_; clear hK K)
  (refine oW fun dd K hK => ?_; go_simp; refine qT hK ?_; clear hK K)
  (refine oW fun dd K hK => ?_; go_simp; refine qT hK ?_; clear hK K)
  (refine oW fun dd K hK => ?_; go_simp; refine qT hK ?_; clear hK K)
  (refine oW fun dd K hK => ?_; go_simp; refine qT hK ?_; clear hK K)
  (refine oW fun dd K hK => ?_; go_simp; refine qT hK ?_; clear hK K)
  (refine oW fun dd K hK => ?_; go_simp; refine qT hK ?_; clear hK K)
  (refine oW fun dd K hK => ?_; go_simp; refine qT hK ?_; clear hK K)
  (refine oW fun dd K hK => ?_; go_simp; refine qT hK ?_; clear hK K)
  (refine oW fun dd K hK => ?_; go_simp; refine qT hK ?_; clear hK K)
  (refine oW fun dd K hK => ?_; go_simp; refine qT hK ?_; clear hK K)
  (refine oW fun dd K hK => ?_; go_simp; refine qT hK ?_; clear hK K)
  refine oc callable46 #[.pointer (some ⟨kb, 0, none⟩), .iface 76 (.pointer (some ⟨sb, 0, none⟩))] ?_
  refine own_empty_z (m := 3) (cntS main sb) z3 x3 (by decide) hsb fun w4 z4 x4 s4 o4 => ?_
  rw [Frame.finish_at]
  walk_nrm
  (refine oW fun dd K hK => ?_; go_simp; refine qT hK ?_; clear hK K)
  (refine oW fun dd K hK => ?_; go_simp; refine qT hK ?_; clear hK K)
  (refine oW fun dd K hK => ?_; go_simp; refine qT hK ?_; clear hK K)
  (refine oW fun dd K hK => ?_; go_simp; refine qT hK ?_; clear hK K)
  (refine oW fun dd K hK => ?_; go_simp; refine qT hK ?_; clear hK K)
  (refine oW fun dd K hK => ?_; go_simp; refine qT hK ?_; clear hK K)
  have hc4 : w4.cell? ⟨sb, 0, none⟩ = some (.int .i64 4) := (by simp [World.cell?, show w4.heap[sb]? = _ from x4])
  have hz4 : w4.frozen? ⟨sb, 0, none⟩ = false := (by simp [World.frozen?, show w4.heap[sb]? = _ from x4])
  (refine oW fun dd K hK => ?_; go_simp; refine qL hK ?_; clear hK K)
  clear hc4 hz4
  (refine oW fun dd K hK => ?_; go_simp; refine qT hK ?_; clear hK K)
  (refine oW fun dd K hK => ?_; go_simp; refine qT hK ?_; clear hK K)
  (refine oW fun dd K hK => ?_; go_simp; refine qT hK ?_; clear hK K)
  (refine oW fun dd K hK => ?_; go_simp; refine qT hK ?_; clear hK K)
  refine oc callable40 #[.pointer (some ⟨kb, 0, none⟩)] ?_
  refine own_size_z z4 ?_
  rw [Frame.finish_at]
  walk_nrm
  (refine oW fun dd K hK => ?_; go_simp; refine qT hK ?_; clear hK K)
  (refine oW fun dd K hK => ?_; go_simp; refine qT hK ?_; clear hK K)
  (refine oW fun dd K hK => ?_; go_simp; refine qT hK ?_; clear hK K)
  (refine oW fun dd K hK => ?_; go_simp; refine qT hK ?_; clear hK K)
  refine oc callable39 #[.pointer (some ⟨kb, 0, none⟩)] ?_
  refine own_values_z z4 ?_
  rw [Frame.finish_at]
  walk_nrm
  (refine oW fun dd K hK => ?_; go_simp; refine qT hK ?_; clear hK K)
  (refine oW fun dd K hK => ?_; go_simp; refine qT hK ?_; clear hK K)
  (refine oW fun dd K hK => ?_; go_simp; refine qT hK ?_; clear hK K)
  refine ogE ?_
  rw [ksnc133_eq]
  refine ogF ?_
  simp only [Bool.false_eq_true, if_false]
  refine ogK ?_
  rw [ksns16_eq]
  refine ogS ?_
  rw [ksnr13_eq]
  refine ogR ?_
  simp only [ksno13, Code.opsOf, ksnr13, Code.piece, ksnBody, Try.f12, Option.getD_some, List.size_toArray, List.length_cons, List.length_nil, Nat.reduceAdd, Nat.zero_add, List.range, List.range.loop]
  (refine oW fun dd K hK => ?_; go_simp; refine qT hK ?_; clear hK K)
  refine oc callable36 #[.int .i64 size, .bool true] ?_
  refine own_knew (n := n) hn fun w5 k1 k2 k3 => ?_
  rw [Frame.finish_at]
  walk_nrm
  refine oc callable40 #[.pointer (some ⟨w4.heap.size + 1, 0, none⟩)] ?_
  refine own_size k1 (v := n) (by simp [KS.m, knew]) ?_
  rw [Frame.finish_at]
  walk_nrm
  (refine oW fun dd K hK => ?_; go_simp; refine qT hK ?_; clear hK K)
  (refine oW fun dd K hK => ?_; go_simp; refine qT hK ?_; clear hK K)
  (refine oW fun dd K hK => ?_; go_simp; refine qT hK ?_; clear hK K)
  (refine oW fun dd K hK => ?_; go_simp; refine qT hK ?_; clear hK K)
  (refine oW fun dd K hK => ?_; go_simp; refine qT hK ?_; clear hK K)
  refine ogE ?_
  refine ogX ?_
  refine h _ _ rfl fun r hr => ?_
  have hr : r < kb := by omega
  have r1 : r ≠ sb := by omega
  rw [k3 r (by omega), o4 r r1, o3 r r1, o2 r r1, o1 r r1, l0 r hr]
variable {An : Anchor} {W : World}
theorem sn_mm (size : Int) : ∃ n : Nat, min (max size 1) 65536 = (n : Int) ∧ (if 65536 < (if size < 1 then 1 else size) then 65536 else (if size < 1 then 1 else size)) = (n : Int) := by
  refine ⟨(min (max size 1) 65536).toNat, by omega, ?_⟩
  split <;> split <;> omega
theorem bes_snone {a size : Int} : Bes An Try.prog (LawStop An (LawPost W)) (G (Frame.enter Try.prog 12 #[.int .i64 a, .int .i64 size] .normal) []) W := by
  refine bes_own (F := F0) (Stop := fun g u => ∃ A d, Slots 141 A [(0, .int .i64 a), (1, .int .i64 size)] ∧ u = W.at d ∧ g = G (Frame.enter Try.prog 30 #[] .normal) [((Go.Conc.base 12).at ⟨A, []⟩ [.inRegion ksno1 [0, 1], .code ksnc13, .code ksns4])])
    (sn_0 fun A hA => .stop fun d => ⟨A, d, hA, rfl, rfl⟩) fun g u ⟨A, d, hA, hu, hg⟩ => ?_
  subst hg
  refine bes_turns fun w1 hs hold => ?_
  obtain ⟨n, hn, h2⟩ := sn_mm size
  refine bes_own (F := F0) (Stop := LawStop An (LawPost W)) ?_ fun a u h => Bes.stop h
  refine sn_1 hn rfl h2 hA fun A w2 hr ho => ?_
  refine .stop fun d => law_stop Try.func12 rfl (by decide) hr fun r c e z h => ?_
  have h3 := hold r c e z (by rw [hu]; exact h)
  show w2.heap[r]? = _
  rw [ho r (Array.getElem?_eq_some_iff.1 h3).1]
  exact h3
end Go.Proofs.Ytlcgkpapnpdfpaa
namespace Go.Proofs.Ytlcgkpapnpdfpaa
open Go Go.Conc Go.RowKit Go.Proofs
open Go.ChangeShapes Go.WideShapes Go.ChangeAt
set_option maxRecDepth 100000 in
theorem snone_lifted (os : Os) (started : os.Started) (H : Type) (enc : TypeId × Value → H) :
    ReturnsInLeavingWide {} Try.checked os 12 .any (Rows.stackNoneSpec.pre6 enc Try.prog Try.f12 Rows.stackNoneRow.domain false) (Rows.stackNoneSpec.post enc Try.prog Try.f12 false true false false) := by
  refine returnsInLeavingWide_of_change_sized (C := Try.checked) Try.own started Try.func12
    (ChangeSpec.witness6 (enc := enc) (C := Try.checked) false ⟨#[], #[.int .i64 0, .int .i64 0], []⟩ 8 (by kernel_rfl) (by kernel_rfl) (by kernel_rfl) (by kernel_rfl)) ?_
  intro W base args ds gs before hval0 hW _ hsz0 _
  have hval : ∀ (j : Nat) t v, Try.f12.params[j]? = some t → args[j]? = some v → Value.okWide Try.prog W .any base t v := hval0
  have hW' := hW
  obtain ⟨p, q, hA0, hV, rfl, _, _⟩ := hW
  have hA : DataW.TrodAll enc Try.prog W 0 (fun _ => true) true Try.f12.params.toList args.toList ds p := hA0
  rw [Try.params12] at hA hval
  obtain ⟨v0, v1, d0, d1, p0, p1, rfl, rfl, rfl, h0, h1⟩ := trodAll_two hA
  obtain ⟨rfl, rfl⟩ := trodVars_none hV
  obtain ⟨a, rfl, rfl, rfl, wa⟩ := open_int Try.underlying2 (hval 0 2 v0 rfl rfl) h0
  obtain ⟨b, rfl, rfl, rfl, wb⟩ := open_int Try.underlying3 (hval 1 3 v1 rfl rfl) h1
  clear hA0 hval0
  simp only [List.append_nil] at hW'
  obtain ⟨M, last, o, w', t', h1, h2, h3, h4⟩ := bes_good (An := ⟨W.heap.size, W⟩) (Post := fun v w' => LawPost W v w' ∧ (⟨W.heap.size, W⟩ : Anchor).Holds w') (W := W) (fr := Frame.enter Try.prog 12 #[.int .i64 a, .int .i64 b] .normal) ⟨rfl, rfl, rfl, Nat.le_refl _, fun r o _ h _ => h⟩ (Bes.bind bes_snone fun g w h => Bes.stop ⟨h.1, fun d => by
    obtain ⟨v, e1, e2⟩ := h.2 d
    exact ⟨v, e1, fun hh => ⟨e2 hh, hh⟩⟩⟩)
  refine ⟨M, last, o, w', t', h1, h2, h3, h4.mono fun v hF => ?_⟩
  obtain ⟨⟨rfl, hk⟩, hh⟩ := hF
  have hbelow := below_of hh hk
  refine ⟨_, _, _, [], [], [], hW', ?_, ?_, rfl, hbelow.frame _, fun h => by cases h⟩
  · exact trodAll_mk1 (shut_bool Try.underlying4 true)
  · exact trodAll_mk2 (shut_int Try.underlying2 wa) (shut_int Try.underlying3 wb)
theorem stackNone_holds : Rows.StackNoneSaid :=
  OpenClaim.holds_of_wide_leaving 12 Try.f12 rfl rfl rfl rfl rfl rfl rfl ⟨rfl, rfl, rfl, rfl, rfl⟩ rfl rfl rfl rfl rfl (by kernel_rfl) Try.func12 (by kernel_rfl)
    (of_decide_eq_true (by kernel_rfl)) (by unfold Func.isWrapper; first | (rw [if_pos (by decide +kernel)]; kernel_rfl) | (rw [if_neg (by decide +kernel)]; exact ⟨rfl, rfl⟩))
    (fun os started H enc _ => snone_lifted os started H enc)
end Go.Proofs.Ytlcgkpapnpdfpaa
