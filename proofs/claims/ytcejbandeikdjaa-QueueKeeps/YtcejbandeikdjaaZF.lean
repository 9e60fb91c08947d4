/-
  The law QueueKeeps holds of the given program: whatever the schedule, what was put into a queue is taken once or is there still, and each maker's numbers are taken in order (QueueKeepsSaid; no condition).
  Part 6 of 6.
-/
import Derived.Test.YtcejbandeikdjaaZE
import Derived.ChangeSame
import Derived.Deep.Grids
set_option linter.unusedSimpArgs false
set_option linter.unusedVariables false
namespace Go.Proofs.Ytcejbandeikdjaa
open Go Go.Conc Go.RowKit Go.Proofs
open Go.ChangeShapes Go.WideShapes Go.ChangeAt
theorem Try.own : ownKnob Try.prog.godebug = none := by kernel_rfl
theorem Try.laidOut : laidOutB Try.prog = true := by kernel_rfl
section
variable {H : Type} {enc : TypeId × Value → H} {W : World}
set_option maxRecDepth 100000 in
theorem ints_len {t e : TypeId} (ht : Try.prog.underlying t = some (.slice e)) (he : Try.prog.underlying e = some (.int .i64)) (hc : Try.prog.cellsOf e = 1) {a : Option Addr} {l c : Nat} {d : DataW H} {p : List MemPlace}
    (h : DataW.Trod enc Try.prog W 0 (fun _ => true) true t (.slice a l c) d p) : l < 9223372036854775808 := by
  obtain ⟨fuel, hf⟩ := h
  rcases open_ints ht he hc hf with ⟨h1, h2⟩ | ⟨a, len, cap, zs, h1, hb, hlc, hm, hzl, h2, h3, _⟩
  · simp [Value.cells] at h1
    omega
  · simp [Value.cells] at h1
    unfold maxLen at hm
    omega
theorem cells119 : Try.prog.cellsOf 119 = 1 := by kernel_rfl
theorem cells120 : Try.prog.cellsOf 120 = 1 := by kernel_rfl
theorem spot_none {a : Addr} {v : Value} (h : W.cell? (a.add 0) = some v) : a = ⟨a.block, a.off, none⟩ := by
  obtain ⟨b, o, spot⟩ := a
  have hs : spot = none := by
    have := World.cell?_spot h
    simpa [Addr.add] using this
  rw [hs]
set_option maxRecDepth 100000 in
theorem turns_in {v : Value} {d : DataW H} {p : List MemPlace} (hv : Value.okWide Try.prog W .any W.heap.size 70 v) (h : DataW.Trod enc Try.prog W 0 (fun _ => true) true 70 v d p) :
    ∃ la n0 lc A L C B, v = .slice la n0 lc ∧ BGrid W la n0 A L C B := by
  obtain ⟨fuel, hf⟩ := h
  obtain ⟨a0, l0, c0, rfl⟩ := okWide_slice Try.underlying70 hv
  rcases Deep.open_bool_rows Try.underlying70 Try.underlying119 Try.underlying120 cells119 cells120 hf with ⟨h1, _⟩ | ⟨a, len, cap, A, L, C, B, h1, _, hlc, _, _, hx⟩
  · simp [Value.cells] at h1
    obtain ⟨rfl, rfl, rfl⟩ := h1
    exact ⟨none, 0, 0, fun _ => none, fun _ => 0, fun _ => 0, fun _ _ => false, rfl, fun r hr => by omega, fun r hr => by omega⟩
  · simp [Value.cells] at h1
    obtain ⟨rfl, rfl, rfl⟩ := h1
    refine ⟨some a, l0, c0, A, L, C, B, rfl, fun r hr => ?_, fun r hr k hk => ?_⟩
    · have h1 := (hx r (by omega)).1
      have e := spot_none (hx 0 (by omega)).1
      refine ⟨a.block, a.off, by rw [← e], ?_⟩
      rw [e, add_plain] at h1
      exact h1
    · obtain ⟨_, h2, _, h4, h5⟩ := hx r (by omega)
      cases hA : A r with
      | none => have := h4 hA; omega
      | some a' =>
        have h6 := (h5 a' hA).2 k (by omega)
        have e := spot_none ((h5 a' hA).2 0 (by omega))
        refine ⟨a'.block, a'.off, by rw [← e], ?_⟩
        rw [e, add_plain] at h6
        exact h6
end
set_option maxRecDepth 100000 in
theorem keeps_lifted (os : Os) (started : os.Started) (H : Type) (enc : TypeId × Value → H) :
    ReturnsInLeavingWide {} Try.checked os 6 .any (Rows.queueKeepsSpec.pre6 enc Try.prog Try.f6 Rows.queueKeepsRow.domain false) (Rows.queueKeepsSpec.post enc Try.prog Try.f6 false true false false) := by
  refine returnsInLeavingWide_of_change_sized (C := Try.checked) Try.own started Try.func6
    (ChangeSpec.witness6 (enc := enc) (C := Try.checked) false ⟨#[], #[.int .u8 0, .slice none 0 0, .slice none 0 0], []⟩ 8 (by kernel_rfl) (by kernel_rfl) (by kernel_rfl) (by kernel_rfl)) ?_
  intro W base args ds gs before hval0 hW _ hsz0 _
  have hval : ∀ (j : Nat) t v, Try.f6.params[j]? = some t → args[j]? = some v → Value.okWide Try.prog W .any base t v := hval0
  have hW' := hW
  obtain ⟨p, q, hA0, hV, rfl, hfz, _⟩ := hW
  have hA : DataW.TrodAll enc Try.prog W 0 (fun _ => true) true Try.f6.params.toList args.toList ds p := hA0
  rw [Try.params6] at hA hval
  obtain ⟨v0, v1, v2, d0, d1, d2, p0, p1, p2, rfl, rfl, rfl, h0, h1, h2⟩ := trodAll_three hA
  obtain ⟨rfl, rfl⟩ := trodVars_none hV
  obtain ⟨nb, rfl, rfl, rfl, wnb⟩ := open_int Try.underlying5 (hval 0 5 v0 rfl rfl) h0
  clear hA0 hval0
  simp only [List.append_nil, List.nil_append] at hW' hfz
  have hlt : ∀ x ∈ p1 ++ p2, x.block < W.heap.size := fun x hx => by simpa using hW'.lt x hx
  obtain ⟨la, n0, lc, A, L, C, B, rfl, hG⟩ := turns_in (hval 1 70 v1 rfl rfl) h1
  obtain ⟨sa, S, sc, sb, so, rfl, _, hS⟩ := ints_in Try.underlying24 Try.underlying3 cells3 (hval 2 24 v2 rfl rfl) h2 (fun b o h => hfz b o (by simp [h])) (fun x hx => hlt x (by simp [hx]))
  have hsl := ints_len Try.underlying24 Try.underlying3 cells3 h2
  obtain ⟨m, rfl, hm⟩ : ∃ m : Nat, nb = (m : Int) ∧ m < 256 := by
    simp only [Lit.wf, Bool.and_eq_true, decide_eq_true_eq] at wnb
    have e1 : IntKind.u8.min = 0 := rfl
    have e2 : IntKind.u8.max = 255 := rfl
    rw [e1, e2] at wnb
    exact ⟨nb.toNat, by omega, by omega⟩
  have hbes := bes_keeps (An := ⟨W.heap.size, W⟩) (W := W) (lc := lc) (sc := sc) (sa := sa) (S := S) hm hG hsl fun hp => by
    obtain ⟨e1, e2, c, e, z, e3, e4⟩ := hS hp
    refine ⟨sb, so, c, e, z, e1, e3, fun k u hu => ?_⟩
    rw [List.getElem?_map, Option.map_eq_some_iff] at hu
    obtain ⟨i, hi, rfl⟩ := hu
    exact ⟨(e4 k i hi).1, (e4 k i hi).2.1⟩
  obtain ⟨N, last, o', w', t', g1, g2, g3, g4⟩ := bes_good (An := ⟨W.heap.size, W⟩) (Post := fun v w' => LawPost W v w' ∧ (⟨W.heap.size, W⟩ : Anchor).Holds w') (W := W) ⟨rfl, rfl, rfl, Nat.le_refl _, fun r o _ h _ => h⟩ (Bes.bind hbes fun g w h => Bes.stop ⟨h.1, fun d => by
    obtain ⟨v, e1, e2⟩ := h.2 d
    exact ⟨v, e1, fun hh => ⟨e2 hh, hh⟩⟩⟩)
  refine ⟨N, last, o', w', t', g1, g2, g3, g4.mono fun v hF => ?_⟩
  obtain ⟨⟨rfl, hk⟩, hh⟩ := hF
  have hbelow := below_of hh hk
  have r1 := Below.trod Try.laidOut (by kernel_rfl) (of_decide_eq_true (by kernel_rfl)) h1 hbelow (fun x hx => hlt x (by simp [hx]))
  have r2 := Below.trod Try.laidOut (by kernel_rfl) (of_decide_eq_true (by kernel_rfl)) h2 hbelow (fun x hx => hlt x (by simp [hx]))
  refine ⟨_, _, _, [], [] ++ (p1 ++ p2), [], hW', ?_, ?_, rfl, hbelow.frame _, fun h => by cases h⟩
  · exact trodAll_mk1 (shut_bool Try.underlying4 true)
  · exact trodAll_mk3 (shut_int Try.underlying5 wnb) r1 r2
theorem queueKeeps_holds : Rows.QueueKeepsSaid :=
  OpenClaim.holds_of_wide_leaving 6 Try.f6 rfl rfl rfl rfl rfl rfl rfl ⟨rfl, rfl, rfl, rfl, rfl⟩ rfl rfl rfl rfl rfl (by kernel_rfl) Try.func6 (by kernel_rfl)
    (of_decide_eq_true (by kernel_rfl)) (by unfold Func.isWrapper; first | (rw [if_pos (by decide +kernel)]; kernel_rfl) | (rw [if_neg (by decide +kernel)]; exact ⟨rfl, rfl⟩))
    (fun os started H enc _ => keeps_lifted os started H enc)
end Go.Proofs.Ytcejbandeikdjaa
