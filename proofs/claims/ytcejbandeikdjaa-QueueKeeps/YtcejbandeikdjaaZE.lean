/-
  The law QueueKeeps holds of the given program: whatever the schedule, what was put into a queue is taken once or is there still, and each maker's numbers are taken in order (QueueKeepsSaid; no condition).
  Part 5 of 6.
-/
import Derived.Test.YtcejbandeikdjaaZD
import Derived.Conc.LeavingOf
import Derived.Test.YtcejbandeikdjaaRows
import Derived.ProofKit
import Derived.Carry
import Derived.Deep.Slices
import Derived.ChangeSlices
set_option linter.unusedSimpArgs false
set_option linter.unusedVariables false
namespace Go.Proofs.Ytcejbandeikdjaa
open Go Go.Conc Go.RowKit Go.Proofs
variable {F : Fz} {w w' : World} {qb st : Nat}
theorem stp_take {s : QS} {T : Nat} {H ph new : Nat} {N : Option Nat} {v : Int} {A A2 : Array Value} {ab eb : Nat} (hJ : QJ qb st s ⟨⟨2, ph, H, T, N, new⟩, v, A, A2, ab, eb⟩) (hs : QU qb s w) (hc : QCU ⟨⟨2, ph, H, T, N, new⟩, v, A, A2, ab, eb⟩ w) (hdis : ∀ q, QCR ⟨⟨2, ph, H, T, N, new⟩, v, A, A2, ab, eb⟩ q → ¬ QR qb s q) (hF : ∀ r, QR qb s r ∨ QCR ⟨⟨2, ph, H, T, N, new⟩, v, A, A2, ab, eb⟩ r → F r = none) (b : Frame) (cs : List Frame) :
    Own Try.prog false F ((QLay qb).Out st s (QCR ⟨⟨2, ph, H, T, N, new⟩, v, A, A2, ab, eb⟩) ((QLay qb).stp s ⟨⟨2, ph, H, T, N, new⟩, v, A, A2, ab, eb⟩) w (b :: cs)) (back (.tuple #[]) ((QLay qb).cf st ⟨⟨2, ph, H, T, N, new⟩, v, A, A2, ab, eb⟩ ++ b :: cs)) w := by
  have hA := hJ.A
  have hA2 := hJ.A2
  have hq : F qb = none := hF qb (.inl (.inl rfl))
  have hT : T < s.q.B.length := hJ.T
  have hnew : new < s.q.B.length := hJ.new
  have hH : H < s.q.B.length := hJ.H
  have hn : N.getD 0 < s.q.B.length := hJ.n
  have hp := hJ.ph
  simp only at hp
  have hab : ∀ r, QR qb s r → r ≠ ab := fun r hr e => hdis r (.inl e) hr
  have hph : ph = 1 ∨ ph = 2 ∨ ph = 3 ∨ ph = 4 ∨ ph = 5 := by
    rw [if_neg (by decide)] at hp
    omega
  rcases hph with rfl | rfl | rfl | rfl | rfl
  · refine tak_1 (K := stK) (h0 := s.bk s.q.hd) (hs.boxP hs.hd) hs.hc hA fun A' hA' => .stop fun d => q_live (rc' := ⟨2, 2, s.q.hd, T, N, new⟩) (A' := A') hs rfl rfl rfl ⟨hs.hd, hT, hn, hnew, .inr (.inl rfl), ⟨by simp, by simp⟩, hA', hA2⟩ hc hdis (fun r _ => rfl) d
  · refine tak_2 (K := stK) (h0 := s.bk H) (t := s.bk s.q.tl) (hs.boxP hs.tl) hs.tc hA fun A' hA' => .stop fun d => q_live (rc' := ⟨2, 3, H, s.q.tl, N, new⟩) (A' := A') hs rfl rfl rfl ⟨hH, hs.tl, hn, hnew, .inr (.inl rfl), ⟨by simp, by simp⟩, hA', hA2⟩ hc hdis (fun r _ => rfl) d
  · cases e : s.q.nx H with
    | none =>
      refine tak_3n (K := stK) (h0 := s.bk H) (t := s.bk T) (.inl rfl) ((hs.nc hH).trans (by rw [e]; rfl)) hA ?_
      refine do_take1 (er := 4) (v := 0) hc.1 (fun k => not_heldB (hF ab (.inr (.inl rfl))) k) hA2 (.stop fun d => q_ans (an := (false, 0)) (q' := s.q) (hs.same fun r hr => ansW_same (hab r hr)) rfl (by simp [RQ.step, RQ.take, e]) d)
    | some n =>
      have hnl := hs.nxlt e
      by_cases e2 : H = T
      · refine tak_3t (K := stK) (h0 := s.bk H) (t := s.bk T) (n := s.bk n) (hs.boxP hnl) ((hs.nc hH).trans (by rw [e]; rfl)) (fun d => by have := hs.eq hH hT d; rwa [decide_eq_true e2] at this) hA fun A' hA' => .stop fun d => q_live (rc' := ⟨2, 4, H, T, some n, new⟩) (A' := A') hs rfl (by simp only [RQ.step, RQ.take]; rw [e]; simp [e2]) rfl ⟨hH, hT, hnl, hnew, .inr (.inl rfl), ⟨by simp, by simp⟩, hA', hA2⟩ hc hdis (fun r _ => rfl) d
      · refine tak_3h (K := stK) (h0 := s.bk H) (t := s.bk T) (n := s.bk n) (hs.boxP hnl) ((hs.nc hH).trans (by rw [e]; rfl)) (fun d => by have := hs.eq hH hT d; rwa [decide_eq_false e2] at this) hA fun A' hA' => .stop fun d => q_live (rc' := ⟨2, 5, H, T, some n, new⟩) (A' := A') hs rfl (by simp [RQ.step, RQ.take, e, e2]) rfl ⟨hH, hT, hnl, hnew, .inr (.inl rfl), ⟨by simp, by simp⟩, hA', hA2⟩ hc hdis (fun r _ => rfl) d
  · refine tak_4 (K := stK) (h0 := s.bk H) (t := s.bk T) (n := s.bk (N.getD 0)) (eq := decide (s.q.tl = T)) (hs.boxP hT) (hs.boxP hn) hs.tc (hs.qz 1) (not_heldB hq 1) (fun d => hs.eq hs.tl hT d) hA fun A' hA' => .stop fun d => q_live (q' := s.q.help T (N.getD 0)) (rc' := ⟨2, 1, H, T, N, new⟩) (A' := A') (hs.help hn) (help_len _ _ _) rfl rfl ⟨by simp only [help_len]; exact hH, by simp only [help_len]; exact hT, by simp only [help_len]; exact hn, by simp only [help_len]; exact hnew, .inr (.inl rfl), ⟨by simp, by simp⟩, hA', hA2⟩ hc hdis help_same d
  · by_cases e : s.q.hd = H
    · have h2 := hs.setHd hn
      refine tak_5a (K := stK) (h0 := s.bk H) (t := s.bk T) (n := s.bk (N.getD 0)) (cur := some ⟨s.bk s.q.hd, 0, none⟩) (hs.boxP hH) (hs.boxP hn) hs.hc (hs.qz 0) (not_heldB hq 0) (fun d => by have := hs.eq hs.hd hH d; rwa [decide_eq_true e] at this) (h2.vc hn) (h2.bz hn 0) hA ?_
      refine do_take1 (er := 0) (ans_same hc.1 (heap_setCell_ne _ _ _ fun e1 => hdis ab (.inl rfl) (.inl e1))) (fun k => not_heldB (hF ab (.inr (.inl rfl))) k) hA2 (.stop fun d => q_ans (an := (true, s.q.vl (N.getD 0))) (q' := { s.q with hd := N.getD 0 }) (h2.same fun r hr => ansW_same (hab r (qr_same (s := s) rfl hr))) rfl (by simp [RQ.step, RQ.take, e, RC.n]) d)
    · refine tak_5b (K := stK) (h0 := s.bk H) (t := s.bk T) (n := s.bk (N.getD 0)) (cur := some ⟨s.bk s.q.hd, 0, none⟩) (hs.boxP hH) (hs.boxP hn) hs.hc (hs.qz 0) (not_heldB hq 0) (fun d => by have := hs.eq hs.hd hH d; rwa [decide_eq_false e] at this) hA fun A' hA' => .stop fun d => q_live (rc' := ⟨2, 1, H, T, N, new⟩) (A' := A') hs rfl (by simp [RQ.step, RQ.take, e]) rfl ⟨hH, hT, hn, hnew, .inr (.inl rfl), ⟨by simp, by simp⟩, hA', hA2⟩ hc hdis (fun r _ => rfl) d
theorem stp_emp {s : QS} {T : Nat} {H ph new : Nat} {N : Option Nat} {v : Int} {A A2 : Array Value} {ab eb : Nat} (hJ : QJ qb st s ⟨⟨3, ph, H, T, N, new⟩, v, A, A2, ab, eb⟩) (hs : QU qb s w) (hc : QCU ⟨⟨3, ph, H, T, N, new⟩, v, A, A2, ab, eb⟩ w) (hdis : ∀ q, QCR ⟨⟨3, ph, H, T, N, new⟩, v, A, A2, ab, eb⟩ q → ¬ QR qb s q) (hF : ∀ r, QR qb s r ∨ QCR ⟨⟨3, ph, H, T, N, new⟩, v, A, A2, ab, eb⟩ r → F r = none) (b : Frame) (cs : List Frame) :
    Own Try.prog false F ((QLay qb).Out st s (QCR ⟨⟨3, ph, H, T, N, new⟩, v, A, A2, ab, eb⟩) ((QLay qb).stp s ⟨⟨3, ph, H, T, N, new⟩, v, A, A2, ab, eb⟩) w (b :: cs)) (back (.tuple #[]) ((QLay qb).cf st ⟨⟨3, ph, H, T, N, new⟩, v, A, A2, ab, eb⟩ ++ b :: cs)) w := by
  have hA := hJ.A
  have hA2 := hJ.A2
  have hT : T < s.q.B.length := hJ.T
  have hnew : new < s.q.B.length := hJ.new
  have hH : H < s.q.B.length := hJ.H
  have hn : N.getD 0 < s.q.B.length := hJ.n
  have hp := hJ.ph
  simp only at hp
  have hab : ∀ r, QR qb s r → r ≠ ab := fun r hr e => hdis r (.inl e) hr
  have heb : ∀ r, QR qb s r → r ≠ eb := fun r hr e => hdis r (.inr ⟨rfl, e⟩) hr
  obtain ⟨he, hne⟩ := hc.2 rfl
  have hph : ph = 1 ∨ ph = 2 := by
    simp only [if_true] at hp
    omega
  rcases hph with rfl | rfl
  · refine emp_1 (K := stK) (h0 := s.bk s.q.hd) (hs.boxP hs.hd) hs.hc hA fun A' hA' => .stop fun d => q_live (rc' := ⟨3, 2, s.q.hd, T, N, new⟩) (A' := A') hs rfl rfl rfl ⟨hs.hd, hT, hn, hnew, .inr (.inr rfl), ⟨by simp, by simp⟩, hA', hA2⟩ hc hdis (fun r _ => rfl) d
  · cases e : s.q.nx H with
    | none =>
      refine emp_2 (K := stK) (h0 := s.bk H) (nx := none) (.inl rfl) ((hs.nc hH).trans (by rw [e]; rfl)) hA ?_
      refine do_emp1t hc.1 (fun k => not_heldB (hF ab (.inr (.inl rfl))) k) he hne (fun k => not_heldB (hF eb (.inr (.inr ⟨rfl, rfl⟩))) k) hA2 (.stop fun d => q_ans (an := (true, 1)) (q' := s.q) (hs.same fun r hr => (ansW_same (hab r hr)).trans (heap_setCell_ne _ _ _ (heb r hr))) rfl (by simp [RQ.step, RQ.emp, e]) d)
    | some n =>
      have hnl := hs.nxlt e
      refine emp_2 (K := stK) (h0 := s.bk H) (nx := some ⟨s.bk n, 0, none⟩) (hs.boxP hnl) ((hs.nc hH).trans (by rw [e]; rfl)) hA ?_
      refine do_emp1f hc.1 (fun k => not_heldB (hF ab (.inr (.inl rfl))) k) he hne hA2 (.stop fun d => q_ans (an := (true, 0)) (q' := s.q) (hs.same fun r hr => ansW_same (hab r hr)) rfl (by simp [RQ.step, RQ.emp, e]) d)
end Go.Proofs.Ytcejbandeikdjaa
namespace Go.Proofs.Ytcejbandeikdjaa
open Go Go.Conc Go.RowKit Go.Proofs
variable {F : Fz} {w w' : World} {qb st : Nat}
theorem plain_base {f : FuncId} (h : ∃ fn, Try.prog.funcs[f]? = some fn) (A : Array Value) (k : List Item) : Plain ((Go.Conc.base f).at ⟨A, []⟩ k) := ⟨rfl, rfl, h⟩
theorem size2 (w : World) (a b : Obj) : ((w.alloc a).alloc b).heap.size = w.heap.size + 2 := by simp
theorem old2 (w : World) (a b : Obj) {r : Nat} (h : r < w.heap.size) : ((w.alloc a).alloc b).heap[r]? = w.heap[r]? := by
  rw [heap_alloc_lt _ _ (by simp; omega), heap_alloc_lt _ _ h]
theorem new2 (w : World) (a : Obj) (c : Array Value) (t : TypeId) : ((w.alloc a).alloc (.cells c t)).heap[w.heap.size + 1]? = some (.cells c t (0, 0)) := by
  have := heap_alloc_new (w.alloc a) (.cells c t)
  simpa using this
theorem beg_put {s : QS} {i : Nat} {a b0 c0 : Int} (hs : QU qb s w) (hwf : Wf F w) (b : Frame) (cs : List Frame) :
    Own Try.prog false F ((QLay qb).Out st s (fun _ => False) ((QLay qb).beg s i ⟨1, a, b0, c0⟩) w (b :: cs)) (G (Frame.enter Try.prog 38 #[.pointer (some ⟨qb, 0, none⟩), stepperV st, .int .i64 i, .agg #[.int .i64 1, .int .i64 a, .int .i64 b0, .int .i64 c0]] .normal) (b :: cs)) w := by
  refine do_put0 (wf_under hwf) (Nat.le_refl _) fun A2 hA2 => ?_
  have e1 : ∀ r, r < w.heap.size → ((w.alloc (.cells #[.int .i64 1, .int .i64 a, .int .i64 b0, .int .i64 c0] 44)).alloc (.cells #[.bool false, .int .i64 0, .slice none 0 0] 46)).heap[r]? = w.heap[r]? := fun r hr => old2 _ _ _ hr
  have e2 := new2 w (.cells #[.int .i64 1, .int .i64 a, .int .i64 b0, .int .i64 c0] 44) #[.bool false, .int .i64 0, .slice none 0 0] 46
  have e3 := size2 w (.cells #[.int .i64 1, .int .i64 a, .int .i64 b0, .int .i64 c0] 44) (.cells #[.bool false, .int .i64 0, .slice none 0 0] 46)
  generalize (w.alloc (.cells #[.int .i64 1, .int .i64 a, .int .i64 b0, .int .i64 c0] 44)).alloc (.cells #[.bool false, .int .i64 0, .slice none 0 0] 46) = W at e1 e2 e3 ⊢
  have hW : QU qb s W := hs.same fun r hr => e1 r (hs.low hr)
  have hnw := hW.new a
  have hlen := hs.len
  have hpos : 0 < s.q.B.length := Nat.lt_of_le_of_lt (Nat.zero_le _) hs.hd
  have hold : ∀ k, k < s.q.B.length → QS.bk ⟨{ s.q with B := s.q.B ++ [(a, none)] }, s.bl ++ [W.heap.size]⟩ k = s.bk k := fun k hk => bk_app (by omega)
  have hbn : QS.bk ⟨{ s.q with B := s.q.B ++ [(a, none)] }, s.bl ++ [W.heap.size]⟩ s.q.B.length = W.heap.size := by
    simp [QS.bk, List.getD_eq_getElem?_getD, ← hlen]
  have hqr : ∀ r, QR qb ⟨{ s.q with B := s.q.B ++ [(a, none)] }, s.bl ++ [W.heap.size]⟩ r → QR qb s r ∨ r = W.heap.size := by
    rintro r (h | ⟨k, hk, h⟩)
    · exact .inl (.inl h)
    · simp only [List.length_append, List.length_cons, List.length_nil] at hk
      by_cases e : k < s.q.B.length
      · exact .inl (.inr ⟨k, e, by rw [← hold k e]; exact h⟩)
      · obtain rfl : k = s.q.B.length := by omega
        exact .inr (by rw [h, hbn])
  have hans : Ans (W.alloc (.cells #[.int .i64 a, .pointer none] 106)) (w.heap.size + 1) := ⟨⟨_, _, _, (heap_alloc_lt _ _ (by omega)).trans e2⟩⟩
  refine put_0 (K := stK) (wf_under hwf) (by omega) (hW.boxP hW.hd) hW.hc fun A hA => .stop fun d => ?_
  refine ⟨⟨{ s.q with B := s.q.B ++ [(a, none)] }, s.bl ++ [W.heap.size]⟩, .inl ⟨⟨1, 1, 0, 0, some 0, s.q.B.length⟩, a, A, A2, w.heap.size + 1, 0⟩, ⟨⟨by simp, hold⟩, by simp [RQ.begin, absR]⟩, hnw.same fun _ _ => rfl, ?_, ⟨?_, ?_, ?_, ?_, .inl rfl, ⟨by simp, by simp⟩, ?_, hA2⟩, ⟨ans_same hans rfl, fun h => by simp at h⟩, ?_, ?_, rfl⟩
  · intro r hr
    rcases hqr r hr with h | h
    · exact .inl h
    · exact .inr (.inr (by omega))
  · simp only [List.length_append]; omega
  · simp only [List.length_append]; omega
  · simp only [List.length_append, RC.n, Option.getD_some]; omega
  · simp only [List.length_append, List.length_cons, List.length_nil]; omega
  · show Slots 51 A [(0, .pointer (some ⟨qb, 0, none⟩)), (1, stepperV st), (2, .int .i64 a), (6, .pointer (some ⟨QS.bk ⟨{ s.q with B := s.q.B ++ [(a, none)] }, s.bl ++ [W.heap.size]⟩ s.q.B.length, 0, none⟩))]
    rw [hbn]
    exact hA
  · rintro r (h | ⟨h, _⟩)
    · exact .inr (by simp only at h; omega)
    · simp at h
  · rintro r (h | ⟨h, _⟩) h2
    · simp only at h
      rcases hqr r h2 with h3 | h3
      · have := hs.low h3; omega
      · omega
    · simp at h
theorem beg_take {s : QS} {i : Nat} {a b0 c0 : Int} (hs : QU qb s w) (hwf : Wf F w) (b : Frame) (cs : List Frame) :
    Own Try.prog false F ((QLay qb).Out st s (fun _ => False) ((QLay qb).beg s i ⟨2, a, b0, c0⟩) w (b :: cs)) (G (Frame.enter Try.prog 38 #[.pointer (some ⟨qb, 0, none⟩), stepperV st, .int .i64 i, .agg #[.int .i64 2, .int .i64 a, .int .i64 b0, .int .i64 c0]] .normal) (b :: cs)) w := by
  refine do_take0 (wf_under hwf) (Nat.le_refl _) fun A2 hA2 => ?_
  have e1 : ∀ r, r < w.heap.size → ((w.alloc (.cells #[.int .i64 2, .int .i64 a, .int .i64 b0, .int .i64 c0] 44)).alloc (.cells #[.bool false, .int .i64 0, .slice none 0 0] 46)).heap[r]? = w.heap[r]? := fun r hr => old2 _ _ _ hr
  have e2 := new2 w (.cells #[.int .i64 2, .int .i64 a, .int .i64 b0, .int .i64 c0] 44) #[.bool false, .int .i64 0, .slice none 0 0] 46
  have e3 := size2 w (.cells #[.int .i64 2, .int .i64 a, .int .i64 b0, .int .i64 c0] 44) (.cells #[.bool false, .int .i64 0, .slice none 0 0] 46)
  generalize (w.alloc (.cells #[.int .i64 2, .int .i64 a, .int .i64 b0, .int .i64 c0] 44)).alloc (.cells #[.bool false, .int .i64 0, .slice none 0 0] 46) = W at e1 e2 e3 ⊢
  have hW : QU qb s W := hs.same fun r hr => e1 r (hs.low hr)
  have hpos : 0 < s.q.B.length := Nat.lt_of_le_of_lt (Nat.zero_le _) hs.hd
  refine tak_0 (K := stK) (hW.boxP hW.hd) hW.hc fun A hA => .stop fun d => ?_
  refine ⟨s, .inl ⟨⟨2, 1, 0, 0, some 0, 0⟩, 0, A, A2, w.heap.size + 1, 0⟩, ⟨⟨Nat.le_refl _, fun k _ => rfl⟩, by simp [RQ.begin, absR]⟩, hW.same fun _ _ => rfl, fun r hr => .inl hr, ⟨hpos, hpos, hpos, hpos, .inr (.inl rfl), ⟨by simp, by simp⟩, hA, hA2⟩, ⟨⟨⟨_, _, _, e2⟩⟩, fun h => by simp at h⟩, ?_, ?_, rfl⟩
  · rintro r (h | ⟨h, _⟩)
    · exact .inr (by simp only at h; omega)
    · simp at h
  · rintro r (h | ⟨h, _⟩) h2
    · simp only at h
      have := hs.low h2; omega
    · simp at h
theorem beg_emp {s : QS} {i : Nat} {a b0 c0 : Int} (hs : QU qb s w) (hwf : Wf F w) (b : Frame) (cs : List Frame) :
    Own Try.prog false F ((QLay qb).Out st s (fun _ => False) ((QLay qb).beg s i ⟨3, a, b0, c0⟩) w (b :: cs)) (G (Frame.enter Try.prog 38 #[.pointer (some ⟨qb, 0, none⟩), stepperV st, .int .i64 i, .agg #[.int .i64 3, .int .i64 a, .int .i64 b0, .int .i64 c0]] .normal) (b :: cs)) w := by
  refine do_emp0 (wf_under hwf) (Nat.le_refl _) fun A2 hA2 => ?_
  have e1 : ∀ r, r < w.heap.size → ((w.alloc (.cells #[.int .i64 3, .int .i64 a, .int .i64 b0, .int .i64 c0] 44)).alloc (.cells #[.bool false, .int .i64 0, .slice none 0 0] 46)).heap[r]? = w.heap[r]? := fun r hr => old2 _ _ _ hr
  have e2 := new2 w (.cells #[.int .i64 3, .int .i64 a, .int .i64 b0, .int .i64 c0] 44) #[.bool false, .int .i64 0, .slice none 0 0] 46
  have e3 := size2 w (.cells #[.int .i64 3, .int .i64 a, .int .i64 b0, .int .i64 c0] 44) (.cells #[.bool false, .int .i64 0, .slice none 0 0] 46)
  generalize (w.alloc (.cells #[.int .i64 3, .int .i64 a, .int .i64 b0, .int .i64 c0] 44)).alloc (.cells #[.bool false, .int .i64 0, .slice none 0 0] 46) = W at e1 e2 e3 ⊢
  have e4 := heap_alloc_new W (.cells #[.bool true, .int .i64 0, .slice none 0 0] 46)
  have e5 : ∀ r, r < W.heap.size → (W.alloc (.cells #[.bool true, .int .i64 0, .slice none 0 0] 46)).heap[r]? = W.heap[r]? := fun r hr => heap_alloc_lt _ _ hr
  generalize W.alloc (.cells #[.bool true, .int .i64 0, .slice none 0 0] 46) = V at e4 e5 ⊢
  have hV : QU qb s V := hs.same fun r hr => (e5 r (by have := hs.low hr; omega)).trans (e1 r (hs.low hr))
  have hpos : 0 < s.q.B.length := Nat.lt_of_le_of_lt (Nat.zero_le _) hs.hd
  have hans : Ans V (w.heap.size + 1) := ⟨⟨_, _, _, (e5 _ (by omega)).trans e2⟩⟩
  refine emp_0 (K := stK) (hV.boxP hV.hd) hV.hc fun A hA => .stop fun d => ?_
  refine ⟨s, .inl ⟨⟨3, 1, 0, 0, some 0, 0⟩, 0, A, A2, w.heap.size + 1, w.heap.size + 2⟩, ⟨⟨Nat.le_refl _, fun k _ => rfl⟩, by simp [RQ.begin, absR]⟩, hV.same fun _ _ => rfl, fun r hr => .inl hr, ⟨hpos, hpos, hpos, hpos, .inr (.inr rfl), ⟨by simp, by simp⟩, hA, hA2⟩, ⟨ans_same hans rfl, fun _ => ⟨?_, by simp⟩⟩, ?_, ?_, rfl⟩
  · rw [e3] at e4
    exact e4
  · rintro r (h | ⟨_, h⟩)
    · exact .inr (by simp only at h; omega)
    · exact .inr (by simp only at h; omega)
  · rintro r (h | ⟨_, h⟩) h2
    · simp only at h
      have := hs.low h2; omega
    · simp only at h
      have := hs.low h2; omega
theorem beg_other {s : QS} {i : Nat} {kd a b0 c0 : Int} (h1 : kd ≠ 1) (h2 : kd ≠ 2) (h3 : kd ≠ 3) (hs : QU qb s w) (hwf : Wf F w) (b : Frame) (cs : List Frame) :
    Own Try.prog false F ((QLay qb).Out st s (fun _ => False) ((QLay qb).beg s i ⟨kd, a, b0, c0⟩) w (b :: cs)) (G (Frame.enter Try.prog 38 #[.pointer (some ⟨qb, 0, none⟩), stepperV st, .int .i64 i, .agg #[.int .i64 kd, .int .i64 a, .int .i64 b0, .int .i64 c0]] .normal) (b :: cs)) w := by
  refine do_other (wf_under hwf) (Nat.le_refl _) (by simpa using h1) (by simpa using h2) (by simpa using h3) (.stop fun d => ?_)
  refine ⟨s, .inr (false, 0), ⟨⟨Nat.le_refl _, fun k _ => rfl⟩, by simp [RQ.begin, absR, h1, h2, h3]⟩, hs.same fun r hr => ?_, fun r hr => .inl hr, trivial, fun q h => h.elim, fun q h => h.elim, rfl⟩
  have hlt := hs.low hr
  exact (ansW_same (by omega)).trans (old2 _ _ _ hlt)
theorem qlay_ok (qb : Nat) : (QLay qb).Ok where
  call := callable38
  jb := fun st s s' c i o r h hb => h.ext hb.1
  js := fun st s s' c c1 r h hb => h.ext hb.1
  plain := by
    intro st c
    refine ⟨by simp [QLay], fun u hu => ?_⟩
    have hu : u ∈ stepFr stK ⟨st, 0, none⟩ :: c.fr := hu
    rcases List.mem_cons.1 hu with rfl | hu
    · exact plain_base ⟨_, Try.func53⟩ _ _
    · unfold QC.fr at hu
      split at hu <;>
      · rcases List.mem_cons.1 hu with rfl | hu
        · first
            | exact plain_base ⟨_, Try.func25⟩ _ _
            | exact plain_base ⟨_, Try.func26⟩ _ _
            | exact plain_base ⟨_, Try.func27⟩ _ _
        · rw [List.mem_singleton] at hu
          subst hu
          exact plain_base ⟨_, Try.func38⟩ _ _
  sS := fun s w w' h _ hs => QU.same h hs
  sC := fun c w w' h _ hs => QCU.same h hs
  sA := fun _ _ _ _ _ _ => trivial
  lS := fun s w r h hr => QU.low h hr
  lC := by
    rintro c w r h (rfl | ⟨hk, rfl⟩)
    · obtain ⟨_, _, _, h1⟩ := h.1.o
      exact (Array.getElem?_eq_some_iff.1 h1).1
    · exact (Array.getElem?_eq_some_iff.1 (h.2 hk).1).1
  lA := fun _ _ _ _ h => h.elim
  beg := by
    intro s i o st F w c cs hs hwf hF
    obtain ⟨kd, a, b0, c0⟩ := o
    by_cases h1 : kd = 1
    · subst h1
      exact beg_put hs hwf c cs
    · by_cases h2 : kd = 2
      · subst h2
        exact beg_take hs hwf c cs
      · by_cases h3 : kd = 3
        · subst h3
          exact beg_emp hs hwf c cs
        · exact beg_other h1 h2 h3 hs hwf c cs
  stp := by
    intro s c st F w b cs hJ hs hc hdis hwf hF
    obtain ⟨⟨kd, ph, H, T, N, new⟩, v, A, A2, ab, eb⟩ := c
    have hkd : kd = 1 ∨ kd = 2 ∨ kd = 3 := QJ.kd hJ
    rcases hkd with rfl | rfl | rfl
    · exact stp_put hJ hs hc hdis hF b cs
    · exact stp_take hJ hs hc hdis hF b cs
    · exact stp_emp hJ hs hc hdis hF b cs
end Go.Proofs.Ytcejbandeikdjaa
namespace Go.Proofs.Ytcejbandeikdjaa
open Go Go.Conc Go.RowKit Go.Proofs
variable {qb : Nat} {p : Par} {g : Gate}
def absT (t : Thr (QLay qb)) : RT := ⟨t.k, t.call.map fun c => QC.c c.1, t.ans⟩
def absX (x : OX (QLay qb)) : PS := ⟨QS.q x.s, fun j => absT (x.th j)⟩
theorem adv_abs {i : Nat} {a b : (QLay qb).S × Thr (QLay qb)} (h : Adv (QLay qb) p i a b) : a.2.call = none → (QS.q b.1, absT b.2) = advL ((p.ops i).drop a.2.k) (QS.q a.1) (absT a.2) := by
  induction h with
  | done h1 h2 =>
    intro _
    rw [h2, List.drop_length]
    rfl
  | @live s s' t o c A ab ho hb =>
    intro hc
    obtain ⟨hlt, e⟩ := List.getElem?_eq_some_iff.1 ho
    have hb2 : (QS.q s', (Sum.inl (QC.c c) : RR)) = (QS.q s).begin o := hb.2
    show _ = advL ((p.ops i).drop t.k) (QS.q s) (absT t)
    rw [List.drop_eq_getElem_cons hlt, e]
    simp only [advL]
    rw [← hb2]
    rfl
  | @imm s s' t o an row y ho hb _ ih =>
    intro hc
    obtain ⟨hlt, e⟩ := List.getElem?_eq_some_iff.1 ho
    have hb2 : (QS.q s', (Sum.inr an : RR)) = (QS.q s).begin o := hb.2
    show _ = advL ((p.ops i).drop t.k) (QS.q s) (absT t)
    rw [List.drop_eq_getElem_cons hlt, e]
    simp only [advL]
    rw [← hb2]
    exact ih rfl
theorem stp_abs {i : Nat} {a b : (QLay qb).S × Thr (QLay qb)} (h : Stp (QLay qb) p i a b) : (QS.q b.1, absT b.2) = stpF (p.ops i) (QS.q a.1) (absT a.2) := by
  cases h with
  | @live s s' t c c' A ab hc hb =>
    have hb2 : (QS.q s', (Sum.inl (QC.c c') : RR)) = (QS.q s).step (QC.c c) := hb.2
    have e : (absT t).call = some (QC.c c) := by simp [absT, hc]
    show _ = stpF (p.ops i) (QS.q s) (absT t)
    simp only [stpF, e]
    rw [← hb2]
    rfl
  | @ans s s' t c A ab an row y hc hb ha =>
    have hb2 : (QS.q s', (Sum.inr an : RR)) = (QS.q s).step (QC.c c) := hb.2
    have e : (absT t).call = some (QC.c c) := by simp [absT, hc]
    show _ = stpF (p.ops i) (QS.q s) (absT t)
    simp only [stpF, e]
    rw [← hb2]
    exact adv_abs ha rfl
noncomputable abbrev QUs (qb : Nat) (p : Par) (g : Gate) : Users := opsUsers (QLay qb) p g
theorem put_abs {x y : OX (QLay qb)} {i : Nat} {r : RQ × RT} (hr : (QS.q y.s, absT (y.th i)) = r) (h : ∀ j, j ≠ i → y.th j = x.th j) : absX y = (absX x).put i r := by
  subst hr
  simp only [absX, PS.put, PS.mk.injEq, true_and]
  funext j
  by_cases e : j = i
  · rw [if_pos e, e]
  · rw [if_neg e, h j e]
theorem liv_abs (x : OX (QLay qb)) (j : Nat) : (QUs qb p g).liv x j = (absX x).live j := by
  show (x.th j).call.isSome = ((x.th j).call.map _).isSome
  rw [Option.isSome_map]
theorem born_abs {x y : OX (QLay qb)} {i : Nat} (hn : (QUs qb p g).nw x i) (h : (QUs qb p g).bor x i y) : absX y = (absX x).put i (advL (p.ops i) (absX x).q ((absX x).th i)) := by
  refine put_abs ?_ h.2
  have h1 := adv_abs h.1 hn.1
  have h2 : (x.th i).k = 0 := hn.2
  rw [show (x.s, x.th i).2.k = 0 from h2, List.drop_zero] at h1
  exact h1
theorem borns_abs (zok : (QUs qb p g).Ok g) : ∀ (i : Nat) (x y : OX (QLay qb)), (∀ j, j < i → (QUs qb p g).nw x j) → Borns (QUs qb p g) i x y → absX y = pBorns p.ops i (absX x)
  | 0, x, y, _, h => by
    have h : y = x := h
    rw [h]; rfl
  | i + 1, x, z, hn, ⟨y, h1, h2⟩ => by
    have e := borns_abs zok i x y (fun j hj => hn j (by omega)) h1
    have hny : (QUs qb p g).nw y i := borns_nw zok i x y h1 i (Nat.le_refl i) (hn i (by omega))
    simp only [pBorns]
    rw [← e]
    exact born_abs hny h2
theorem turn_abs {n M : Nat} {s t : OX (QLay qb) × List Nat} {i : Int} (h : Turn (QUs qb p g) n M s i t) : (absX t.1, t.2) = pTurn p.ops n M (absX s.1, s.2) i := by
  unfold Turn at h
  unfold pTurn
  simp only [← liv_abs (p := p) (g := g)]
  split at h
  · rename_i hc
    rw [if_pos hc]
    obtain ⟨h1, h2⟩ := h
    refine Prod.ext ?_ h2
    exact put_abs (stp_abs h1.1) h1.2
  · rename_i hc
    rw [if_neg hc, h]
theorem turns_abs {n M : Nat} : ∀ (l : List Int) (s t : OX (QLay qb) × List Nat), Turns (QUs qb p g) n M l s t → (absX t.1, t.2) = pTurns p.ops n M l (absX s.1, s.2)
  | [], s, t, h => by
    have h : t = s := h
    rw [h]; rfl
  | i :: l, s, t, ⟨u, h1, h2⟩ => by
    simp only [pTurns]
    rw [← turn_abs h1]
    exact turns_abs l u t h2
theorem cnt_abs (x : OX (QLay qb)) (n : Nat) : cnt ((QUs qb p g).liv x) n = cnt (absX x).live n := cnt_congr fun j _ => liv_abs x j
theorem rounds_gen {Z : Users} {ops : Nat → List Op4} {n M : Nat} (ab : Z.X → PS) (hl : ∀ x j, Z.liv x j = (ab x).live j) (ht : ∀ l s t, Turns Z n M l s t → (ab t.1, t.2) = pTurns ops n M l (ab s.1, s.2)) {s t : Z.X × List Nat} (h : Rounds Z n M s t) : pDone n M (ab t.1, t.2) ∧ ∃ k, ∀ f, k ≤ f → pRounds ops n M f (ab s.1, s.2) = (ab t.1, t.2) := by
  have hc : ∀ x, cnt (Z.liv x) n = cnt (ab x).live n := fun x => cnt_congr fun j _ => hl x j
  induction h with
  | done h =>
    rw [hc] at h
    have h : pDone n M (ab _, _) := h
    exact ⟨h, 0, fun f _ => pRounds_done h f⟩
  | more h1 h2 h3 _ ih =>
    obtain ⟨hd, k, hk⟩ := ih
    refine ⟨hd, k + 1, fun f hf => ?_⟩
    obtain ⟨f, rfl⟩ : ∃ e, f = e + 1 := ⟨f - 1, by omega⟩
    rw [hc] at h1
    simp only [pRounds]
    rw [if_neg (fun h => h.elim (fun h => by simp only at h; omega) fun h => by simp only at h; omega), ← ht _ _ _ h3]
    exact hk f (by omega)
theorem rounds_abs {n M : Nat} {s t : OX (QLay qb) × List Nat} (h : Rounds (QUs qb p g) n M s t) : pDone n M (absX t.1, t.2) ∧ ∃ k, ∀ f, k ≤ f → pRounds p.ops n M f (absX s.1, s.2) = (absX t.1, t.2) :=
  rounds_gen (Z := QUs qb p g) absX liv_abs turns_abs h
theorem over_abs (zok : (QUs qb p g).Ok g) {n M : Nat} {S : List Int} {x0 : OX (QLay qb)} (hnw : ∀ j, j < n → (QUs qb p g).nw x0 j) {t : OX (QLay qb) × List Nat} (h : OverRel (QUs qb p g) n M S x0 t) : pDone n M (absX t.1, t.2) ∧ ∃ k, ∀ f, k ≤ f → pOver p.ops n M S f (absX x0) = (absX t.1, t.2) := by
  obtain ⟨x1, h1, s, h2, h3⟩ := h
  obtain ⟨hd, k, hk⟩ := rounds_abs h3
  refine ⟨hd, k, fun f hf => ?_⟩
  rw [← hk f hf, turns_abs _ _ _ h2, borns_abs zok n x0 x1 hnw h1]
  rfl
end Go.Proofs.Ytcejbandeikdjaa
namespace Go.Proofs.Ytcejbandeikdjaa
open Go Go.Conc Go.RowKit Go.Proofs
variable {F : Fz} {w : World}
noncomputable def diBody : Code := Try.f61.body.getD .skip
noncomputable def dis0 : Code := Code.piece [] diBody
noncomputable def dir0 : Code := Code.piece [true] diBody
noncomputable def dio0 : Array Oper := Code.opsOf dir0
noncomputable def dis1 : Code := Code.piece [false] diBody
noncomputable def dir1 : Code := Code.piece [false, true] diBody
noncomputable def dio1 : Array Oper := Code.opsOf dir1
noncomputable def dis2 : Code := Code.piece [false, false] diBody
noncomputable def dir2 : Code := Code.piece [false, false, true] diBody
noncomputable def dio2 : Array Oper := Code.opsOf dir2
noncomputable def dis3 : Code := Code.piece [false, false, false] diBody
noncomputable def dir3 : Code := Code.piece [false, false, false, true] diBody
noncomputable def dio3 : Array Oper := Code.opsOf dir3
noncomputable def dis4 : Code := Code.piece [false, false, false, false] diBody
noncomputable def dis5 : Code := Code.piece [false, false, false, false, true] diBody
noncomputable def dir4 : Code := Code.piece [false, false, false, false, true, true] diBody
noncomputable def dio4 : Array Oper := Code.opsOf dir4
noncomputable def dib0 : Code := Code.piece [false, false, false, false, true, false] diBody
noncomputable def dil6 : Code := Code.piece [false, false, false, false, true, false, true] diBody
noncomputable def dis7 : Code := Code.piece [false, false, false, false, true, false, true, true] diBody
noncomputable def dir5 : Code := Code.piece [false, false, false, false, true, false, true, true, true] diBody
noncomputable def dio5 : Array Oper := Code.opsOf dir5
noncomputable def dis8 : Code := Code.piece [false, false, false, false, true, false, true, true, false] diBody
noncomputable def dic18 : Code := Code.piece [false, false, false, false, true, false, true, true, false, true] diBody
noncomputable def dis9 : Code := Code.piece [false, false, false, false, true, false, true, true, false, false] diBody
noncomputable def dib1 : Code := Code.piece [false, false, false, false, true, false, true, true, false, false, true] diBody
noncomputable def dis10 : Code := Code.piece [false, false, false, false, true, false, true, true, false, false, true, true] diBody
noncomputable def dir6 : Code := Code.piece [false, false, false, false, true, false, true, true, false, false, true, true, true] diBody
noncomputable def dio6 : Array Oper := Code.opsOf dir6
noncomputable def dis11 : Code := Code.piece [false, false, false, false, true, false, true, true, false, false, true, true, false] diBody
noncomputable def dir7 : Code := Code.piece [false, false, false, false, true, false, true, true, false, false, true, true, false, true] diBody
noncomputable def dio7 : Array Oper := Code.opsOf dir7
noncomputable def dir8 : Code := Code.piece [false, false, false, false, true, false, true, true, false, false, true, true, false, false] diBody
noncomputable def dio8 : Array Oper := Code.opsOf dir8
noncomputable def dir9 : Code := Code.piece [false, false, false, false, true, false, true, true, false, false, false] diBody
noncomputable def dio9 : Array Oper := Code.opsOf dir9
noncomputable def dis12 : Code := Code.piece [false, false, false, false, false] diBody
noncomputable def dir10 : Code := Code.piece [false, false, false, false, false, true] diBody
noncomputable def dio10 : Array Oper := Code.opsOf dir10
theorem dis0_eq : dis0 = .seq dir0 dis1 := by kernel_rfl
theorem dir0_eq : dir0 = .region 0 dio0 false := by kernel_rfl
theorem dis1_eq : dis1 = .seq dir1 dis2 := by kernel_rfl
theorem dir1_eq : dir1 = .region 1 dio1 false := by kernel_rfl
theorem dis2_eq : dis2 = .seq dir2 dis3 := by kernel_rfl
theorem dir2_eq : dir2 = .region 2 dio2 false := by kernel_rfl
theorem dis3_eq : dis3 = .seq dir3 dis4 := by kernel_rfl
theorem dir3_eq : dir3 = .region 3 dio3 false := by kernel_rfl
theorem dis4_eq : dis4 = .seq dis5 dis12 := by kernel_rfl
theorem dis5_eq : dis5 = .seq dir4 dib0 := by kernel_rfl
theorem dir4_eq : dir4 = .region 4 dio4 false := by kernel_rfl
theorem dib0_eq : dib0 = .block 0 dil6 := by kernel_rfl
theorem dil6_eq : dil6 = .loop dis7 := by kernel_rfl
theorem dis7_eq : dis7 = .seq dir5 dis8 := by kernel_rfl
theorem dir5_eq : dir5 = .region 5 dio5 false := by kernel_rfl
theorem dis8_eq : dis8 = .seq dic18 dis9 := by kernel_rfl
theorem dic18_eq : dic18 = .cond (.tmp 18) .skip (.exit 0) := by kernel_rfl
theorem dis9_eq : dis9 = .seq dib1 dir9 := by kernel_rfl
theorem dib1_eq : dib1 = .block 1 dis10 := by kernel_rfl
theorem dis10_eq : dis10 = .seq dir6 dis11 := by kernel_rfl
theorem dir6_eq : dir6 = .region 6 dio6 false := by kernel_rfl
theorem dis11_eq : dis11 = .seq dir7 dir8 := by kernel_rfl
theorem dir7_eq : dir7 = .region 7 dio7 true := by kernel_rfl
theorem dir8_eq : dir8 = .region 8 dio8 false := by kernel_rfl
theorem dir9_eq : dir9 = .region 9 dio9 false := by kernel_rfl
theorem dis12_eq : dis12 = .seq dir10 .ret := by kernel_rfl
theorem dir10_eq : dir10 = .region 10 dio10 true := by kernel_rfl
theorem enter_di (args : Array Value) : Frame.enter Try.prog 61 args .normal = (Go.Conc.base 61).at { tmps := args ++ Array.replicate (38 - args.size) undef, defers := [] } [.code dis0] := enter_at args Try.func61 rfl
theorem callable61 : Callable 61 := callable Try.func61 rfl rfl
def diT (s : Nat → Value) : Array Value := #[s 0, s 1, s 2, s 3, s 4, s 5, s 6, s 7, s 8, s 9, s 10, s 11, s 12, s 13, s 14, s 15, s 16, s 17, s 18, s 19, s 20, s 21, s 22, s 23, s 24, s 25, s 26, s 27, s 28, s 29, s 30, s 31, s 32, s 33, s 34, s 35, s 36, s 37]
theorem diT_of {A : Array Value} (h : A.size = 38) : ∃ s, A = diT s := by
  obtain ⟨s, hs, _⟩ := arr_lit A h
  exact ⟨s, hs⟩
theorem info84 : ∃ i, Try.prog.info? 84 = some i ∧ i.zero = some (.slice none 0 0) ∧ i.size = 1 ∧ i.bytes = 24 := by
  have h : (Try.prog.info? 84).map (fun i => (i.size, i.bytes)) = some (1, 24) := by kernel_rfl
  have h0 : (Try.prog.info? 84).bind (·.zero) = some (.slice none 0 0) := by kernel_rfl
  obtain ⟨i, hi, h1⟩ := Option.map_eq_some_iff.1 h
  rw [hi] at h0
  simp only [Prod.mk.injEq] at h1
  exact ⟨i, hi, h0, h1.1, h1.2⟩
section
variable {n : Nat} {es : Array Event}
@[go_sem] theorem mkSlice27 (h : n ≤ 64) : (Instr.makeSlice 27 (.int .i64 n) (.int .i64 n)).run Try.prog w = .ok (.slice (some ⟨w.heap.size, 0, none⟩) n n) (w.alloc (.cells (madeCells #[.slice none 0 0] n) 84)) := by
  obtain ⟨i, hi, hz, hs, hb⟩ := info84
  have := run_make (P := Try.prog) w 27 84 i (.slice none 0 0) Try.underlying27 hi hz .i64 .i64 n n (by omega) (by omega) (by rw [hb]; omega) (by omega)
  rw [hs] at this
  simpa [Value.cells] using this
@[go_sem] theorem mkSlice27e (h : n ≤ 64) : (Instr.makeSlice 27 (.int .i64 n) (.int .i64 n)).events Try.prog w es = es := by
  obtain ⟨i, hi, hz, hs, hb⟩ := info84
  exact events_make (P := Try.prog) w 27 84 i (.slice none 0 0) Try.underlying27 hi hz .i64 .i64 n n (by omega) (by omega) (by rw [hb]; omega) (by omega) (by rw [hb]; omega) es
end
theorem set_new27 (X : World) (u v : Value) : (X.alloc (.cells #[u] 27)).setCell ⟨X.heap.size, 0, none⟩ v = X.alloc (.cells #[v] 27) := by go_simp
set_option maxRecDepth 100000 in
set_option maxHeartbeats 2000000 in
theorem di_0 {nn : Nat} (hU : Under F nn) (hn : nn ≤ w.heap.size) {ta : Option Addr} {tl tc n df : Nat} {first capt : Array Value} (hn1 : min tl 64 = n) {cs : List Frame} {main : Bool} {Stop : Goroutine → World → Prop}
    (h : ∀ A, Slots 38 A [(0, .slice ta tl tc), (3, .pointer (some ⟨w.heap.size, 0, none⟩)), (6, .int .i64 n)] → Own Try.prog main F Stop (G ((Go.Conc.base 61).at ⟨A, []⟩ [.code dis2]) cs) (w.alloc (.cells #[.func (.func df) first capt] 88))) :
    Own Try.prog main F Stop (G (Frame.enter Try.prog 61 #[.slice ta tl tc, .func (.func df) first capt] .normal) cs) w := by
  have hn2 : (if (64 : Int) < (tl : Int) then (64 : Int) else tl) = (n : Int) := by split <;> omega
  rw [enter_di]
  walk_nrm
  rw [dis0_eq]
  refine ogS ?_
  rw [dir0_eq]
  refine ogR ?_
  simp only [dio0, Code.opsOf, dir0, Code.piece, diBody, Try.f61, Option.getD_some, List.size_toArray, List.length_cons, List.length_nil, Nat.reduceAdd, Nat.zero_add, List.range, List.range.loop]
  (refine oW fun dd K hK => ?_; go_simp; refine qA hK hU ?_; clear hK K)
  (refine oW fun dd K hK => ?_; go_simp; refine qT hK ?_; clear hK K)
  (refine oW fun dd K hK => ?_; go_simp; refine qT hK ?_; clear hK K)
  refine ogE ?_
  rw [dis1_eq]
  refine ogS ?_
  rw [dir1_eq]
  refine ogR ?_
  simp only [dio1, Code.opsOf, dir1, Code.piece, diBody, Try.f61, Option.getD_some, List.size_toArray, List.length_cons, List.length_nil, Nat.reduceAdd, Nat.zero_add, List.range, List.range.loop]
  (refine oW fun dd K hK => ?_; go_simp; refine qT hK ?_; clear hK K)
  (refine oW fun dd K hK => ?_; go_simp; refine qT hK ?_; clear hK K)
  (refine oW fun dd K hK => ?_; go_simp; refine qT hK ?_; clear hK K)
  (refine oW fun dd K hK => ?_; go_simp; refine qT hK ?_; clear hK K)
  refine ogE ?_
  refine h _ ?_
  exact ⟨rfl, rfl, rfl, rfl, trivial⟩
set_option maxRecDepth 100000 in
set_option maxHeartbeats 2000000 in
theorem di_1 {nn : Nat} (hU : Under F nn) (hn : nn ≤ w.heap.size) {ta : Option Addr} {tl tc n db : Nat} (hn64 : n ≤ 64) {A : Array Value} (hA : Slots 38 A [(0, .slice ta tl tc), (3, .pointer (some ⟨db, 0, none⟩)), (6, .int .i64 n)]) {cs : List Frame} {main : Bool} {Stop : Goroutine → World → Prop}
    (h : ∀ A, Slots 38 A [(0, .slice ta tl tc), (3, .pointer (some ⟨db, 0, none⟩)), (6, .int .i64 n), (7, .pointer (some ⟨w.heap.size + 1, 0, none⟩)), (8, .slice none 0 0), (16, .int .i64 n), (17, .int .i64 (0 : Nat))] → Own Try.prog main F Stop (G ((Go.Conc.base 61).at ⟨A, []⟩ [.code dis7, .inLoop dis7, .inBlock 0, .code dis12]) cs) ((w.alloc (.cells (madeCells #[.slice none 0 0] n) 84)).alloc (.cells #[.slice (some ⟨w.heap.size, 0, none⟩) n n] 27))) :
    Own Try.prog main F Stop (G ((Go.Conc.base 61).at ⟨A, []⟩ [.code dis2]) cs) w := by
  obtain ⟨hsz, h0, h3, h6, _⟩ := hA
  obtain ⟨s, rfl⟩ := diT_of hsz
  change s 0 = _ at h0
  change s 3 = _ at h3
  change s 6 = _ at h6
  clear hsz
  simp only [diT, h0, h3, h6]
  clear h0 h3 h6
  rw [dis2_eq]
  refine ogS ?_
  rw [dir2_eq]
  refine ogR ?_
  simp only [dio2, Code.opsOf, dir2, Code.piece, diBody, Try.f61, Option.getD_some, List.size_toArray, List.length_cons, List.length_nil, Nat.reduceAdd, Nat.zero_add, List.range, List.range.loop]
  (refine oW fun dd K hK => ?_; go_simp; refine qT hK ?_; clear hK K)
  (refine oW fun dd K hK => ?_; go_simp; refine hK _ _ ⟨⟨⟨0, grew_alloc hU (by first | (simp [go_sem]; done) | (simp [go_sem]; omega)) _⟩, fun e he => by (have hm := mem_listed he; clear he hK; simp [go_sem, storedEv, mkSlice27e hn64] at hm)⟩, ?_⟩; clear hK K; rw [alloc_at']; refine Own.at ?_ dd)
  (refine oW fun dd K hK => ?_; go_simp; refine qA hK hU ?_; clear hK K)
  (refine oW fun dd K hK => ?_; go_simp; refine qS hK hU ?_; clear hK K)
  have e1 := set_new27 (w.alloc (.cells (madeCells #[.slice none 0 0] n) 84)) (.slice none 0 0) (.slice (some ⟨w.heap.size, 0, none⟩) n n)
  simp only [World.size_alloc] at e1
  rw [e1]
  clear e1
  refine ogE ?_
  rw [dis3_eq]
  refine ogS ?_
  rw [dir3_eq]
  refine ogR ?_
  simp only [dio3, Code.opsOf, dir3, Code.piece, diBody, Try.f61, Option.getD_some, List.size_toArray, List.length_cons, List.length_nil, Nat.reduceAdd, Nat.zero_add, List.range, List.range.loop]
  (refine oW fun dd K hK => ?_; go_simp; refine qT hK ?_; clear hK K)
  refine ogE ?_
  rw [dis4_eq]
  refine ogS ?_
  rw [dis5_eq]
  refine ogS ?_
  rw [dir4_eq]
  refine ogR ?_
  simp only [dio4, Code.opsOf, dir4, Code.piece, diBody, Try.f61, Option.getD_some, List.size_toArray, List.length_cons, List.length_nil, Nat.reduceAdd, Nat.zero_add, List.range, List.range.loop]
  (refine oW fun dd K hK => ?_; go_simp; refine qT hK ?_; clear hK K)
  (refine oW fun dd K hK => ?_; go_simp; refine qT hK ?_; clear hK K)
  refine ogE ?_
  rw [dib0_eq]
  refine ogB ?_
  rw [dil6_eq]
  refine ogP ?_
  refine h _ ?_
  exact ⟨rfl, rfl, rfl, rfl, rfl, rfl, rfl, rfl, trivial⟩
set_option maxRecDepth 100000 in
set_option maxHeartbeats 2000000 in
theorem di_5 {ta : Option Addr} {tl tc n db av : Nat} {l : Value} {A : Array Value} (hA : Slots 38 A [(0, .slice ta tl tc), (3, .pointer (some ⟨db, 0, none⟩)), (6, .int .i64 n), (7, .pointer (some ⟨av, 0, none⟩)), (8, l), (16, .int .i64 n), (17, .int .i64 n)]) {cs : List Frame} {main : Bool} {Stop : Goroutine → World → Prop}
    (h : ∀ A, Slots 38 A [(0, .slice ta tl tc), (3, .pointer (some ⟨db, 0, none⟩)), (6, .int .i64 n), (7, .pointer (some ⟨av, 0, none⟩)), (8, l), (16, .int .i64 n), (17, .int .i64 n)] → Own Try.prog main F Stop (G ((Go.Conc.base 61).at ⟨A, []⟩ [.code dir10, .code .ret]) cs) w) :
    Own Try.prog main F Stop (G ((Go.Conc.base 61).at ⟨A, []⟩ [.code dis7, .inLoop dis7, .inBlock 0, .code dis12]) cs) w := by
  obtain ⟨hsz, h0, h3, h6, h7, h8, h16, h17, _⟩ := hA
  obtain ⟨s, rfl⟩ := diT_of hsz
  change s 0 = _ at h0
  change s 3 = _ at h3
  change s 6 = _ at h6
  change s 7 = _ at h7
  change s 8 = _ at h8
  change s 16 = _ at h16
  change s 17 = _ at h17
  clear hsz
  simp only [diT, h0, h3, h6, h7, h8, h16, h17]
  clear h0 h3 h6 h7 h8 h16 h17
  have hlt : decide ((n : Int) < (n : Int)) = false := by simp
  rw [dis7_eq]
  refine ogS ?_
  rw [dir5_eq]
  refine ogR ?_
  simp only [dio5, Code.opsOf, dir5, Code.piece, diBody, Try.f61, Option.getD_some, List.size_toArray, List.length_cons, List.length_nil, Nat.reduceAdd, Nat.zero_add, List.range, List.range.loop]
  (refine oW fun dd K hK => ?_; go_simp; refine qT hK ?_; clear hK K)
  refine ogE ?_
  rw [dis8_eq]
  refine ogS ?_
  rw [dic18_eq]
  refine ogF ?_
  simp only [Bool.false_eq_true, if_false]
  refine own_go rfl (fun d => stepG_exit rfl) ?_
  rw [dis12_eq]
  refine ogS ?_
  refine h _ ?_
  exact ⟨rfl, rfl, rfl, rfl, rfl, rfl, rfl, rfl, trivial⟩
set_option maxRecDepth 100000 in
set_option maxHeartbeats 2000000 in
theorem di_2 {nn : Nat} (hU : Under F nn) (hn : nn ≤ w.heap.size) {ta : Option Addr} {tl tc n db av k : Nat} {l : Value} (hk : k < n) {A : Array Value} (hA : Slots 38 A [(0, .slice ta tl tc), (3, .pointer (some ⟨db, 0, none⟩)), (6, .int .i64 n), (7, .pointer (some ⟨av, 0, none⟩)), (8, l), (16, .int .i64 n), (17, .int .i64 k)]) {cs : List Frame} {main : Bool} {Stop : Goroutine → World → Prop}
    (h : ∀ A, Slots 38 A ((9, .pointer (some ⟨w.heap.size, 0, none⟩)) :: [(0, .slice ta tl tc), (3, .pointer (some ⟨db, 0, none⟩)), (6, .int .i64 n), (7, .pointer (some ⟨av, 0, none⟩)), (8, l), (16, .int .i64 n), (17, .int .i64 k)]) → Own Try.prog main F Stop (G ((Go.Conc.base 61).at ⟨A, []⟩ [.code dis11, .inBlock 1, .code dir9, .inLoop dis7, .inBlock 0, .code dis12]) cs) (w.alloc (.cells #[.int .i64 k] 3))) :
    Own Try.prog main F Stop (G ((Go.Conc.base 61).at ⟨A, []⟩ [.code dis7, .inLoop dis7, .inBlock 0, .code dis12]) cs) w := by
  obtain ⟨hsz, h0, h3, h6, h7, h8, h16, h17, _⟩ := hA
  obtain ⟨s, rfl⟩ := diT_of hsz
  change s 0 = _ at h0
  change s 3 = _ at h3
  change s 6 = _ at h6
  change s 7 = _ at h7
  change s 8 = _ at h8
  change s 16 = _ at h16
  change s 17 = _ at h17
  clear hsz
  simp only [diT, h0, h3, h6, h7, h8, h16, h17]
  clear h0 h3 h6 h7 h8 h16 h17
  have hlt : decide ((k : Int) < (n : Int)) = true := by simp; omega
  have hlt2 : decide (k < n) = true := by simp; omega
  rw [dis7_eq]
  refine ogS ?_
  rw [dir5_eq]
  refine ogR ?_
  simp only [dio5, Code.opsOf, dir5, Code.piece, diBody, Try.f61, Option.getD_some, List.size_toArray, List.length_cons, List.length_nil, Nat.reduceAdd, Nat.zero_add, List.range, List.range.loop]
  (refine oW fun dd K hK => ?_; go_simp; refine qT hK ?_; clear hK K)
  refine ogE ?_
  rw [dis8_eq]
  refine ogS ?_
  rw [dic18_eq]
  refine ogT ?_
  simp only [if_true]
  refine ogK ?_
  rw [dis9_eq]
  refine ogS ?_
  rw [dib1_eq]
  refine ogB ?_
  rw [dis10_eq]
  refine ogS ?_
  rw [dir6_eq]
  refine ogR ?_
  simp only [dio6, Code.opsOf, dir6, Code.piece, diBody, Try.f61, Option.getD_some, List.size_toArray, List.length_cons, List.length_nil, Nat.reduceAdd, Nat.zero_add, List.range, List.range.loop]
  (refine oW fun dd K hK => ?_; go_simp; refine qT hK ?_; clear hK K)
  (refine oW fun dd K hK => ?_; go_simp; refine qA hK hU ?_; clear hK K)
  (refine oW fun dd K hK => ?_; go_simp; refine qS hK hU ?_; clear hK K)
  rw [set_new]
  refine ogE ?_
  refine h _ ?_
  exact ⟨rfl, rfl, rfl, rfl, rfl, rfl, rfl, rfl, rfl, trivial⟩
end Go.Proofs.Ytcejbandeikdjaa
namespace Go.Proofs.Ytcejbandeikdjaa
open Go Go.Conc Go.RowKit Go.Proofs
variable {F : Fz} {w : World}
structure SD (nn ib tb o k ol oc : Nat) (oa : Option Addr) (u : World) : Prop where
  top : nn ≤ u.heap.size
  il : ib < u.heap.size
  tl : tb < u.heap.size
  ci : u.cell? ⟨ib, 0, none⟩ = some (.int .i64 k)
  zi : u.frozen? ⟨ib, 0, none⟩ = false
  ct : u.cell? ⟨tb, o + k, none⟩ = some (.slice oa ol oc)
  zt : u.frozen? ⟨tb, o + k, none⟩ = false
section
variable {nn ib tb o k ol oc : Nat} {oa : Option Addr} {u : World}
theorem SD.at (h : SD nn ib tb o k ol oc oa u) (d : Nat) : SD nn ib tb o k ol oc oa (u.at d) := ⟨h.top, h.il, h.tl, h.ci, h.zi, h.ct, h.zt⟩
theorem SD.alloc (h : SD nn ib tb o k ol oc oa u) (ob : Obj) : SD nn ib tb o k ol oc oa (u.alloc ob) := by
  have e1 : (u.alloc ob).heap[ib]? = u.heap[ib]? := heap_alloc_lt _ _ h.il
  have e2 : (u.alloc ob).heap[tb]? = u.heap[tb]? := heap_alloc_lt _ _ h.tl
  refine ⟨by simp; have := h.top; omega, by simp; have := h.il; omega, by simp; have := h.tl; omega, ?_, ?_, ?_, ?_⟩
  · rw [← h.ci]; unfold World.cell?; simp only [e1]
  · rw [← h.zi]; unfold World.frozen?; simp only [e1]
  · rw [← h.ct]; unfold World.cell?; simp only [e2]
  · rw [← h.zt]; unfold World.frozen?; simp only [e2]
end
theorem set_new32 (X : World) (u v : Value) : (X.alloc (.cells #[u] 32)).setCell ⟨X.heap.size, 0, none⟩ v = X.alloc (.cells #[v] 32) := by go_simp
theorem info44 : ∃ i, Try.prog.info? 44 = some i ∧ i.size = 4 := by
  have h : (Try.prog.info? 44).map (fun i => i.size) = some 4 := by kernel_rfl
  obtain ⟨i, hi, h1⟩ := Option.map_eq_some_iff.1 h
  exact ⟨i, hi, h1⟩
theorem slice_h {w : World} {a : Option Addr} {ol oc m : Nat} (hmc : m ≤ oc) : (Instr.sliceAt 32 (.slice a ol oc) none (some (.int .i64 m)) none).run Try.prog w = .ok (.slice a m oc) w := by
  obtain ⟨i, hi, hs⟩ := info44
  have hu : Try.prog.underlying 32 = some (.slice 44) := Try.underlying32
  have e : a.map (fun x : Addr => x.add 0) = a := by
    cases a with
    | none => rfl
    | some x => simp [Addr.add]
  have hm : (m : Int) ≤ oc := by omega
  simp [Instr.sliceAt, Instr.slice, run_underlying hu, Instr.sliceBounds, run_sliceBound, sizeOf, typeInfo, hi, hs, hmc, hm, e]
theorem slice_he {w : World} {es : Array Event} {a : Option Addr} {ol oc m : Nat} (hmc : m ≤ oc) : (Instr.sliceAt 32 (.slice a ol oc) none (some (.int .i64 m)) none).events Try.prog w es = es := by
  obtain ⟨i, hi, hs⟩ := info44
  have hu : Try.prog.underlying 32 = some (.slice 44) := Try.underlying32
  have hm : (m : Int) ≤ oc := by omega
  simp [Instr.sliceAt, Instr.slice, run_underlying hu, Instr.sliceBounds, Instr.sliceBound, asIntOf, run_sliceBound, sizeOf, typeInfo, hi, hs, hmc, hm]
set_option maxRecDepth 100000 in
set_option maxHeartbeats 8000000 in
theorem di_3 {nn : Nat} (hU : Under F nn) {tb o tl tc n db av ib k ol oc m : Nat} {oa : Option Addr} {l : Value} (hkt : k < tl) (hm0 : min ol 65536 = m) (hoc : ol ≤ oc) (hs : SD nn ib tb o k ol oc oa w) {A : Array Value} (hA : Slots 38 A ((9, .pointer (some ⟨ib, 0, none⟩)) :: [(0, .slice (some ⟨tb, o, none⟩) tl tc), (3, .pointer (some ⟨db, 0, none⟩)), (6, .int .i64 n), (7, .pointer (some ⟨av, 0, none⟩)), (8, l), (16, .int .i64 n), (17, .int .i64 k)])) {cs : List Frame} {main : Bool} {Stop : Goroutine → World → Prop} {kk : List Item}
    (h : ∀ A, Slots 38 A ((9, .pointer (some ⟨ib, 0, none⟩)) :: (10, .pointer (some ⟨w.heap.size, 0, none⟩)) :: [(0, .slice (some ⟨tb, o, none⟩) tl tc), (3, .pointer (some ⟨db, 0, none⟩)), (6, .int .i64 n), (7, .pointer (some ⟨av, 0, none⟩)), (8, l), (16, .int .i64 n), (17, .int .i64 k)]) → Own Try.prog main F Stop (G ((Go.Conc.base 61).at ⟨A, []⟩ kk) cs) (w.alloc (.cells #[.slice oa m oc] 32))) :
    Own Try.prog main F Stop (G ((Go.Conc.base 61).at ⟨A, []⟩ (.code dir7 :: kk)) cs) w := by
  obtain ⟨hsz, h9, h0, h3, h6, h7, h8, h16, h17, _⟩ := hA
  obtain ⟨s, rfl⟩ := diT_of hsz
  change s 9 = _ at h9
  change s 0 = _ at h0
  change s 3 = _ at h3
  change s 6 = _ at h6
  change s 7 = _ at h7
  change s 8 = _ at h8
  change s 16 = _ at h16
  change s 17 = _ at h17
  clear hsz
  simp only [diT, h9, h0, h3, h6, h7, h8, h16, h17]
  clear h9 h0 h3 h6 h7 h8 h16 h17
  have hmc : m ≤ oc := by omega
  have hm2 : (if (65536 : Int) < (ol : Int) then (65536 : Int) else ol) = (m : Int) := by split <;> omega
  have hS : ∀ u d, SD nn ib tb o k ol oc oa u → SD nn ib tb o k ol oc oa (World.at u d) := fun u d h => h.at d
  rw [dir7_eq]
  refine own_drawnM (SD nn ib tb o k ol oc oa) (last := 12) run_mixed (ll_of (by kernel_rfl)) (by decide) ?_
  simp only [dio7, Code.opsOf, dir7, Code.piece, diBody, Try.f61, Option.getD_some, List.size_toArray, List.length_cons, List.length_nil, Nat.reduceAdd, Nat.zero_add, List.range, List.range.loop]
  have hZ : ∀ a u d, Own Try.prog main F Stop (G ((Go.Conc.base 61).at a (.inRegion dio7 [12] :: kk)) cs) u → Own Try.prog main F Stop (G ((Go.Conc.base 61).at a (.inRegion dio7 [12] :: kk)) cs) (World.at u d) := fun a u d h => h.at d
  simp only [dio7, Code.opsOf, dir7, Code.piece, diBody, Try.f61, Option.getD_some, List.size_toArray, List.length_cons, List.length_nil, Nat.reduceAdd, Nat.zero_add, List.range, List.range.loop] at hZ
  refine anyM_take hS hZ (i := 0) (v := .slice (some ⟨tb, o, none⟩) tl tc) hs rfl rfl (by kernel_rfl) (by kernel_rfl) (by kernel_rfl) (fun u hu => .inl ⟨rfl, fun d => ⟨by simp [go_sem, execOp, Act.eval], fun e he => by have hm := mem_listed he; simp [go_sem, execOp, Act.eval] at hm⟩⟩) ?_
  walk_nrm
  refine anyM_take hS hZ (i := 1) (v := .int .i64 k) hs rfl rfl (by kernel_rfl) (by kernel_rfl) (by kernel_rfl) (fun u hu => .inl ⟨rfl, fun d => ⟨by simp [go_sem, execOp, Act.eval, hu.ci, hu.zi], fun e he => by have hm := mem_listed he; simp [go_sem, execOp, Act.eval, hu.ci, hu.zi] at hm; subst hm; exact evT_read _ _⟩⟩) ?_
  walk_nrm
  refine anyM_take hS hZ (i := 2) (v := .pointer (some ⟨tb, o + k, none⟩)) hs rfl rfl (by kernel_rfl) (by kernel_rfl) (by kernel_rfl) (fun u hu => .inl ⟨rfl, fun d => ⟨by simp [go_sem, execOp, Act.eval, hkt], fun e he => by have hm := mem_listed he; simp [go_sem, execOp, Act.eval, hkt] at hm⟩⟩) ?_
  walk_nrm
  refine anyM_take hS hZ (i := 3) (v := .slice oa ol oc) hs rfl rfl (by kernel_rfl) (by kernel_rfl) (by kernel_rfl) (fun u hu => .inl ⟨rfl, fun d => ⟨by simp [go_sem, execOp, Act.eval, hu.ct, hu.zt], fun e he => by have hm := mem_listed he; simp [go_sem, execOp, Act.eval, hu.ct, hu.zt] at hm; subst hm; exact evT_read _ _⟩⟩) ?_
  walk_nrm
  refine anyM_take hS hZ (i := 4) (v := .slice (some ⟨tb, o, none⟩) tl tc) hs rfl rfl (by kernel_rfl) (by kernel_rfl) (by kernel_rfl) (fun u hu => .inl ⟨rfl, fun d => ⟨by simp [go_sem, execOp, Act.eval], fun e he => by have hm := mem_listed he; simp [go_sem, execOp, Act.eval] at hm⟩⟩) ?_
  walk_nrm
  refine anyM_take hS hZ (i := 5) (v := .int .i64 k) hs rfl rfl (by kernel_rfl) (by kernel_rfl) (by kernel_rfl) (fun u hu => .inl ⟨rfl, fun d => ⟨by simp [go_sem, execOp, Act.eval, hu.ci, hu.zi], fun e he => by have hm := mem_listed he; simp [go_sem, execOp, Act.eval, hu.ci, hu.zi] at hm; subst hm; exact evT_read _ _⟩⟩) ?_
  walk_nrm
  refine anyM_take hS hZ (i := 6) (v := .pointer (some ⟨tb, o + k, none⟩)) hs rfl rfl (by kernel_rfl) (by kernel_rfl) (by kernel_rfl) (fun u hu => .inl ⟨rfl, fun d => ⟨by simp [go_sem, execOp, Act.eval, hkt], fun e he => by have hm := mem_listed he; simp [go_sem, execOp, Act.eval, hkt] at hm⟩⟩) ?_
  walk_nrm
  refine anyM_take hS hZ (i := 7) (v := .slice oa ol oc) hs rfl rfl (by kernel_rfl) (by kernel_rfl) (by kernel_rfl) (fun u hu => .inl ⟨rfl, fun d => ⟨by simp [go_sem, execOp, Act.eval, hu.ct, hu.zt], fun e he => by have hm := mem_listed he; simp [go_sem, execOp, Act.eval, hu.ct, hu.zt] at hm; subst hm; exact evT_read _ _⟩⟩) ?_
  walk_nrm
  refine anyM_take hS hZ (i := 8) (v := .int .i64 ol) hs rfl rfl (by kernel_rfl) (by kernel_rfl) (by kernel_rfl) (fun u hu => .inl ⟨rfl, fun d => ⟨by simp [go_sem, execOp, Act.eval], fun e he => by have hm := mem_listed he; simp [go_sem, execOp, Act.eval] at hm⟩⟩) ?_
  walk_nrm
  refine anyM_take hS hZ (i := 9) (v := .int .i64 m) hs rfl rfl (by kernel_rfl) (by kernel_rfl) (by kernel_rfl) (fun u hu => .inl ⟨rfl, fun d => ⟨by simp [go_sem, execOp, Act.eval, hm2], fun e he => by have hm := mem_listed he; simp [go_sem, execOp, Act.eval, hm2] at hm⟩⟩) ?_
  walk_nrm
  refine anyM_take hS hZ (i := 10) (v := .slice oa m oc) hs rfl rfl (by kernel_rfl) (by kernel_rfl) (by kernel_rfl) (fun u hu => .inl ⟨rfl, fun d => ⟨by simp [go_sem, execOp, Act.eval, slice_h hmc, slice_he hmc], fun e he => by have hm := mem_listed he; simp [go_sem, execOp, Act.eval, slice_h hmc, slice_he hmc] at hm⟩⟩) ?_
  walk_nrm
  refine anyM_all (r := [11]) (by kernel_rfl) (by kernel_rfl) (fun i hi hil => ?_)
  simp only [List.mem_cons, List.not_mem_nil, or_false] at hi
  subst hi
  refine opm_k rfl rfl (fun d K' hK' => ?_)
  go_simp
  refine hK' _ _ ⟨⟨⟨0, grew_alloc hU (show nn ≤ (w.at d).heap.size from hs.top) _⟩, fun e he => by (have hm := mem_listed he; simp [go_sem] at hm)⟩, (hs.at d).alloc _, ?_⟩
  clear hK' K'
  rw [alloc_at']
  refine anyM_at hS hZ _ _ _ _ ?_ d
  refine anyM_end (by kernel_rfl) ?_ _
  have hn := hs.top
  (refine oW fun dd K hK => ?_; go_simp; refine qS hK hU ?_; clear hK K)
  rw [set_new32]
  refine ogE ?_
  refine h _ ?_
  exact ⟨rfl, rfl, rfl, rfl, rfl, rfl, rfl, rfl, rfl, rfl, trivial⟩
end Go.Proofs.Ytcejbandeikdjaa
namespace Go.Proofs.Ytcejbandeikdjaa
open Go Go.Conc Go.RowKit Go.Proofs
variable {w : World}
theorem mask_F0 (w : World) : mask F0 w = w := by
  have e : (mask F0 w).heap = w.heap := by
    apply Array.ext_getElem?
    intro r
    rw [mask_get]
    cases h : w.heap[r]? with
    | none => rfl
    | some o => cases o <;> rfl
  calc mask F0 w = { w with heap := (mask F0 w).heap } := rfl
    _ = w := by rw [e]
theorem under_F0 : Under F0 0 := fun r z h => by cases h
theorem wf_F0 (w : World) : Wf F0 w := ⟨fun r z h => by cases h⟩
theorem info117 : ∃ i, Try.prog.info? 117 = some i ∧ i.zero = some .nilFunc ∧ i.size = 1 ∧ i.bytes = 8 := by
  have h : (Try.prog.info? 117).map (fun i => (i.size, i.bytes)) = some (1, 8) := by kernel_rfl
  have h0 : (Try.prog.info? 117).bind (·.zero) = some .nilFunc := by kernel_rfl
  obtain ⟨i, hi, h1⟩ := Option.map_eq_some_iff.1 h
  rw [hi] at h0
  simp only [Prod.mk.injEq] at h1
  exact ⟨i, hi, h0, h1.1, h1.2⟩
def cl68 (ob db ib av : Nat) : Value := .func (.func 68) #[] #[.pointer (some ⟨ob, 0, none⟩), .pointer (some ⟨db, 0, none⟩), .pointer (some ⟨ib, 0, none⟩), .pointer (some ⟨av, 0, none⟩)]
set_option maxRecDepth 100000 in
set_option maxHeartbeats 8000000 in
theorem di_4 {ta : Option Addr} {tl tc n db av ib ob k base : Nat} {l : Value} {xs : List Value} (hk : k < 64) (hb : base ≤ w.heap.size) (hrow : w.ownsRow base 117 1 l k xs) {A : Array Value} (hA : Slots 38 A ((9, .pointer (some ⟨ib, 0, none⟩)) :: (10, .pointer (some ⟨ob, 0, none⟩)) :: [(0, .slice ta tl tc), (3, .pointer (some ⟨db, 0, none⟩)), (6, .int .i64 n), (7, .pointer (some ⟨av, 0, none⟩)), (8, l), (16, .int .i64 n), (17, .int .i64 k)])) {cs : List Frame} {main : Bool} {Stop : Goroutine → World → Prop}
    (h : ∀ (w' : World) (l' : Value) (A : Array Value), w'.ownsRow base 117 1 l' (k + 1) (xs ++ [cl68 ob db ib av]) → w.heap.size ≤ w'.heap.size → (∀ r, r < w.heap.size → some r ≠ Value.ownBlock l → w'.heap[r]? = w.heap[r]?) → Slots 38 A [(0, .slice ta tl tc), (3, .pointer (some ⟨db, 0, none⟩)), (6, .int .i64 n), (7, .pointer (some ⟨av, 0, none⟩)), (8, l'), (16, .int .i64 n), (17, .int .i64 (k + 1 : Nat))] → Own Try.prog main F0 Stop (G ((Go.Conc.base 61).at ⟨A, []⟩ [.code dis7, .inLoop dis7, .inBlock 0, .code dis12]) cs) w') :
    Own Try.prog main F0 Stop (G ((Go.Conc.base 61).at ⟨A, []⟩ [.code dir8, .inBlock 1, .code dir9, .inLoop dis7, .inBlock 0, .code dis12]) cs) w := by
  have hU := under_F0
  have hn : 0 ≤ w.heap.size := Nat.zero_le _
  have hk64 : IntKind.i64.wrap ((k : Int) + 1) = (k : Int) + 1 := IntWalk.i64_in _ (by omega)
  obtain ⟨hsz, h9, h10, h0, h3, h6, h7, h8, h16, h17, _⟩ := hA
  obtain ⟨s, rfl⟩ := diT_of hsz
  change s 9 = _ at h9
  change s 10 = _ at h10
  change s 0 = _ at h0
  change s 3 = _ at h3
  change s 6 = _ at h6
  change s 7 = _ at h7
  change s 8 = _ at h8
  change s 16 = _ at h16
  change s 17 = _ at h17
  clear hsz
  simp only [diT, h9, h10, h0, h3, h6, h7, h8, h16, h17]
  clear h9 h10 h0 h3 h6 h7 h8 h16 h17
  rw [dir8_eq]
  refine ogR ?_
  simp only [dio8, Code.opsOf, dir8, Code.piece, diBody, Try.f61, Option.getD_some, List.size_toArray, List.length_cons, List.length_nil, Nat.reduceAdd, Nat.zero_add, List.range, List.range.loop]
  (refine oW fun dd K hK => ?_; go_simp; refine qT hK ?_; clear hK K)
  (refine oW fun dd K hK => ?_; go_simp; refine qT hK ?_; clear hK K)
  (refine oW fun dd K hK => ?_; go_simp; refine qA hK hU ?_; clear hK K)
  have hrow2 := hrow.alloc (.cells #[cl68 ob db ib av] 117)
  have hcell := cell_one_new w (cl68 ob db ib av) 117
  have hsz : (w.alloc (.cells #[cl68 ob db ib av] 117)).heap.size = w.heap.size + 1 := by simp
  have hold : ∀ r, r < w.heap.size → (w.alloc (.cells #[cl68 ob db ib av] 117)).heap[r]? = w.heap[r]? := fun r hr => heap_alloc_lt _ _ hr
  change Own _ _ _ _ _ (w.alloc (.cells #[cl68 ob db ib av] 117))
  generalize w.alloc (.cells #[cl68 ob db ib av] 117) = W at hrow2 hcell hsz hold ⊢
  obtain ⟨i0, hi0, hz0, hz1, hz2⟩ := info117
  refine own_opm (by decide) ?_
  refine opm_lift (S' := fun _ => false) (px := false) (ready0.shut false) (by simp) rfl rfl rfl (wf_F0 _) (fun d => ?_)
  rw [mask_F0]
  obtain ⟨l', u, hr, hown, hgrow, _⟩ := run_append_own (P := Try.prog) (W.at d) base 127 127 117 i0 _ 1 8 Try.underlying127 hi0 hz0 hz1 hz2 rfl (by decide) l k xs hrow2 ⟨w.heap.size, 0, none⟩ 1 1 [cl68 ob db ib av] rfl
    hcell (fun q hq => by simp at hq; subst hq; rfl) (by unfold maxLen; omega) (by omega) (by show base ≤ W.heap.size; omega)
  refine ⟨l', u, run_append_op (.tmp 31) (.tmp 33) 127 rfl rfl rfl hr, fun w' hu hg hwf' => ?_⟩
  rw [mask_F0] at hu
  subst hu
  have hsz2 : W.heap.size ≤ u.heap.size := hgrow.size
  have hold2 : ∀ r, r < w.heap.size → some r ≠ Value.ownBlock l → u.heap[r]? = w.heap[r]? := fun r h1 h2 => (hgrow.block r (by show r < W.heap.size; omega) h2).trans (hold r h1)
  have hsz3 : w.heap.size ≤ u.heap.size := by omega
  clear hrow2 hcell hsz hold hr hgrow hsz2 hg hwf' hz0 hz1 hz2 hi0
  walk_nrm
  (refine oW fun dd K hK => ?_; go_simp; refine qT hK ?_; clear hK K)
  refine ogE ?_
  refine ogI ?_
  rw [dir9_eq]
  refine ogR ?_
  simp only [dio9, Code.opsOf, dir9, Code.piece, diBody, Try.f61, Option.getD_some, List.size_toArray, List.length_cons, List.length_nil, Nat.reduceAdd, Nat.zero_add, List.range, List.range.loop]
  (refine oW fun dd K hK => ?_; go_simp; refine qT hK ?_; clear hK K)
  (refine oW fun dd K hK => ?_; go_simp; refine qT hK ?_; clear hK K)
  refine ogE ?_
  refine ogL ?_
  refine h _ l' _ hown hsz3 hold2 ?_
  exact ⟨rfl, rfl, rfl, rfl, rfl, rfl, rfl, rfl, trivial⟩
end Go.Proofs.Ytcejbandeikdjaa
namespace Go.Proofs.Ytcejbandeikdjaa
open Go Go.Conc Go.RowKit Go.Proofs
variable {w : World}
structure SV (av : Nat) (v : Value) (u : World) : Prop where
  c : u.cell? ⟨av, 0, none⟩ = some v
  z : u.frozen? ⟨av, 0, none⟩ = false
set_option maxRecDepth 100000 in
set_option maxHeartbeats 8000000 in
theorem di_6 {ta : Option Addr} {tl tc n db av : Nat} {l x : Value} (hs : SV av x w) {A : Array Value} (hA : Slots 38 A [(0, .slice ta tl tc), (3, .pointer (some ⟨db, 0, none⟩)), (6, .int .i64 n), (7, .pointer (some ⟨av, 0, none⟩)), (8, l), (16, .int .i64 n), (17, .int .i64 n)]) {c : Frame} {cs : List Frame} {Stop : Goroutine → World → Prop}
    (h : Own Try.prog true F0 Stop (G (c.finish (.tuple #[l, x])) cs) w) :
    Own Try.prog true F0 Stop (G ((Go.Conc.base 61).at ⟨A, []⟩ [.code dir10, .code .ret]) (c :: cs)) w := by
  obtain ⟨hsz, h0, h3, h6, h7, h8, h16, h17, _⟩ := hA
  obtain ⟨s, rfl⟩ := diT_of hsz
  change s 0 = _ at h0
  change s 3 = _ at h3
  change s 6 = _ at h6
  change s 7 = _ at h7
  change s 8 = _ at h8
  change s 16 = _ at h16
  change s 17 = _ at h17
  clear hsz
  simp only [diT, h0, h3, h6, h7, h8, h16, h17]
  clear h0 h3 h6 h7 h8 h16 h17
  have hS : ∀ u d, SV av x u → SV av x (World.at u d) := fun u d h => ⟨h.c, h.z⟩
  rw [dir10_eq]
  refine own_drawnM (SV av x) (last := 3) run_mixed (ll_of (by kernel_rfl)) (by decide) ?_
  simp only [dio10, Code.opsOf, dir10, Code.piece, diBody, Try.f61, Option.getD_some, List.size_toArray, List.length_cons, List.length_nil, Nat.reduceAdd, Nat.zero_add, List.range, List.range.loop]
  have hZ : ∀ a u d, Own Try.prog true F0 Stop (G ((Go.Conc.base 61).at a [.inRegion dio10 [3], .code .ret]) (c :: cs)) u → Own Try.prog true F0 Stop (G ((Go.Conc.base 61).at a [.inRegion dio10 [3], .code .ret]) (c :: cs)) (World.at u d) := fun a u d h => h.at d
  simp only [dio10, Code.opsOf, dir10, Code.piece, diBody, Try.f61, Option.getD_some, List.size_toArray, List.length_cons, List.length_nil, Nat.reduceAdd, Nat.zero_add, List.range, List.range.loop] at hZ
  refine anyM_take hS hZ (i := 0) (v := l) hs rfl rfl (by kernel_rfl) (by kernel_rfl) (by kernel_rfl) (fun u hu => .inl ⟨rfl, fun d => ⟨by simp [go_sem, execOp, Act.eval], fun e he => by have hm := mem_listed he; simp [go_sem, execOp, Act.eval] at hm⟩⟩) ?_
  walk_nrm
  refine anyM_take hS hZ (i := 1) (v := x) hs rfl rfl (by kernel_rfl) (by kernel_rfl) (by kernel_rfl) (fun u hu => .inl ⟨rfl, fun d => ⟨by simp [go_sem, execOp, Act.eval, hu.c, hu.z], fun e he => by have hm := mem_listed he; simp [go_sem, execOp, Act.eval, hu.c, hu.z] at hm; subst hm; exact evT_read _ _⟩⟩) ?_
  walk_nrm
  refine anyM_take hS hZ (i := 2) (v := l) hs rfl rfl (by kernel_rfl) (by kernel_rfl) (by kernel_rfl) (fun u hu => .inl ⟨rfl, fun d => ⟨by simp [go_sem, execOp, Act.eval], fun e he => by have hm := mem_listed he; simp [go_sem, execOp, Act.eval] at hm⟩⟩) ?_
  walk_nrm
  refine anyM_end (by kernel_rfl) ?_ _
  (refine oW fun dd K hK => ?_; go_simp; refine qT hK ?_; clear hK K)
  refine ogE ?_
  refine ogX ?_
  refine own_go rfl (fun d => stepG_leave (fn := Try.f61) (v := .tuple #[l, x]) rfl rfl Try.func61 (by simp [results, Try.f61, go_sem]) (by simp [results, Try.f61, go_sem])) ?_
  exact h
structure DI (w0 : World) (n k db aa av : Nat) (dv : Value) (oa : Nat → Option Addr) (m oc ib ob : Nat → Nat) (l : Value) (w : World) : Prop where
  size : w0.heap.size ≤ w.heap.size
  old : ∀ r, r < w0.heap.size → w.heap[r]? = w0.heap[r]?
  hdb : w.heap[db]? = some (.cells #[dv] 88 (0, 0))
  haa : w.heap[aa]? = some (.cells (madeCells #[.slice none 0 0] n) 84 (0, 0))
  hav : w.heap[av]? = some (.cells #[.slice (some ⟨aa, 0, none⟩) n n] 27 (0, 0))
  hib : ∀ j, j < k → w.heap[ib j]? = some (.cells #[.int .i64 j] 3 (0, 0))
  hob : ∀ j, j < k → w.heap[ob j]? = some (.cells #[.slice (oa j) (m j) (oc j)] 32 (0, 0))
  lo : ∀ j, j < k → w0.heap.size ≤ ib j ∧ w0.heap.size ≤ ob j
  new : w0.heap.size ≤ db ∧ w0.heap.size ≤ aa ∧ w0.heap.size ≤ av
  row : w.ownsRow w0.heap.size 117 1 l k ((List.range k).map fun j => cl68 (ob j) db (ib j) av)
theorem DI.same {w0 w w' : World} {n k db aa av : Nat} {dv : Value} {oa : Nat → Option Addr} {m oc ib ob : Nat → Nat} {l : Value} (h : DI w0 n k db aa av dv oa m oc ib ob l w) (hsz : w.heap.size ≤ w'.heap.size) (hs : ∀ r, r < w.heap.size → w'.heap[r]? = w.heap[r]?) : DI w0 n k db aa av dv oa m oc ib ob l w' := by
  have lt : ∀ {r : Nat} {o : Obj}, w.heap[r]? = some o → w'.heap[r]? = some o := fun hr => (hs _ (Array.getElem?_eq_some_iff.1 hr).1).trans hr
  exact ⟨Nat.le_trans h.size hsz, fun r hr => (hs r (Nat.lt_of_lt_of_le hr h.size)).trans (h.old r hr), lt h.hdb, lt h.haa, lt h.hav, fun j hj => lt (h.hib j hj), fun j hj => lt (h.hob j hj), h.lo, h.new, ownsRow_same2 h.row fun b hb _ => hs b (h.row.lt b hb).2⟩
set_option maxRecDepth 100000 in
theorem own_doing_loop {w0 : World} {tb o tl tc n db aa av : Nat} {dv : Value} (hntl : n ≤ tl) (hn64 : n ≤ 64) {oa : Nat → Option Addr} {ol m oc : Nat → Nat} (htb : 0 < n → tb < w0.heap.size) (hth : ∀ j, j < n → w0.cell? ⟨tb, o + j, none⟩ = some (.slice (oa j) (ol j) (oc j)) ∧ w0.frozen? ⟨tb, o + j, none⟩ = false ∧ ol j ≤ oc j ∧ min (ol j) 65536 = m j) {ta : Option Addr} (hta : 0 < n → ta = some ⟨tb, o, none⟩) {c : Frame} {cs : List Frame} {Stop : Goroutine → World → Prop}
    (K : ∀ w' l ib ob, DI w0 n n db aa av dv oa m oc ib ob l w' → Own Try.prog true F0 Stop (G (c.finish (.tuple #[l, .slice (some ⟨aa, 0, none⟩) n n])) cs) w') :
    ∀ (q k : Nat), k + q = n → ∀ (w : World) (l : Value) (ib ob : Nat → Nat) (A : Array Value), DI w0 n k db aa av dv oa m oc ib ob l w → Slots 38 A [(0, .slice ta tl tc), (3, .pointer (some ⟨db, 0, none⟩)), (6, .int .i64 n), (7, .pointer (some ⟨av, 0, none⟩)), (8, l), (16, .int .i64 n), (17, .int .i64 k)] →
      Own Try.prog true F0 Stop (G ((Go.Conc.base 61).at ⟨A, []⟩ [.code dis7, .inLoop dis7, .inBlock 0, .code dis12]) (c :: cs)) w := by
  intro q
  induction q with
  | zero =>
    intro k hk w l ib ob A hD hA
    obtain rfl : k = n := by omega
    refine di_5 hA fun A2 hA2 => ?_
    refine di_6 (x := .slice (some ⟨aa, 0, none⟩) k k) ⟨by simp [World.cell?, hD.hav], by simp [World.frozen?, hD.hav]⟩ hA2 ?_
    exact K w l ib ob hD
  | succ q ih =>
    intro k hk w l ib ob A hD hA
    have hkn : k < n := by omega
    obtain rfl := hta (by omega)
    obtain ⟨t1, t2, t3, t4⟩ := hth k hkn
    have htl := htb (by omega)
    have htb2 := hD.old tb htl
    have hsz0 := hD.size
    refine di_2 under_F0 (Nat.zero_le _) hkn hA fun A2 hA2 => ?_
    have e1 : ∀ r, r < w.heap.size → (w.alloc (.cells #[.int .i64 k] 3)).heap[r]? = w.heap[r]? := fun r hr => heap_alloc_lt _ _ hr
    have e2 := heap_alloc_new w (.cells #[.int .i64 k] 3)
    have e3 : (w.alloc (.cells #[.int .i64 k] 3)).heap.size = w.heap.size + 1 := by simp
    generalize w.alloc (.cells #[.int .i64 k] 3) = W1 at e1 e2 e3 ⊢
    rw [dis11_eq]
    refine ogS ?_
    have htb3 : W1.heap[tb]? = w0.heap[tb]? := (e1 tb (by omega)).trans htb2
    refine di_3 (nn := 0) (m := m k) under_F0 (by omega) t4 t3 ⟨Nat.zero_le _, by omega, by omega, by simp [World.cell?, e2], by simp [World.frozen?, e2], by rw [← t1]; unfold World.cell?; simp only [htb3], by rw [← t2]; unfold World.frozen?; simp only [htb3]⟩ hA2 fun A3 hA3 => ?_
    have f1 : ∀ r, r < W1.heap.size → (W1.alloc (.cells #[.slice (oa k) (m k) (oc k)] 32)).heap[r]? = W1.heap[r]? := fun r hr => heap_alloc_lt _ _ hr
    have f2 := heap_alloc_new W1 (.cells #[.slice (oa k) (m k) (oc k)] 32)
    have f3 : (W1.alloc (.cells #[.slice (oa k) (m k) (oc k)] 32)).heap.size = W1.heap.size + 1 := by simp
    generalize W1.alloc (.cells #[.slice (oa k) (m k) (oc k)] 32) = W2 at f1 f2 f3 ⊢
    have hD2 : DI w0 n k db aa av dv oa m oc ib ob l W2 := hD.same (by omega) fun r hr => (f1 r (by omega)).trans (e1 r hr)
    refine di_4 (base := w0.heap.size) (by omega) (by omega) hD2.row hA3 fun w' l' A4 g1 g2 g3 hA4 => ?_
    have hne : ∀ {r : Nat} {cc : Array Value} {t : TypeId}, W2.heap[r]? = some (.cells cc t (0, 0)) → t ≠ 117 → w'.heap[r]? = some (.cells cc t (0, 0)) := fun hr ht => (g3 _ (Array.getElem?_eq_some_iff.1 hr).1 (own_type hD2.row hr (fun e => ht e.symm))).trans hr
    have hold : ∀ r, r < w0.heap.size → w'.heap[r]? = w0.heap[r]? := fun r hr => (g3 r (by omega) (fun e => by
      have := (hD2.row.lt r e.symm).1; omega)).trans (hD2.old r hr)
    refine ih (k + 1) (by omega) w' l' (fun j => if j = k then w.heap.size else ib j) (fun j => if j = k then W1.heap.size else ob j) A4 ⟨by omega, hold, hne hD2.hdb (by decide), hne hD2.haa (by decide), hne hD2.hav (by decide), fun j hj => ?_, fun j hj => ?_, fun j hj => ?_, hD.new, ?_⟩ hA4
    · by_cases e : j = k
      · subst e
        simp only [if_true]
        exact hne ((f1 _ (by omega)).trans e2) (by decide)
      · simp only [if_neg e]
        exact hne (hD2.hib j (by omega)) (by decide)
    · by_cases e : j = k
      · subst e
        simp only [if_true]
        exact hne f2 (by decide)
      · simp only [if_neg e]
        exact hne (hD2.hob j (by omega)) (by decide)
    · by_cases e : j = k
      · subst e
        simp only [if_true]
        omega
      · simp only [if_neg e]
        exact hD.lo j (by omega)
    · have e5 : ((List.range (k + 1)).map fun j => cl68 (if j = k then W1.heap.size else ob j) db (if j = k then w.heap.size else ib j) av) = ((List.range k).map fun j => cl68 (ob j) db (ib j) av) ++ [cl68 W1.heap.size db w.heap.size av] := by
        rw [List.range_succ, List.map_append]
        congr 1
        · apply List.map_congr_left
          intro j hj
          have : j < k := List.mem_range.1 hj
          simp only [if_neg (show ¬ j = k by omega)]
        · simp
      rw [e5]
      exact g1
theorem own_doing {tb o tl tc n df : Nat} {first capt : Array Value} (hn1 : min tl 64 = n) {oa : Nat → Option Addr} {ol m oc : Nat → Nat} (htb : 0 < n → tb < w.heap.size) (hth : ∀ j, j < n → w.cell? ⟨tb, o + j, none⟩ = some (.slice (oa j) (ol j) (oc j)) ∧ w.frozen? ⟨tb, o + j, none⟩ = false ∧ ol j ≤ oc j ∧ min (ol j) 65536 = m j) {ta : Option Addr} (hta : 0 < n → ta = some ⟨tb, o, none⟩) {c : Frame} {cs : List Frame} {Stop : Goroutine → World → Prop}
    (K : ∀ w' l ib ob db aa av, DI w n n db aa av (.func (.func df) first capt) oa m oc ib ob l w' → Own Try.prog true F0 Stop (G (c.finish (.tuple #[l, .slice (some ⟨aa, 0, none⟩) n n])) cs) w') :
    Own Try.prog true F0 Stop (G (Frame.enter Try.prog 61 #[.slice ta tl tc, .func (.func df) first capt] .normal) (c :: cs)) w := by
  refine di_0 under_F0 (Nat.zero_le _) hn1 fun A hA => ?_
  refine di_1 under_F0 (Nat.zero_le _) (by omega) hA fun A2 hA2 => ?_
  have e1 : ∀ r, r < w.heap.size → (((w.alloc (.cells #[.func (.func df) first capt] 88)).alloc (.cells (madeCells #[.slice none 0 0] n) 84)).alloc (.cells #[.slice (some ⟨(w.alloc (.cells #[.func (.func df) first capt] 88)).heap.size, 0, none⟩) n n] 27)).heap[r]? = w.heap[r]? := fun r hr => by
    rw [heap_alloc_lt _ _ (by simp; omega), heap_alloc_lt _ _ (by simp; omega), heap_alloc_lt _ _ hr]
  refine own_doing_loop (w0 := w) (n := n) (tl := tl) (dv := .func (.func df) first capt) (oa := oa) (ol := ol) (m := m) (oc := oc) (tb := tb) (o := o) (db := w.heap.size) (aa := w.heap.size + 1) (av := w.heap.size + 2) (by omega) (by omega) htb hth hta (fun w' l ib ob hD => K w' l ib ob _ _ _ hD) n 0 (by omega) _ (.slice none 0 0) (fun _ => 0) (fun _ => 0) A2 ⟨by simp; omega, e1, ?_, ?_, ?_, fun j hj => by omega, fun j hj => by omega, fun j hj => by omega, ⟨by omega, by omega, by omega⟩, World.ownsRow_nil _ _ _ _⟩ (by simpa using hA2)
  · rw [heap_alloc_lt _ _ (by simp; omega), heap_alloc_lt _ _ (by simp)]
    exact heap_alloc_new _ _
  · have := heap_alloc_new (w.alloc (.cells #[.func (.func df) first capt] 88)) (.cells (madeCells #[.slice none 0 0] n) 84)
    rw [heap_alloc_lt _ _ (by simp)]
    simpa using this
  · have := heap_alloc_new ((w.alloc (.cells #[.func (.func df) first capt] 88)).alloc (.cells (madeCells #[.slice none 0 0] n) 84)) (.cells #[.slice (some ⟨(w.alloc (.cells #[.func (.func df) first capt] 88)).heap.size, 0, none⟩) n n] 27)
    simpa using this
end Go.Proofs.Ytcejbandeikdjaa
namespace Go.Proofs.Ytcejbandeikdjaa
open Go Go.Conc Go.RowKit Go.Proofs
variable {F : Fz} {w : World}
theorem built29 (a b c : Option Addr) (n m k l : Nat) (s : Bool) : Try.prog.built 29 [(0, .slice a n m), (1, .slice b k l), (3, .bool s)] = some #[.slice a n m, .slice b k l, .slice none 0 0, .bool s] := by kernel_rfl
@[go_sem] theorem run_build29 (a b : Option Addr) (n m k l : Nat) (s : Bool) (w : World) : (Instr.build 29 #[(0, .slice a n m), (1, .slice b k l), (3, .bool s)]).run Try.prog w = .ok (.agg #[.slice a n m, .slice b k l, .slice none 0 0, .bool s]) w := run_build w _ _ _ (built29 a b a n m k l s)
@[go_sem] theorem ev_build29 (a b : Option Addr) (n m k l : Nat) (s : Bool) (w : World) (es : Array Event) : (Instr.build 29 #[(0, .slice a n m), (1, .slice b k l), (3, .bool s)]).events Try.prog w es = es := ev_build w es _ _ _ _ Try.underlying29 (built29 a b a n m k l s)
def trW (w : World) (tb : Nat) (a b c d : Value) : World := (((w.setCell ⟨tb, 0, none⟩ a).setCell ⟨tb, 1, none⟩ b).setCell ⟨tb, 2, none⟩ c).setCell ⟨tb, 3, none⟩ d
structure TrAt (w : World) (tb : Nat) (a b c d : Value) : Prop where
  o : w.heap[tb]? = some (.cells #[a, b, c, d] 29 (0, 0))
section
variable {tb : Nat} {a b c d : Value}
theorem TrAt.at (h : TrAt w tb a b c d) (e : Nat) : TrAt (w.at e) tb a b c d := ⟨h.o⟩
theorem TrAt.c0 (h : TrAt w tb a b c d) : w.cell? ⟨tb, 0, none⟩ = some a := by simp [World.cell?, h.o]
theorem TrAt.c1 (h : TrAt w tb a b c d) : w.cell? ⟨tb, 1, none⟩ = some b := by simp [World.cell?, h.o]
theorem TrAt.c2 (h : TrAt w tb a b c d) : w.cell? ⟨tb, 2, none⟩ = some c := by simp [World.cell?, h.o]
theorem TrAt.c3 (h : TrAt w tb a b c d) : w.cell? ⟨tb, 3, none⟩ = some d := by simp [World.cell?, h.o]
theorem TrAt.z (h : TrAt w tb a b c d) (k : Nat) : w.frozen? ⟨tb, k, none⟩ = false := by simp [World.frozen?, h.o]
theorem TrAt.put (h : TrAt w tb a b c d) (a' b' c' d' : Value) : TrAt (trW w tb a' b' c' d') tb a' b' c' d' := by
  constructor
  unfold trW
  rw [heap_setCell_eq (heap_setCell_eq (heap_setCell_eq (heap_setCell_eq h.o _) _) _) _]
  rfl
end
noncomputable def opBody : Code := Try.f37.body.getD .skip
noncomputable def ops0 : Code := Code.piece [] opBody
noncomputable def opr0 : Code := Code.piece [true] opBody
noncomputable def opo0 : Array Oper := Code.opsOf opr0
noncomputable def ops1 : Code := Code.piece [false] opBody
noncomputable def opr1 : Code := Code.piece [false, true] opBody
noncomputable def opo1 : Array Oper := Code.opsOf opr1
noncomputable def ops2 : Code := Code.piece [false, false] opBody
noncomputable def opr2 : Code := Code.piece [false, false, true] opBody
noncomputable def opo2 : Array Oper := Code.opsOf opr2
noncomputable def ops3 : Code := Code.piece [false, false, false] opBody
noncomputable def opr3 : Code := Code.piece [false, false, false, true] opBody
noncomputable def opo3 : Array Oper := Code.opsOf opr3
theorem ops0_eq : ops0 = .seq opr0 ops1 := by kernel_rfl
theorem opr0_eq : opr0 = .region 0 opo0 false := by kernel_rfl
theorem ops1_eq : ops1 = .seq opr1 ops2 := by kernel_rfl
theorem opr1_eq : opr1 = .region 1 opo1 false := by kernel_rfl
theorem ops2_eq : ops2 = .seq opr2 ops3 := by kernel_rfl
theorem opr2_eq : opr2 = .region 2 opo2 false := by kernel_rfl
theorem ops3_eq : ops3 = .seq opr3 .ret := by kernel_rfl
theorem opr3_eq : opr3 = .region 3 opo3 false := by kernel_rfl
theorem enter_op (args : Array Value) : Frame.enter Try.prog 37 args .normal = (Go.Conc.base 37).at { tmps := args ++ Array.replicate (32 - args.size) undef, defers := [] } [.code ops0] := enter_at args Try.func37 rfl
theorem callable37 : Callable 37 := callable Try.func37 rfl rfl
def opT (s : Nat → Value) : Array Value := #[s 0, s 1, s 2, s 3, s 4, s 5, s 6, s 7, s 8, s 9, s 10, s 11, s 12, s 13, s 14, s 15, s 16, s 17, s 18, s 19, s 20, s 21, s 22, s 23, s 24, s 25, s 26, s 27, s 28, s 29, s 30, s 31]
theorem opT_of {A : Array Value} (h : A.size = 32) : ∃ s, A = opT s := by
  obtain ⟨s, hs, _⟩ := arr_lit A h
  exact ⟨s, hs⟩
set_option maxRecDepth 100000 in
set_option maxHeartbeats 2000000 in
theorem op_0 {n : Nat} (hU : Under F n) (hn : n ≤ w.heap.size) {ta sa : Option Addr} {tl tc sl sc : Nat} {dv : Value} {mo : Int} {cs : List Frame} {main : Bool} {Stop : Goroutine → World → Prop}
    (h : ∀ A, Slots 32 A [(0, .slice ta tl tc), (1, dv), (2, .slice sa sl sc), (3, .int .i64 mo), (8, .pointer (some ⟨w.heap.size, 0, none⟩))] → Own Try.prog main F Stop (G (Frame.enter Try.prog 61 #[.slice ta tl tc, dv] .normal) (((Go.Conc.base 37).at ⟨A, []⟩ [.inRegion opo1 [2, 3, 4, 5, 6, 7], .code ops2]) :: cs)) (w.alloc (.cells #[.slice none 0 0, .slice none 0 0, .slice none 0 0, .bool false] 29))) :
    Own Try.prog main F Stop (G (Frame.enter Try.prog 37 #[.slice ta tl tc, dv, .slice sa sl sc, .int .i64 mo] .normal) cs) w := by
  rw [enter_op]
  walk_nrm
  rw [ops0_eq]
  refine ogS ?_
  rw [opr0_eq]
  refine ogR ?_
  simp only [opo0, Code.opsOf, opr0, Code.piece, opBody, Try.f37, Option.getD_some, List.size_toArray, List.length_cons, List.length_nil, Nat.reduceAdd, Nat.zero_add, List.range, List.range.loop]
  (refine oW fun dd K hK => ?_; go_simp; refine qA hK hU ?_; clear hK K)
  refine ogE ?_
  rw [ops1_eq]
  refine ogS ?_
  rw [opr1_eq]
  refine ogR ?_
  simp only [opo1, Code.opsOf, opr1, Code.piece, opBody, Try.f37, Option.getD_some, List.size_toArray, List.length_cons, List.length_nil, Nat.reduceAdd, Nat.zero_add, List.range, List.range.loop]
  (refine oW fun dd K hK => ?_; go_simp; refine qT hK ?_; clear hK K)
  (refine oW fun dd K hK => ?_; go_simp; refine qT hK ?_; clear hK K)
  refine oc callable61 #[.slice ta tl tc, dv] ?_
  refine h _ ?_
  exact ⟨rfl, rfl, rfl, rfl, rfl, rfl, trivial⟩
set_option maxRecDepth 100000 in
set_option maxHeartbeats 2000000 in
theorem op_1 {ta sa : Option Addr} {tl tc sl sc tb : Nat} {dv l an : Value} {mo : Int} {A : Array Value} (hA : Slots 32 A [(0, .slice ta tl tc), (1, dv), (2, .slice sa sl sc), (3, .int .i64 mo), (8, .pointer (some ⟨tb, 0, none⟩))]) {cs : List Frame} {main : Bool} {Stop : Goroutine → World → Prop}
    (h : ∀ A, Slots 32 A [(8, .pointer (some ⟨tb, 0, none⟩)), (10, an)] → Own Try.prog main F Stop (G (Frame.enter Try.prog 62 #[l, .slice sa sl sc, .int .i64 mo] .normal) (((Go.Conc.base 37).at ⟨A, []⟩ [.inRegion opo2 [3, 4, 5, 6, 7, 8, 9, 10], .code ops3]) :: cs)) w) :
    Own Try.prog main F Stop (G (((Go.Conc.base 37).at ⟨A, []⟩ [.inRegion opo1 [2, 3, 4, 5, 6, 7], .code ops2]).finish (.tuple #[l, an])) cs) w := by
  obtain ⟨hsz, h0, h1, h2, h3, h8, _⟩ := hA
  obtain ⟨s, rfl⟩ := opT_of hsz
  change s 0 = _ at h0
  change s 1 = _ at h1
  change s 2 = _ at h2
  change s 3 = _ at h3
  change s 8 = _ at h8
  clear hsz
  simp only [opT, h0, h1, h2, h3, h8]
  clear h0 h1 h2 h3 h8
  rw [Frame.finish_at]
  simp only [opo1, Code.opsOf, opr1, Code.piece, opBody, Try.f37, Option.getD_some, List.size_toArray, List.length_cons, List.length_nil, Nat.reduceAdd, Nat.zero_add, List.range, List.range.loop]
  walk_nrm
  (refine oW fun dd K hK => ?_; go_simp; refine qT hK ?_; clear hK K)
  (refine oW fun dd K hK => ?_; go_simp; refine qT hK ?_; clear hK K)
  (refine oW fun dd K hK => ?_; go_simp; refine qT hK ?_; clear hK K)
  (refine oW fun dd K hK => ?_; go_simp; refine qT hK ?_; clear hK K)
  (refine oW fun dd K hK => ?_; go_simp; refine qT hK ?_; clear hK K)
  refine ogE ?_
  rw [ops2_eq]
  refine ogS ?_
  rw [opr2_eq]
  refine ogR ?_
  simp only [opo2, Code.opsOf, opr2, Code.piece, opBody, Try.f37, Option.getD_some, List.size_toArray, List.length_cons, List.length_nil, Nat.reduceAdd, Nat.zero_add, List.range, List.range.loop]
  (refine oW fun dd K hK => ?_; go_simp; refine qT hK ?_; clear hK K)
  (refine oW fun dd K hK => ?_; go_simp; refine qT hK ?_; clear hK K)
  (refine oW fun dd K hK => ?_; go_simp; refine qT hK ?_; clear hK K)
  refine oc callable62 #[l, .slice sa sl sc, .int .i64 mo] ?_
  refine h _ ?_
  exact ⟨rfl, rfl, rfl, trivial⟩
set_option maxRecDepth 100000 in
set_option maxHeartbeats 2000000 in
theorem op_2 {tb : Nat} {x0 x1 x2 x3 : Value} (hT : TrAt w tb x0 x1 x2 x3) (hnh : ∀ k, ¬ held F ⟨tb, k, none⟩) {aa oa : Option Addr} {al ac ol oc : Nat} {st : Bool} {bv : Value} {A : Array Value} (hA : Slots 32 A [(8, .pointer (some ⟨tb, 0, none⟩)), (10, .slice aa al ac)]) {c : Frame} {cs : List Frame} {main : Bool} {Stop : Goroutine → World → Prop}
    (h : Own Try.prog main F Stop (G (c.finish (.agg #[.slice aa al ac, .slice oa ol oc, .slice none 0 0, .bool st])) cs) (trW w tb (.slice aa al ac) (.slice oa ol oc) (.slice none 0 0) (.bool st))) :
    Own Try.prog main F Stop (G (((Go.Conc.base 37).at ⟨A, []⟩ [.inRegion opo2 [3, 4, 5, 6, 7, 8, 9, 10], .code ops3]).finish (.tuple #[.slice oa ol oc, .bool st, bv])) (c :: cs)) w := by
  obtain ⟨hsz, h8, h10, _⟩ := hA
  obtain ⟨s, rfl⟩ := opT_of hsz
  change s 8 = _ at h8
  change s 10 = _ at h10
  clear hsz
  simp only [opT, h8, h10]
  clear h8 h10
  rw [Frame.finish_at]
  simp only [opo2, Code.opsOf, opr2, Code.piece, opBody, Try.f37, Option.getD_some, List.size_toArray, List.length_cons, List.length_nil, Nat.reduceAdd, Nat.zero_add, List.range, List.range.loop]
  walk_nrm
  (refine oW fun dd K hK => ?_; go_simp; refine qT hK ?_; clear hK K)
  (refine oW fun dd K hK => ?_; go_simp; refine qT hK ?_; clear hK K)
  (refine oW fun dd K hK => ?_; go_simp; refine qT hK ?_; clear hK K)
  (refine oW fun dd K hK => ?_; go_simp; refine qT hK ?_; clear hK K)
  (refine oW fun dd K hK => ?_; go_simp; refine qT hK ?_; clear hK K)
  (refine oW fun dd K hK => ?_; go_simp; refine qT hK ?_; clear hK K)
  (refine oW fun dd K hK => ?_; go_simp; refine qT hK ?_; clear hK K)
  refine ogE ?_
  rw [ops3_eq]
  refine ogS ?_
  rw [opr3_eq]
  refine ogR ?_
  simp only [opo3, Code.opsOf, opr3, Code.piece, opBody, Try.f37, Option.getD_some, List.size_toArray, List.length_cons, List.length_nil, Nat.reduceAdd, Nat.zero_add, List.range, List.range.loop]
  (refine oW fun dd K hK => ?_; go_simp; refine qT hK ?_; clear hK K)
  (refine oW fun dd K hK => ?_; go_simp; refine qT hK ?_; clear hK K)
  (refine oW fun dd K hK => ?_; go_simp; refine qT hK ?_; clear hK K)
  (refine oW fun dd K hK => ?_; go_simp; refine qT hK ?_; clear hK K)
  (refine oW fun dd K hK => ?_; have hc0 := (hT.at dd).c0; have hc1 := (hT.at dd).c1; have hc2 := (hT.at dd).c2; have hc3 := (hT.at dd).c3; have hz0 := (hT.at dd).z; go_simp; refine hK _ _ ⟨⟨⟨0, grew4 (fun k => hnh k) _ _ _ _⟩, fun e he => by (have hm := mem_listed he; clear he hK; simp [go_sem, storedEv, hc0, hc1, hc2, hc3, hz0] at hm; rcases hm with rfl | rfl | rfl | rfl <;> exact evT_write _ _ ((fun k => hnh k) _))⟩, ?_⟩; clear hK K hc0 hc1 hc2 hc3 hz0; simp only [setCell_at']; refine Own.at ?_ dd)
  refine ogE ?_
  refine ogX ?_
  have hT2 := hT.put (.slice aa al ac) (.slice oa ol oc) (.slice none 0 0) (.bool st)
  change Own _ _ _ _ _ (trW w tb (.slice aa al ac) (.slice oa ol oc) (.slice none 0 0) (.bool st))
  generalize trW w tb (.slice aa al ac) (.slice oa ol oc) (.slice none 0 0) (.bool st) = W at hT2 h ⊢
  have hc0 := hT2.c0
  have hc1 := hT2.c1
  have hc2 := hT2.c2
  have hc3 := hT2.c3
  have hz0 := hT2.z
  refine own_leave (fn := Try.f37) (v := .agg #[.slice aa al ac, .slice oa ol oc, .slice none 0 0, .bool st]) rfl rfl Try.func37 (fun d => by simp [results, Try.f37, go_sem, hc0, hc1, hc2, hc3, hz0]) (fun d e he => by simp [results, Try.f37, go_sem, hc0, hc1, hc2, hc3, hz0] at he; rcases he with rfl | rfl | rfl | rfl <;> exact evT_read _ _) ?_
  exact h
end Go.Proofs.Ytcejbandeikdjaa
namespace Go.Proofs.Ytcejbandeikdjaa
open Go Go.Conc Go.RowKit Go.Proofs
variable {w w' : World} {L : Lay}
open Classical in
noncomputable def IW (w : World) (N : Nat → Prop) : Nat → Option Obj := fun r => if N r then none else match w.heap[r]? with
  | some (.cells c e z) => some (.cells c e z)
  | _ => none
theorem iw_mem {N : Nat → Prop} {r : Nat} (h : N r) : IW w N r = none := if_pos h
theorem iw_cells {N : Nat → Prop} {r : Nat} {c : Array Value} {e : TypeId} {z : Nat × Nat} (h : ¬ N r) (ho : w.heap[r]? = some (.cells c e z)) : IW w N r = some (.cells c e z) := by
  unfold IW
  rw [if_neg h, ho]
theorem iw_some {N : Nat → Prop} {r : Nat} {o : Obj} (h : IW w N r = some o) : ¬ N r ∧ w.heap[r]? = some o ∧ ∃ c e z, o = .cells c e z := by
  unfold IW at h
  split at h
  · cases h
  · rename_i hm
    split at h
    · rename_i c e z ho
      cases h
      exact ⟨hm, ho, c, e, z, rfl⟩
    · cases h
theorem madeCells_nil (n j : Nat) (h : j < n) : (madeCells #[Value.slice none 0 0] n)[j]? = some (.slice none 0 0) := by
  simp [madeCells, h, Nat.mod_one]
theorem madeCells_size (n : Nat) (v : Value) : (madeCells #[v] n).size = n := by
  simp [madeCells]
def x00 (s0 : L.S) : OX L := ⟨s0, fun _ => ⟨0, none, [], .slice none 0 0⟩⟩
theorem tr00 {r : Nat} : ¬ TR (⟨0, none, [], .slice none 0 0⟩ : Thr L) r := by
  rintro (h | ⟨a, ha, _⟩ | ⟨c, A, ab, h, _⟩)
  · cases h
  · cases ha
  · cases h
noncomputable def pOf (L : Lay) (s0 : L.S) (W : World) (n db aa av : Nat) (ib ob : Nat → Nat) (oa : Nat → Option Addr) (oc : Nat → Nat) (ops : Nat → List Op4) : Par :=
  ⟨n, aa, av, db, ib, ob, ops, oa, oc, IW W (fun r => r = aa ∨ L.SR s0 r)⟩
theorem pof_cells {s0 : L.S} {W : World} {n db aa av : Nat} {ib ob : Nat → Nat} {oa : Nat → Option Addr} {oc : Nat → Nat} {ops : Nat → List Op4} {r : Nat} {c : Array Value} {e : TypeId} {z : Nat × Nat} (h : ¬ (r = aa ∨ L.SR s0 r)) (ho : W.heap[r]? = some (.cells c e z)) : (pOf L s0 W n db aa av ib ob oa oc ops).I r = some (.cells c e z) := by
  exact iw_cells (w := W) (N := fun r => r = aa ∨ L.SR s0 r) h ho
theorem pof_some {s0 : L.S} {W : World} {n db aa av : Nat} {ib ob : Nat → Nat} {oa : Nat → Option Addr} {oc : Nat → Nat} {ops : Nat → List Op4} {r : Nat} {o : Obj} (h : (pOf L s0 W n db aa av ib ob oa oc ops).I r = some o) : ¬ (r = aa ∨ L.SR s0 r) ∧ W.heap[r]? = some o ∧ ∃ c e z, o = .cells c e z := by
  exact iw_some (w := W) (N := fun r => r = aa ∨ L.SR s0 r) h
theorem pof_mem {s0 : L.S} {W : World} {n db aa av : Nat} {ib ob : Nat → Nat} {oa : Nat → Option Addr} {oc : Nat → Nat} {ops : Nat → List Op4} {r : Nat} (h : r = aa ∨ L.SR s0 r) : (pOf L s0 W n db aa av ib ob oa oc ops).I r = none := by
  exact iw_mem (w := W) (N := fun r => r = aa ∨ L.SR s0 r) h
section
variable {s0 : L.S} {W w0 : World} {n db aa av tb o tl : Nat} {ib ob : Nat → Nat} {oa : Nat → Option Addr} {ol oc m : Nat → Nat} {ops : Nat → List Op4} {ta sa : Option Addr} {S : List Int} {l : Value}
theorem di_type {dv : Value} (hL : L.Ok) (hsu : L.SU s0 w0) (hD : DI w0 n n db aa av dv oa m oc ib ob l W) {r : Nat} {c : Array Value} {e : TypeId} {z : Nat × Nat} (ho : W.heap[r]? = some (.cells c e z)) (h84 : e ≠ 84) (hr : w0.heap.size ≤ r) : ¬ (r = aa ∨ L.SR s0 r) := by
  rintro (rfl | h)
  · rw [hD.haa] at ho
    cases ho
    exact h84 rfl
  · have := hL.lS _ _ _ hsu h
    omega
theorem pof_ok (hL : L.Ok) (hsu : L.SU s0 w0) (hI : OpsIn w0 (L.SR s0) n tb o tl ta oa ol oc ops S sa) (hD : DI w0 n n db aa av (.func (.func L.df) L.first L.capt) oa (fun j => (ops j).length) oc ib ob l W) : (pOf L s0 W n db aa av ib ob oa oc ops).Ok L where
  cells := fun r o h => (pof_some h).2.2
  len := fun i hi => by
    have : (ops i).length = min (ol i) 65536 := hI.hlen i hi
    show (ops i).length ≤ 65536
    omega
  inI := ⟨by
    show (pOf L s0 W n db aa av ib ob oa oc ops).I av ≠ none
    rw [pof_cells (di_type hL hsu hD hD.hav (by decide) hD.new.2.2) hD.hav]; simp, fun i hi => by
    show (pOf L s0 W n db aa av ib ob oa oc ops).I (ib i) ≠ none
    rw [pof_cells (di_type hL hsu hD (hD.hib i hi) (by decide) (hD.lo i hi).1) (hD.hib i hi)]; simp⟩
  av := fun u hu => ⟨⟨_, _, hu _ _ (pof_cells (di_type hL hsu hD hD.hav (by decide) hD.new.2.2) hD.hav), rfl⟩, rfl⟩
  db := fun u hu => ⟨⟨_, _, hu _ _ (pof_cells (di_type hL hsu hD hD.hdb (by decide) hD.new.1) hD.hdb), rfl⟩, rfl⟩
  ib := fun u hu i hi => ⟨⟨_, _, hu _ _ (pof_cells (di_type hL hsu hD (hD.hib i hi) (by decide) (hD.lo i hi).1) (hD.hib i hi)), rfl⟩, rfl⟩
  ob := fun u hu i hi => ⟨⟨_, _, hu _ _ (pof_cells (di_type hL hsu hD (hD.hob i hi) (by decide) (hD.lo i hi).2) (hD.hob i hi)), rfl⟩, rfl⟩
  op := fun u hu i hi k x hx => by
    obtain ⟨opb, oo, h1, h2, f0, f1, f2, f3, g0, g1, g2, g3⟩ := hI.hop i hi k x hx
    obtain ⟨c, e, z, ho⟩ := cell_block f0
    simp only at ho
    have hlt := (Array.getElem?_eq_some_iff.1 ho).1
    have hW := (hD.old opb hlt).trans ho
    have hN : ¬ (opb = aa ∨ L.SR s0 opb) := by
      rintro (h | h)
      · have := hD.new.2.1; omega
      · exact h2 h
    have hU := hu _ _ (pof_cells hN hW)
    have e1 : u.heap[opb]? = w0.heap[opb]? := hU.trans ho.symm
    have ec : ∀ k, u.cell? ⟨opb, k, none⟩ = w0.cell? ⟨opb, k, none⟩ := fun k => by unfold World.cell?; simp only [e1]
    have ez : ∀ k, u.frozen? ⟨opb, k, none⟩ = w0.frozen? ⟨opb, k, none⟩ := fun k => by unfold World.frozen?; simp only [e1]
    exact ⟨opb, oo, h1, (ec _).trans f0, (ec _).trans f1, (ec _).trans f2, (ec _).trans f3, (ez _).trans g0, (ez _).trans g1, (ez _).trans g2, (ez _).trans g3⟩
theorem ou_first {g : Gate} (hL : L.Ok) (hsu : L.SU s0 w0) (hD : DI w0 n n db aa av (.func (.func L.df) L.first L.capt) oa (fun j => (ops j).length) oc ib ob l W) : OU L (pOf L s0 W n db aa av ib ob oa oc ops) g (x00 s0) W where
  fix := fun r o h => (pof_some h).2.1
  su := hL.sS _ _ _ hsu hD.size fun r hr => hD.old r (hL.lS _ _ _ hsu hr)
  arr := ⟨_, hD.haa, madeCells_size _ _, fun i hi => madeCells_nil _ _ hi⟩
  thr := fun i hi => ⟨World.ownsRow_nil _ _ _ _, fun a ha => (by cases ha), rfl, Nat.zero_le _, fun a ha => (by cases ha), fun c A ab h => (by cases h)⟩
  ts := fun i hi r hr => absurd hr tr00
  sa := fun h => by
    have := hL.lS _ _ _ hsu h
    have h2 := hD.new.2.1
    show False
    have h3 : (pOf L s0 W n db aa av ib ob oa oc ops).aa = aa := rfl
    omega
  jj := fun i hi c A ab h => (by cases h)
  tt := fun i j hi hj hne r hr => absurd hr tr00
  inone := by
    rintro r (h | h | ⟨i, hi, h⟩)
    · exact pof_mem (.inr h)
    · exact pof_mem (.inl h)
    · exact absurd h tr00
end
end Go.Proofs.Ytcejbandeikdjaa
namespace Go.Proofs.Ytcejbandeikdjaa
open Go Go.Conc Go.RowKit Go.Proofs
variable {An : Anchor} {w w' : World} {L : Lay}
theorem OpsIn.alloc {N : Nat → Prop} {n tb o tl : Nat} {ta : Option Addr} {oa : Nat → Option Addr} {ol oc : Nat → Nat} {ops : Nat → List Op4} {S : List Int} {sa : Option Addr} (h : OpsIn w N n tb o tl ta oa ol oc ops S sa) (ob : Obj) : OpsIn (w.alloc ob) N n tb o tl ta oa ol oc ops S sa := by
  refine ⟨h.hn, h.hta, fun hp => by have := h.htb hp; simp; omega, fun j hj => ?_, h.hlen, fun j hj k x hx => ?_, h.hsl, fun hp => ?_⟩
  · obtain ⟨h1, h2, h3⟩ := h.hth j hj
    exact ⟨(cellB_alloc h1 ob).1, (cellB_alloc h1 ob).2.trans h2, h3⟩
  · obtain ⟨opb, oo, h1, h2, f0, f1, f2, f3, g0, g1, g2, g3⟩ := h.hop j hj k x hx
    exact ⟨opb, oo, h1, h2, (cellB_alloc f0 ob).1, (cellB_alloc f1 ob).1, (cellB_alloc f2 ob).1, (cellB_alloc f3 ob).1, (cellB_alloc f0 ob).2.trans g0, (cellB_alloc f1 ob).2.trans g1, (cellB_alloc f2 ob).2.trans g2, (cellB_alloc f3 ob).2.trans g3⟩
  · obtain ⟨sb, so, c, e, z, h1, h2, h3, h4⟩ := h.hS hp
    exact ⟨sb, so, c, e, z, h1, h2, (heap_alloc_lt _ _ (Array.getElem?_eq_some_iff.1 h3).1).trans h3, h4⟩
def Par.re (p : Par) (I : Nat → Option Obj) : Par := ⟨p.n, p.aa, p.av, p.db, p.ib, p.ob, p.ops, p.oa, p.oc, I⟩
theorem ThrU.re {p : Par} {I : Nat → Option Obj} {st i : Nat} {t : Thr L} (h : ThrU L p st i t w) : ThrU L (p.re I) st i t w := ⟨h.row, h.au, h.al, h.kl, h.ar, h.call⟩
theorem OU.re {p : Par} {g : Gate} {x : OX L} (h : OU L p g x w) {I : Nat → Option Obj} (hI : ∀ r o, I r = some o → p.I r = some o) : OU L (p.re I) g x w :=
  ⟨fun r o e => h.fix r o (hI r o e), h.su, h.arr, fun i hi => (h.thr i hi).re, h.ts, h.sa, h.jj, h.tt, fun r hr => by
    cases e : I r with
    | none => exact e
    | some o =>
      have := h.inone r hr
      rw [hI r o e] at this
      cases this⟩
theorem bes_ops (hL : L.Ok) {s0 : L.S} (hsu : L.SU s0 w) {n tb o tl tc sc M : Nat} {mo : Int} {ta sa : Option Addr} {oa : Nat → Option Addr} {ol oc : Nat → Nat} {ops : Nat → List Op4} {S : List Int} (hI : OpsIn w (L.SR s0) n tb o tl ta oa ol oc ops S sa) (hM : min (max mo 0) 1048576 = (M : Int)) {c : Frame} {cs : List Frame} {Stop : Goroutine → World → Prop}
    (hk : ∀ (g : Gate) (p p' : Par) (t : OX L × List Nat) (w' : World) (oa' : Option Addr) (oc' : Nat), g.n = n → p.n = n → p.ops = ops → (opsUsers L p g).Ok g → OverRel (opsUsers L p g) n M S (x00 s0) t → p'.n = n → p'.ops = ops → p'.aa = p.aa → OU L p' g t.1 w' →
      w'.ownsRow w.heap.size 3 1 (.slice oa' t.2.length oc') t.2.length (t.2.map fun i : Nat => Value.int .i64 i) → (∀ y, oa' = some y → ¬ OR L p' t.1 y.block) → w.heap.size ≤ w'.heap.size → (∀ r c e z, w.heap[r]? = some (.cells c e z) → ¬ L.SR s0 r → w'.heap[r]? = some (.cells c e z)) →
      Bes An Try.prog Stop (G (c.finish (.agg #[.slice (some ⟨p.aa, 0, none⟩) n n, .slice oa' t.2.length oc', .slice none 0 0, .bool (decide (0 < cnt ((opsUsers L p g).liv t.1) n))])) cs) w') :
    Bes An Try.prog Stop (G (Frame.enter Try.prog 37 #[.slice ta tl tc, .func (.func L.df) L.first L.capt, .slice sa S.length sc, .int .i64 mo] .normal) (c :: cs)) w := by
  have hw0 : ∀ r, r < w.heap.size → (w.alloc (.cells #[.slice none 0 0, .slice none 0 0, .slice none 0 0, .bool false] 29)).heap[r]? = w.heap[r]? := fun r hr => heap_alloc_lt _ _ hr
  have hs0 : (w.alloc (.cells #[.slice none 0 0, .slice none 0 0, .slice none 0 0, .bool false] 29)).heap.size = w.heap.size + 1 := by simp
  have htr : TrAt (w.alloc (.cells #[.slice none 0 0, .slice none 0 0, .slice none 0 0, .bool false] 29)) w.heap.size (.slice none 0 0) (.slice none 0 0) (.slice none 0 0) (.bool false) := ⟨heap_alloc_new _ _⟩
  have hI0 := hI.alloc (.cells #[.slice none 0 0, .slice none 0 0, .slice none 0 0, .bool false] 29)
  refine bes_own (F := F0) (Stop := fun a u => ∃ A l ib ob db aa av, a = G (Frame.enter Try.prog 62 #[l, .slice sa S.length sc, .int .i64 mo] .normal) (((Go.Conc.base 37).at ⟨A, []⟩ [.inRegion opo2 [3, 4, 5, 6, 7, 8, 9, 10], .code ops3]) :: c :: cs) ∧
      DI (w.alloc (.cells #[.slice none 0 0, .slice none 0 0, .slice none 0 0, .bool false] 29)) n n db aa av (.func (.func L.df) L.first L.capt) oa (fun j => (ops j).length) oc ib ob l u ∧ Slots 32 A [(8, .pointer (some ⟨w.heap.size, 0, none⟩)), (10, .slice (some ⟨aa, 0, none⟩) n n)])
    (op_0 under_F0 (Nat.zero_le _) fun A hA => own_doing hI0.hn hI0.htb (fun j hj => ⟨(hI0.hth j hj).1, (hI0.hth j hj).2.1, (hI0.hth j hj).2.2, (hI0.hlen j hj).symm⟩) hI0.hta fun w1 l ib ob db aa av hD => op_1 hA fun A2 hA2 => .stop fun d => ⟨A2, l, ib, ob, db, aa, av, rfl, hD.same (Nat.le_refl _) fun _ _ => rfl, hA2⟩) fun a W hS => ?_
  obtain ⟨A, l, ib, ob, db, aa, av, rfl, hD, hA⟩ := hS
  generalize w.alloc (.cells #[.slice none 0 0, .slice none 0 0, .slice none 0 0, .bool false] 29) = w0 at hw0 hs0 htr hI0 hD
  have hsu0 : L.SU s0 w0 := hL.sS _ _ _ hsu (by omega) fun r hr => hw0 r (hL.lS _ _ _ hsu hr)
  have hpok := pof_ok hL hsu0 hI0 hD
  have hn64 : n ≤ 64 := by have := hI.hn; omega
  have hU1 : ∀ g, OU L (pOf L s0 W n db aa av ib ob oa oc ops) g (x00 s0) W := fun g => ou_first hL hsu0 hD
  have hsrlt : ∀ r, L.SR s0 r → r < w.heap.size := fun r hr => hL.lS _ _ _ hsu hr
  have hDs := hD.size
  have hDn := hD.new
  obtain ⟨la, lc, rfl, hla⟩ : ∃ la lc, l = .slice la n lc ∧ (0 < n → ∃ lb cur, la = some ⟨lb, 0, none⟩ ∧ w0.heap.size ≤ lb ∧ W.heap[lb]? = some (.cells cur 117 (0, 0)) ∧ cur.toList.take n = (List.range n).map fun j => cl68 (ob j) db (ib j) av) := by
    rcases hD.row.2 with ⟨h1, h2⟩ | ⟨b, cap, cur, h1, h2, h3, h4, h5, h6, h7⟩
    · exact ⟨none, 0, by rw [h1, h2], fun h => by omega⟩
    · exact ⟨_, cap, h1, fun _ => ⟨b, cur, rfl, h2, h3, by simpa using h7⟩⟩
  have hnm : ∀ r c e z, W.heap[r]? = some (.cells c e z) → e ≠ 84 → ¬ L.SR s0 r → (pOf L s0 W n db aa av ib ob oa oc ops).I r = some (.cells c e z) := fun r c e z h1 h2 h3 => pof_cells (by
    rintro (rfl | h)
    · rw [hD.haa] at h1
      cases h1
      exact h2 rfl
    · exact h3 h) h1
  have hnA : ∀ r c e z, W.heap[r]? = some (.cells c e z) → r ≠ aa → ¬ L.SR s0 r → (pOf L s0 W n db aa av ib ob oa oc ops).I r = some (.cells c e z) := fun r c e z h1 h2 h3 => pof_cells (fun h => h.elim h2 h3) h1
  have hnewS : ∀ r, w0.heap.size ≤ r → ¬ L.SR s0 r := fun r hr h => by have := hsrlt r h; omega
  have hthr : ∃ lb, (0 < n → la = some ⟨lb, 0, none⟩) ∧ ∀ g : Gate, RowIs (opsUsers L (pOf L s0 W n db aa av ib ob oa oc ops) g) lb 0 ((List.range n).map fun j => .func (.func 68) #[] ((opsUsers L (pOf L s0 W n db aa av ib ob oa oc ops) g).cap j)) := by
    by_cases h0 : 0 < n
    · obtain ⟨lb, cur, h1, h2, h3, h4⟩ := hla h0
      refine ⟨lb, fun _ => h1, fun g => ⟨cur, 117, (0, 0), hnm lb _ _ _ h3 (by decide) (hnewS lb h2), fun k u hku => ⟨?_, by simp⟩⟩⟩
      have hku : ((List.range n).map fun j => cl68 (ob j) db (ib j) av)[k]? = some u := hku
      rw [← h4] at hku
      have hkn : k < n := by
        have := (List.getElem?_eq_some_iff.1 hku).1
        rw [List.length_take] at this
        omega
      rw [List.getElem?_take_of_lt hkn] at hku
      simpa using hku
    · refine ⟨av, fun h => absurd h h0, fun g => ⟨_, _, _, hnm av _ _ _ hD.hav (by decide) (hnewS av hDn.2.2), fun k u hku => ?_⟩⟩
      have : n = 0 := by omega
      rw [this] at hku
      simp at hku
  obtain ⟨lb, hlb, hrow⟩ := hthr
  have hsch : ∃ sb so, (0 < S.length → sa = some ⟨sb, so, none⟩) ∧ ∀ g : Gate, RowIs (opsUsers L (pOf L s0 W n db aa av ib ob oa oc ops) g) sb so (S.map fun i : Int => Value.int .i64 i) := by
    by_cases h0 : 0 < S.length
    · obtain ⟨sb, so, cc, e, z, h1, h2, h3, h4⟩ := hI0.hS h0
      have hlt := (Array.getElem?_eq_some_iff.1 h3).1
      refine ⟨sb, so, fun _ => h1, fun g => ⟨cc, e, z, hnA sb _ _ _ ((hD.old sb hlt).trans h3) (by omega) h2, h4⟩⟩
    · refine ⟨av, 0, fun h => absurd h h0, fun g => ⟨_, _, _, hnm av _ _ _ hD.hav (by decide) (hnewS av hDn.2.2), fun k u hku => ?_⟩⟩
      have : S = [] := List.length_eq_zero_iff.1 (by omega)
      rw [this] at hku
      simp at hku
  obtain ⟨sb, so, hsb, hsrow⟩ := hsch
  have htrI : (pOf L s0 W n db aa av ib ob oa oc ops).I w.heap.size = some (.cells #[.slice none 0 0, .slice none 0 0, .slice none 0 0, .bool false] 29 (0, 0)) :=
    hnm _ _ _ _ ((hD.old _ (by omega)).trans htr.o) (by decide) fun h => by have := hsrlt _ h; omega
  refine bes_over (Z := fun g => opsUsers L (pOf L s0 W n db aa av ib ob oa oc ops) g) (x0 := fun g => x00 s0) (tb := lb) (so := so) (sb := sb) hn64 hM hI.hsl (fun g hg _ => ops_ok hL hpok hg) (fun g w2 _ h1 h2 => OU.stable hL (hU1 g) h1 fun r hr => ?_) (fun g hg j hj => ⟨rfl, rfl⟩) (fun g r hr => OU.low (g := g) hL (hU1 g) hr) (fun g r hr => ⟨fixed_lt (p := pOf L s0 W n db aa av ib ob oa oc ops) (hU1 g).fix hr, fun h => hr ((hU1 g).inone r h)⟩) hlb (fun g _ => hrow g) hsb (fun g _ => hsrow g) ?_
  · have hlt : r < W.heap.size := hr.elim (OU.low hL (hU1 g)) (fixed_lt (hU1 g).fix)
    rw [h2 r _ (Array.getElem?_eq_getElem hlt), Array.getElem?_eq_getElem hlt]
  · intro g t u oa' oc' bv hg hrel hU hord hnR hsz
    have hU : OU L (pOf L s0 W n db aa av ib ob oa oc ops) g t.1 u := hU
    have hT : TrAt u w.heap.size (.slice none 0 0) (.slice none 0 0) (.slice none 0 0) (.bool false) := ⟨hU.fix _ _ htrI⟩
    refine bes_own (F := F0) (Stop := fun a u2 => a = G (c.finish (.agg #[.slice (some ⟨aa, 0, none⟩) n n, .slice oa' t.2.length oc', .slice none 0 0, .bool (decide (0 < cnt ((opsUsers L (pOf L s0 W n db aa av ib ob oa oc ops) g).liv t.1) n))])) cs ∧ ∃ d, u2 = (trW u w.heap.size (.slice (some ⟨aa, 0, none⟩) n n) (.slice oa' t.2.length oc') (.slice none 0 0) (.bool (decide (0 < cnt ((opsUsers L (pOf L s0 W n db aa av ib ob oa oc ops) g).liv t.1) n)))).at d)
      (op_2 hT (fun k h => by obtain ⟨z, hz, _⟩ := h; cases hz) hA (.stop fun d => ⟨rfl, d, rfl⟩)) fun a u2 ⟨ha, d, hu2⟩ => ?_
    subst ha
    subst hu2
    have hne : ∀ r, r ≠ w.heap.size → ((trW u w.heap.size (.slice (some ⟨aa, 0, none⟩) n n) (.slice oa' t.2.length oc') (.slice none 0 0) (.bool (decide (0 < cnt ((opsUsers L (pOf L s0 W n db aa av ib ob oa oc ops) g).liv t.1) n)))).at d).heap[r]? = u.heap[r]? := fun r hr => by
      show (trW _ _ _ _ _ _).heap[r]? = _
      unfold trW
      rw [heap_setCell_ne _ _ _ hr, heap_setCell_ne _ _ _ hr, heap_setCell_ne _ _ _ hr, heap_setCell_ne _ _ _ hr]
    have hsz2 : ((trW u w.heap.size (.slice (some ⟨aa, 0, none⟩) n n) (.slice oa' t.2.length oc') (.slice none 0 0) (.bool (decide (0 < cnt ((opsUsers L (pOf L s0 W n db aa av ib ob oa oc ops) g).liv t.1) n)))).at d).heap.size = u.heap.size := by
      show (trW _ _ _ _ _ _).heap.size = _
      unfold trW
      simp
    generalize (trW u w.heap.size (.slice (some ⟨aa, 0, none⟩) n n) (.slice oa' t.2.length oc') (.slice none 0 0) (.bool (decide (0 < cnt ((opsUsers L (pOf L s0 W n db aa av ib ob oa oc ops) g).liv t.1) n)))).at d = V at hne hsz2 ⊢
    let I' : Nat → Option Obj := fun r => if r = w.heap.size then none else (pOf L s0 W n db aa av ib ob oa oc ops).I r
    have hI' : ∀ r o, I' r = some o → r ≠ w.heap.size ∧ (pOf L s0 W n db aa av ib ob oa oc ops).I r = some o := fun r o h => by
      by_cases e : r = w.heap.size
      · simp [I', e] at h
      · exact ⟨e, by simpa [I', e] using h⟩
    have htrR : ¬ OR L (pOf L s0 W n db aa av ib ob oa oc ops) t.1 w.heap.size := fun h => by
      have := hU.inone _ h
      rw [htrI] at this
      cases this
    have hU2 : OU L ((pOf L s0 W n db aa av ib ob oa oc ops).re I') g t.1 u := hU.re fun r o h => (hI' r o h).2
    refine hk g (pOf L s0 W n db aa av ib ob oa oc ops) ((pOf L s0 W n db aa av ib ob oa oc ops).re I') t V oa' oc' hg rfl rfl (ops_ok hL hpok hg) hrel rfl rfl rfl (hU2.stable hL (by omega) fun r hr => hne r ?_) ?_ hnR (by omega) fun r cc e z hr hnS => ?_
    · rintro rfl
      rcases hr with hr | hr
      · exact htrR hr
      · cases e : I' w.heap.size with
        | none => exact hr e
        | some o => exact (hI' _ _ e).1 rfl
    · refine ownsRow_mono_base (by omega) (ownsRow_same2 hord fun b hb hbn => hne b (by omega))
    · have hlt := (Array.getElem?_eq_some_iff.1 hr).1
      rw [hne r (by omega)]
      exact hU.fix _ _ (hnA r _ _ _ ((hD.old r (by omega)).trans ((hw0 r hlt).trans hr)) (by omega) hnS)
end Go.Proofs.Ytcejbandeikdjaa
namespace Go.Proofs.Ytcejbandeikdjaa
open Go Go.Conc Go.RowKit Go.Proofs
variable {F : Fz} {w : World}
noncomputable def bhBody : Code := Try.f22.body.getD .skip
noncomputable def bhs0 : Code := Code.piece [] bhBody
noncomputable def bhr0 : Code := Code.piece [true] bhBody
noncomputable def bho0 : Array Oper := Code.opsOf bhr0
noncomputable def bhs1 : Code := Code.piece [false] bhBody
noncomputable def bhs2 : Code := Code.piece [false, true] bhBody
noncomputable def bhr1 : Code := Code.piece [false, true, true] bhBody
noncomputable def bho1 : Array Oper := Code.opsOf bhr1
noncomputable def bhc6 : Code := Code.piece [false, true, false] bhBody
noncomputable def bhs3 : Code := Code.piece [false, true, false, true] bhBody
noncomputable def bhr2 : Code := Code.piece [false, true, false, true, true] bhBody
noncomputable def bho2 : Array Oper := Code.opsOf bhr2
noncomputable def bhs4 : Code := Code.piece [false, false] bhBody
noncomputable def bhr3 : Code := Code.piece [false, false, true] bhBody
noncomputable def bho3 : Array Oper := Code.opsOf bhr3
noncomputable def bhs5 : Code := Code.piece [false, false, false] bhBody
noncomputable def bhs6 : Code := Code.piece [false, false, false, true] bhBody
noncomputable def bhr4 : Code := Code.piece [false, false, false, true, true] bhBody
noncomputable def bho4 : Array Oper := Code.opsOf bhr4
noncomputable def bhb0 : Code := Code.piece [false, false, false, true, false] bhBody
noncomputable def bhl7 : Code := Code.piece [false, false, false, true, false, true] bhBody
noncomputable def bhs8 : Code := Code.piece [false, false, false, true, false, true, true] bhBody
noncomputable def bhs9 : Code := Code.piece [false, false, false, true, false, true, true, true] bhBody
noncomputable def bhr5 : Code := Code.piece [false, false, false, true, false, true, true, true, true] bhBody
noncomputable def bho5 : Array Oper := Code.opsOf bhr5
noncomputable def bhc15 : Code := Code.piece [false, false, false, true, false, true, true, true, false] bhBody
noncomputable def bhs10 : Code := Code.piece [false, false, false, true, false, true, true, false] bhBody
noncomputable def bhb1 : Code := Code.piece [false, false, false, true, false, true, true, false, true] bhBody
noncomputable def bhr7 : Code := Code.piece [false, false, false, true, false, true, true, false, true, true] bhBody
noncomputable def bho7 : Array Oper := Code.opsOf bhr7
noncomputable def bhr6 : Code := Code.piece [false, false, false, true, false, true, true, false, false] bhBody
noncomputable def bho6 : Array Oper := Code.opsOf bhr6
noncomputable def bhs11 : Code := Code.piece [false, false, false, false] bhBody
noncomputable def bhr8 : Code := Code.piece [false, false, false, false, true] bhBody
noncomputable def bho8 : Array Oper := Code.opsOf bhr8
theorem bhs0_eq : bhs0 = .seq bhr0 bhs1 := by kernel_rfl
theorem bhr0_eq : bhr0 = .region 0 bho0 false := by kernel_rfl
theorem bhs1_eq : bhs1 = .seq bhs2 bhs4 := by kernel_rfl
theorem bhs2_eq : bhs2 = .seq bhr1 bhc6 := by kernel_rfl
theorem bhr1_eq : bhr1 = .region 1 bho1 false := by kernel_rfl
theorem bhc6_eq : bhc6 = .cond (.tmp 6) bhs3 .skip := by kernel_rfl
theorem bhs3_eq : bhs3 = .seq bhr2 .ret := by kernel_rfl
theorem bhr2_eq : bhr2 = .region 2 bho2 false := by kernel_rfl
theorem bhs4_eq : bhs4 = .seq bhr3 bhs5 := by kernel_rfl
theorem bhr3_eq : bhr3 = .region 3 bho3 false := by kernel_rfl
theorem bhs5_eq : bhs5 = .seq bhs6 bhs11 := by kernel_rfl
theorem bhs6_eq : bhs6 = .seq bhr4 bhb0 := by kernel_rfl
theorem bhr4_eq : bhr4 = .region 4 bho4 false := by kernel_rfl
theorem bhb0_eq : bhb0 = .block 0 bhl7 := by kernel_rfl
theorem bhl7_eq : bhl7 = .loop bhs8 := by kernel_rfl
theorem bhs8_eq : bhs8 = .seq bhs9 bhs10 := by kernel_rfl
theorem bhs9_eq : bhs9 = .seq bhr5 bhc15 := by kernel_rfl
theorem bhr5_eq : bhr5 = .region 5 bho5 false := by kernel_rfl
theorem bhc15_eq : bhc15 = .cond (.tmp 15) .skip (.exit 0) := by kernel_rfl
theorem bhs10_eq : bhs10 = .seq bhb1 bhr6 := by kernel_rfl
theorem bhb1_eq : bhb1 = .block 1 bhr7 := by kernel_rfl
theorem bhr7_eq : bhr7 = .region 7 bho7 false := by kernel_rfl
theorem bhr6_eq : bhr6 = .region 6 bho6 false := by kernel_rfl
theorem bhs11_eq : bhs11 = .seq bhr8 .ret := by kernel_rfl
theorem bhr8_eq : bhr8 = .region 8 bho8 false := by kernel_rfl
theorem enter_bh (args : Array Value) : Frame.enter Try.prog 22 args .normal = (Go.Conc.base 22).at { tmps := args ++ Array.replicate (23 - args.size) undef, defers := [] } [.code bhs0] := enter_at args Try.func22 rfl
theorem callable22 : Callable 22 := callable Try.func22 rfl rfl
def bhT (s : Nat → Value) : Array Value := #[s 0, s 1, s 2, s 3, s 4, s 5, s 6, s 7, s 8, s 9, s 10, s 11, s 12, s 13, s 14, s 15, s 16, s 17, s 18, s 19, s 20, s 21, s 22]
theorem bhT_of {A : Array Value} (h : A.size = 23) : ∃ s, A = bhT s := by
  obtain ⟨s, hs, _⟩ := arr_lit A h
  exact ⟨s, hs⟩
set_option maxRecDepth 100000 in
set_option maxHeartbeats 2000000 in
theorem bh_0 {qb t : Nat} {hd : Addr} {nx : Option Addr} (hbh : BoxP w (some hd)) (hch : w.cell? ⟨qb, 0, none⟩ = some (.pointer (some hd))) (hbt : BoxP w (some ⟨t, 0, none⟩)) (hct : w.cell? ⟨qb, 1, none⟩ = some (.pointer (some ⟨t, 0, none⟩))) (hbn : BoxP w nx) (hcn : w.cell? ⟨t, 1, none⟩ = some (.pointer nx)) {cs : List Frame} {main : Bool} {Stop : Goroutine → World → Prop}
    (h : ∀ A, Slots 23 A [(3, .int .i64 (0 : Nat)), (4, .pointer nx)] → Own Try.prog main F Stop (G ((Go.Conc.base 22).at ⟨A, []⟩ [.code bhs8, .inLoop bhs8, .inBlock 0, .code bhs11]) cs) w) :
    Own Try.prog main F Stop (G (Frame.enter Try.prog 22 #[.pointer (some ⟨qb, 0, none⟩)] .normal) cs) w := by
  rw [enter_bh]
  walk_nrm
  rw [bhs0_eq]
  refine ogS ?_
  rw [bhr0_eq]
  refine ogR ?_
  simp only [bho0, Code.opsOf, bhr0, Code.piece, bhBody, Try.f22, Option.getD_some, List.size_toArray, List.length_cons, List.length_nil, Nat.reduceAdd, Nat.zero_add, List.range, List.range.loop]
  (refine oW fun dd K hK => ?_; go_simp; refine qT hK ?_; clear hK K)
  refine ogE ?_
  rw [bhs1_eq]
  refine ogS ?_
  rw [bhs2_eq]
  refine ogS ?_
  rw [bhr1_eq]
  refine ogR ?_
  simp only [bho1, Code.opsOf, bhr1, Code.piece, bhBody, Try.f22, Option.getD_some, List.size_toArray, List.length_cons, List.length_nil, Nat.reduceAdd, Nat.zero_add, List.range, List.range.loop]
  (refine oW fun dd K hK => ?_; go_simp; refine qT hK ?_; clear hK K)
  refine oc callable51 #[.pointer (some ⟨qb, 0, none⟩)] ?_
  refine own_no hbh hch ?_
  rw [Frame.finish_at]
  walk_nrm
  refine ogE ?_
  rw [bhc6_eq]
  refine ogF ?_
  simp only [Bool.false_eq_true, if_false]
  refine ogK ?_
  rw [bhs4_eq]
  refine ogS ?_
  rw [bhr3_eq]
  refine ogR ?_
  simp only [bho3, Code.opsOf, bhr3, Code.piece, bhBody, Try.f22, Option.getD_some, List.size_toArray, List.length_cons, List.length_nil, Nat.reduceAdd, Nat.zero_add, List.range, List.range.loop]
  (refine oW fun dd K hK => ?_; go_simp; refine qT hK ?_; clear hK K)
  refine ogE ?_
  rw [bhs5_eq]
  refine ogS ?_
  rw [bhs6_eq]
  refine ogS ?_
  rw [bhr4_eq]
  refine ogR ?_
  simp only [bho4, Code.opsOf, bhr4, Code.piece, bhBody, Try.f22, Option.getD_some, List.size_toArray, List.length_cons, List.length_nil, Nat.reduceAdd, Nat.zero_add, List.range, List.range.loop]
  (refine oW fun dd K hK => ?_; go_simp; refine qT hK ?_; clear hK K)
  (refine oW fun dd K hK => ?_; go_simp; refine qT hK ?_; clear hK K)
  (refine oW fun dd K hK => ?_; go_simp; refine qT hK ?_; clear hK K)
  refine oc callable52 #[.pointer (some ⟨qb, 1, none⟩)] ?_
  refine own_load hbt hct rfl ?_
  rw [Frame.finish_at]
  walk_nrm
  (refine oW fun dd K hK => ?_; go_simp; refine qT hK ?_; clear hK K)
  (refine oW fun dd K hK => ?_; go_simp; refine qT hK ?_; clear hK K)
  refine oc callable52 #[.pointer (some ⟨t, 1, none⟩)] ?_
  refine own_load hbn hcn rfl ?_
  rw [Frame.finish_at]
  walk_nrm
  (refine oW fun dd K hK => ?_; go_simp; refine qT hK ?_; clear hK K)
  refine ogE ?_
  rw [bhb0_eq]
  refine ogB ?_
  rw [bhl7_eq]
  refine ogP ?_
  refine h _ ?_
  exact ⟨rfl, rfl, rfl, trivial⟩
set_option maxRecDepth 100000 in
set_option maxHeartbeats 2000000 in
theorem bh_1 {b k : Nat} (hk : k < 10000000) {nx : Option Addr} (hbn : BoxP w nx) (hcn : w.cell? ⟨b, 1, none⟩ = some (.pointer nx)) {A : Array Value} (hA : Slots 23 A [(3, .int .i64 k), (4, .pointer (some ⟨b, 0, none⟩))]) {cs : List Frame} {main : Bool} {Stop : Goroutine → World → Prop}
    (h : ∀ A, Slots 23 A [(3, .int .i64 (k + 1 : Nat)), (4, .pointer nx)] → Own Try.prog main F Stop (G ((Go.Conc.base 22).at ⟨A, []⟩ [.code bhs8, .inLoop bhs8, .inBlock 0, .code bhs11]) cs) w) :
    Own Try.prog main F Stop (G ((Go.Conc.base 22).at ⟨A, []⟩ [.code bhs8, .inLoop bhs8, .inBlock 0, .code bhs11]) cs) w := by
  obtain ⟨hsz, h3, h4, _⟩ := hA
  obtain ⟨s, rfl⟩ := bhT_of hsz
  change s 3 = _ at h3
  change s 4 = _ at h4
  clear hsz
  simp only [bhT, h3, h4]
  clear h3 h4
  have hk64 : IntKind.i64.wrap ((k : Int) + 1) = (k : Int) + 1 := IntWalk.i64_in _ (by omega)
  rw [bhs8_eq]
  refine ogS ?_
  rw [bhs9_eq]
  refine ogS ?_
  rw [bhr5_eq]
  refine ogR ?_
  simp only [bho5, Code.opsOf, bhr5, Code.piece, bhBody, Try.f22, Option.getD_some, List.size_toArray, List.length_cons, List.length_nil, Nat.reduceAdd, Nat.zero_add, List.range, List.range.loop]
  (refine oW fun dd K hK => ?_; go_simp; refine qT hK ?_; clear hK K)
  (refine oW fun dd K hK => ?_; go_simp; refine qT hK ?_; clear hK K)
  refine ogE ?_
  rw [bhc15_eq]
  refine ogT ?_
  simp only [if_true]
  refine ogK ?_
  rw [bhs10_eq]
  refine ogS ?_
  rw [bhb1_eq]
  refine ogB ?_
  rw [bhr7_eq]
  refine ogR ?_
  simp only [bho7, Code.opsOf, bhr7, Code.piece, bhBody, Try.f22, Option.getD_some, List.size_toArray, List.length_cons, List.length_nil, Nat.reduceAdd, Nat.zero_add, List.range, List.range.loop]
  (refine oW fun dd K hK => ?_; go_simp; refine qT hK ?_; clear hK K)
  (refine oW fun dd K hK => ?_; go_simp; refine qT hK ?_; clear hK K)
  (refine oW fun dd K hK => ?_; go_simp; refine qT hK ?_; clear hK K)
  refine ogE ?_
  refine ogI ?_
  rw [bhr6_eq]
  refine ogR ?_
  simp only [bho6, Code.opsOf, bhr6, Code.piece, bhBody, Try.f22, Option.getD_some, List.size_toArray, List.length_cons, List.length_nil, Nat.reduceAdd, Nat.zero_add, List.range, List.range.loop]
  (refine oW fun dd K hK => ?_; go_simp; refine qT hK ?_; clear hK K)
  (refine oW fun dd K hK => ?_; go_simp; refine qT hK ?_; clear hK K)
  (refine oW fun dd K hK => ?_; go_simp; refine qT hK ?_; clear hK K)
  refine oc callable52 #[.pointer (some ⟨b, 1, none⟩)] ?_
  refine own_load hbn hcn rfl ?_
  rw [Frame.finish_at]
  walk_nrm
  (refine oW fun dd K hK => ?_; go_simp; refine qT hK ?_; clear hK K)
  refine ogE ?_
  refine ogL ?_
  refine h _ ?_
  exact ⟨rfl, rfl, rfl, trivial⟩
set_option maxRecDepth 100000 in
set_option maxHeartbeats 2000000 in
theorem bh_2 {k : Nat} {A : Array Value} (hA : Slots 23 A [(3, .int .i64 k), (4, .pointer none)]) {c : Frame} {cs : List Frame} {main : Bool} {Stop : Goroutine → World → Prop}
    (h : Own Try.prog main F Stop (G (c.finish (.int .i64 k)) cs) w) :
    Own Try.prog main F Stop (G ((Go.Conc.base 22).at ⟨A, []⟩ [.code bhs8, .inLoop bhs8, .inBlock 0, .code bhs11]) (c :: cs)) w := by
  obtain ⟨hsz, h3, h4, _⟩ := hA
  obtain ⟨s, rfl⟩ := bhT_of hsz
  change s 3 = _ at h3
  change s 4 = _ at h4
  clear hsz
  simp only [bhT, h3, h4]
  clear h3 h4
  rw [bhs8_eq]
  refine ogS ?_
  rw [bhs9_eq]
  refine ogS ?_
  rw [bhr5_eq]
  refine ogR ?_
  simp only [bho5, Code.opsOf, bhr5, Code.piece, bhBody, Try.f22, Option.getD_some, List.size_toArray, List.length_cons, List.length_nil, Nat.reduceAdd, Nat.zero_add, List.range, List.range.loop]
  (refine oW fun dd K hK => ?_; go_simp; refine qT hK ?_; clear hK K)
  (refine oW fun dd K hK => ?_; go_simp; refine qT hK ?_; clear hK K)
  refine ogE ?_
  rw [bhc15_eq]
  refine ogF ?_
  simp only [Bool.false_eq_true, if_false]
  refine own_go rfl (fun d => stepG_exit rfl) ?_
  rw [bhs11_eq]
  refine ogS ?_
  rw [bhr8_eq]
  refine ogR ?_
  simp only [bho8, Code.opsOf, bhr8, Code.piece, bhBody, Try.f22, Option.getD_some, List.size_toArray, List.length_cons, List.length_nil, Nat.reduceAdd, Nat.zero_add, List.range, List.range.loop]
  (refine oW fun dd K hK => ?_; go_simp; refine qT hK ?_; clear hK K)
  (refine oW fun dd K hK => ?_; go_simp; refine qT hK ?_; clear hK K)
  refine ogE ?_
  refine ogX ?_
  refine own_go rfl (fun d => stepG_leave (fn := Try.f22) (v := .int .i64 k) rfl rfl Try.func22 (by simp [results, Try.f22]) (by simp [results, Try.f22, go_sem])) ?_
  exact h
end Go.Proofs.Ytcejbandeikdjaa
namespace Go.Proofs.Ytcejbandeikdjaa
open Go Go.Conc Go.RowKit Go.Proofs
section
variable {P : Program} {F : Fz} {w : World} {main : Bool} {Stop : Goroutine → World → Prop} {b : Frame} {a : Act} {cs : List Frame} {ops : Array Oper} {i : Nat} {rest : List Nat} {kk : List Item} {o : Oper} {f : FuncId} {fn : Func} {ats : Array TypeId}
theorem own_store_ptr {x y : Operand} (ho : ops[i]? = some o) (hw : Region.wanted o (yielded ops a.tmps) = true) (hk : b.kind ≠ .early) (hop : o.op = .call { callee := .value (.func f), args := #[x, y], argTypes := ats })
    (hf : P.funcs[f]? = some fn) (hname : (fn.name == "runtime.NumGoroutine") = false) (hb : fn.body.isNone = true) (hn : Extern.findNext fn = none)
    (he : Extern.find fn = some Extern.Atomic.storeT) {ad : Addr} {v n : Option Addr} (hs : ad.spot = none) (hx : a.eval x = .pointer (some ad)) (hy : a.eval y = .pointer n) (hc : w.cell? ad = some (.pointer v)) (hfz : w.frozen? ad = false) (hnh : ¬ held F ad)
    (h : Own P main F Stop (G (b.at (a.put o.dst (.tuple #[])) (.inRegion ops rest :: kk)) cs) (w.setCell ad (.pointer n))) : Own P main F Stop (G (b.at a (.inRegion ops (i :: rest) :: kk)) cs) w := by
  have e1 : execOp a.eval o = callFunc f #[.pointer (some ad), .pointer n] := exec_extern hop (by simp [hx, hy])
  refine own_val (w' := w.setCell ad (.pointer n)) ho hw hk (fun d => ?_) (fun d => ⟨0, by simpa [setCell_at'] using grew_setCell (w := w.at d) hs hnh (.pointer n)⟩) (fun d e hm => ?_) h
  · have hc' : (w.at d).cell? ad = some (.pointer v) := hc
    have hz' : (w.at d).frozen? ad = false := hfz
    rw [e1, run_callFunc_extern hf hname hb hn he]
    change (Sem.run P (do
      store (← asAddr (.pointer (some ad))) (.pointer n) .atomic
      pure (Value.tuple #[])) (w.at d)).andThen _ = _
    simp [asAddr, hc', hz', run_store P (w.at d) ad (.pointer n) .atomic rfl, Result.andThen, setCell_at']
  · have hc' : (w.at d).cell? ad = some (.pointer v) := hc
    have hz' : (w.at d).frozen? ad = false := hfz
    rw [e1, events_callFunc_extern hf hname hb hn he] at hm
    change e ∈ Sem.events P (do
      store (← asAddr (.pointer (some ad))) (.pointer n) .atomic
      pure (Value.tuple #[])) (w.at d) _ at hm
    simp [asAddr, hc', hz', run_store P (w.at d) ad (.pointer n) .atomic rfl, events_store P (w.at d) _ ad (.pointer n) .atomic rfl] at hm
    rcases hm with rfl | rfl
    · exact evT_ext f
    · exact evT_write _ _ hnh
end
variable {F : Fz} {w : World}
noncomputable def qpsBody : Code := Try.f47.body.getD .skip
noncomputable def qpsr0 : Code := Code.piece [] qpsBody
noncomputable def qpso0 : Array Oper := Code.opsOf qpsr0
theorem qpsr0_eq : qpsr0 = .region 0 qpso0 false := by kernel_rfl
theorem enter_qps (args : Array Value) : Frame.enter Try.prog 47 args .normal = (Go.Conc.base 47).at { tmps := args ++ Array.replicate (10 - args.size) undef, defers := [] } [.code qpsr0] := enter_at args Try.func47 rfl
theorem callable47 : Callable 47 := callable Try.func47 rfl rfl
def qpsT (s : Nat → Value) : Array Value := #[s 0, s 1, s 2, s 3, s 4, s 5, s 6, s 7, s 8, s 9]
theorem qpsT_of {A : Array Value} (h : A.size = 10) : ∃ s, A = qpsT s := by
  obtain ⟨s, hs, _⟩ := arr_lit A h
  exact ⟨s, hs⟩
set_option maxRecDepth 100000 in
theorem own_store {ad : Addr} {v n : Option Addr} (hc : w.cell? ad = some (.pointer v)) (hs : ad.spot = none) (hz : w.frozen? ad = false) (hnh : ¬ held F ad) (hbn : BoxP w n) {c : Frame} {cs : List Frame} {main : Bool} {Stop : Goroutine → World → Prop} (h : Own Try.prog main F Stop (G (c.finish (.tuple #[])) cs) (w.setCell ad (.pointer n))) :
    Own Try.prog main F Stop (G (Frame.enter Try.prog 47 #[.pointer (some ad), .pointer n] .normal) (c :: cs)) w := by
  obtain ⟨ab, ao, asp⟩ := ad
  simp only at hs
  subst hs
  have cv := fun d => (conv54 (hbn.at d)).1
  have cvE := fun d => (conv54 (hbn.at d)).2
  rw [enter_qps]
  walk_nrm
  rw [qpsr0_eq]
  refine ogR ?_
  simp only [qpso0, Code.opsOf, qpsr0, Code.piece, qpsBody, Try.f47, Option.getD_some, List.size_toArray, List.length_cons, List.length_nil, Nat.reduceAdd, Nat.zero_add, List.range, List.range.loop]
  (refine oW fun dd K hK => ?_; go_simp; refine qT hK ?_; clear hK K)
  (refine oW fun dd K hK => ?_; go_simp; refine qT hK ?_; clear hK K)
  (refine oW fun dd K hK => ?_; go_simp; refine qT hK ?_; clear hK K)
  (refine oW fun dd K hK => ?_; go_simp; refine qT hK ?_; clear hK K)
  (refine own_val (v := _) (w' := w) rfl rfl (by decide) (fun d => by simp [execOp, Act.eval, cv d]; rfl) (fun d => ⟨0, Grew.refl _ _⟩) (fun d e hm => by simp [execOp, Act.eval, cvE d] at hm) ?_; walk_nrm)
  refine own_store_ptr (f := 63) (fn := Try.f63) rfl rfl (by decide) rfl Try.func63 rfl rfl rfl rfl rfl rfl rfl hc hz hnh ?_
  walk_nrm
  refine ogE ?_
  refine own_go rfl (fun d => stepG_end) ?_
  refine own_go rfl (fun d => stepG_leave (fn := Try.f47) (v := .tuple #[]) rfl rfl Try.func47 (by simp [results, Try.f47]) (by simp [results, Try.f47, go_sem])) ?_
  exact h
end Go.Proofs.Ytcejbandeikdjaa
namespace Go.Proofs.Ytcejbandeikdjaa
open Go Go.Conc Go.RowKit Go.Proofs
variable {F : Fz} {w : World}
theorem built62 : Try.prog.built 62 [] = some #[.pointer none, .pointer none] := by kernel_rfl
@[go_sem] theorem run_build62 (w : World) : (Instr.build 62 #[]).run Try.prog w = .ok (.agg #[.pointer none, .pointer none]) w := run_build w _ _ _ built62
@[go_sem] theorem ev_build62 (w : World) (es : Array Event) : (Instr.build 62 #[]).events Try.prog w es = es := ev_build w es _ _ _ _ Try.underlying62 built62
theorem built106z : Try.prog.built 106 [] = some #[.int .i64 0, .pointer none] := by kernel_rfl
@[go_sem] theorem run_build106z (w : World) : (Instr.build 106 #[]).run Try.prog w = .ok (.agg #[.int .i64 0, .pointer none]) w := run_build w _ _ _ built106z
@[go_sem] theorem ev_build106z (w : World) (es : Array Event) : (Instr.build 106 #[]).events Try.prog w es = es := ev_build w es _ _ _ _ Try.underlying106 built106z
noncomputable def nwBody : Code := Try.f16.body.getD .skip
noncomputable def nws0 : Code := Code.piece [] nwBody
noncomputable def nwr0 : Code := Code.piece [true] nwBody
noncomputable def nwo0 : Array Oper := Code.opsOf nwr0
noncomputable def nws1 : Code := Code.piece [false] nwBody
noncomputable def nwr1 : Code := Code.piece [false, true] nwBody
noncomputable def nwo1 : Array Oper := Code.opsOf nwr1
noncomputable def nws2 : Code := Code.piece [false, false] nwBody
noncomputable def nwr2 : Code := Code.piece [false, false, true] nwBody
noncomputable def nwo2 : Array Oper := Code.opsOf nwr2
noncomputable def nws3 : Code := Code.piece [false, false, false] nwBody
noncomputable def nws4 : Code := Code.piece [false, false, false, true] nwBody
noncomputable def nwr3 : Code := Code.piece [false, false, false, true, true] nwBody
noncomputable def nwo3 : Array Oper := Code.opsOf nwr3
noncomputable def nwb0 : Code := Code.piece [false, false, false, true, false] nwBody
noncomputable def nwl5 : Code := Code.piece [false, false, false, true, false, true] nwBody
noncomputable def nws6 : Code := Code.piece [false, false, false, true, false, true, true] nwBody
noncomputable def nwr4 : Code := Code.piece [false, false, false, true, false, true, true, true] nwBody
noncomputable def nwo4 : Array Oper := Code.opsOf nwr4
noncomputable def nws7 : Code := Code.piece [false, false, false, true, false, true, true, false] nwBody
noncomputable def nwc20 : Code := Code.piece [false, false, false, true, false, true, true, false, true] nwBody
noncomputable def nws8 : Code := Code.piece [false, false, false, true, false, true, true, false, false] nwBody
noncomputable def nwb1 : Code := Code.piece [false, false, false, true, false, true, true, false, false, true] nwBody
noncomputable def nws9 : Code := Code.piece [false, false, false, true, false, true, true, false, false, true, true] nwBody
noncomputable def nwr5 : Code := Code.piece [false, false, false, true, false, true, true, false, false, true, true, true] nwBody
noncomputable def nwo5 : Array Oper := Code.opsOf nwr5
noncomputable def nws10 : Code := Code.piece [false, false, false, true, false, true, true, false, false, true, true, false] nwBody
noncomputable def nwr6 : Code := Code.piece [false, false, false, true, false, true, true, false, false, true, true, false, true] nwBody
noncomputable def nwo6 : Array Oper := Code.opsOf nwr6
noncomputable def nws11 : Code := Code.piece [false, false, false, true, false, true, true, false, false, true, true, false, false] nwBody
noncomputable def nwr7 : Code := Code.piece [false, false, false, true, false, true, true, false, false, true, true, false, false, true] nwBody
noncomputable def nwo7 : Array Oper := Code.opsOf nwr7
noncomputable def nwr8 : Code := Code.piece [false, false, false, true, false, true, true, false, false, true, true, false, false, false] nwBody
noncomputable def nwo8 : Array Oper := Code.opsOf nwr8
noncomputable def nwr9 : Code := Code.piece [false, false, false, true, false, true, true, false, false, false] nwBody
noncomputable def nwo9 : Array Oper := Code.opsOf nwr9
noncomputable def nws12 : Code := Code.piece [false, false, false, false] nwBody
noncomputable def nwr10 : Code := Code.piece [false, false, false, false, true] nwBody
noncomputable def nwo10 : Array Oper := Code.opsOf nwr10
noncomputable def nws13 : Code := Code.piece [false, false, false, false, false] nwBody
noncomputable def nwr11 : Code := Code.piece [false, false, false, false, false, true] nwBody
noncomputable def nwo11 : Array Oper := Code.opsOf nwr11
theorem nws0_eq : nws0 = .seq nwr0 nws1 := by kernel_rfl
theorem nwr0_eq : nwr0 = .region 0 nwo0 false := by kernel_rfl
theorem nws1_eq : nws1 = .seq nwr1 nws2 := by kernel_rfl
theorem nwr1_eq : nwr1 = .region 1 nwo1 false := by kernel_rfl
theorem nws2_eq : nws2 = .seq nwr2 nws3 := by kernel_rfl
theorem nwr2_eq : nwr2 = .region 2 nwo2 false := by kernel_rfl
theorem nws3_eq : nws3 = .seq nws4 nws12 := by kernel_rfl
theorem nws4_eq : nws4 = .seq nwr3 nwb0 := by kernel_rfl
theorem nwr3_eq : nwr3 = .region 3 nwo3 false := by kernel_rfl
theorem nwb0_eq : nwb0 = .block 0 nwl5 := by kernel_rfl
theorem nwl5_eq : nwl5 = .loop nws6 := by kernel_rfl
theorem nws6_eq : nws6 = .seq nwr4 nws7 := by kernel_rfl
theorem nwr4_eq : nwr4 = .region 4 nwo4 false := by kernel_rfl
theorem nws7_eq : nws7 = .seq nwc20 nws8 := by kernel_rfl
theorem nwc20_eq : nwc20 = .cond (.tmp 20) .skip (.exit 0) := by kernel_rfl
theorem nws8_eq : nws8 = .seq nwb1 nwr9 := by kernel_rfl
theorem nwb1_eq : nwb1 = .block 1 nws9 := by kernel_rfl
theorem nws9_eq : nws9 = .seq nwr5 nws10 := by kernel_rfl
theorem nwr5_eq : nwr5 = .region 5 nwo5 false := by kernel_rfl
theorem nws10_eq : nws10 = .seq nwr6 nws11 := by kernel_rfl
theorem nwr6_eq : nwr6 = .region 6 nwo6 false := by kernel_rfl
theorem nws11_eq : nws11 = .seq nwr7 nwr8 := by kernel_rfl
theorem nwr7_eq : nwr7 = .region 7 nwo7 false := by kernel_rfl
theorem nwr8_eq : nwr8 = .region 8 nwo8 false := by kernel_rfl
theorem nwr9_eq : nwr9 = .region 9 nwo9 false := by kernel_rfl
theorem nws12_eq : nws12 = .seq nwr10 nws13 := by kernel_rfl
theorem nwr10_eq : nwr10 = .region 10 nwo10 false := by kernel_rfl
theorem nws13_eq : nws13 = .seq nwr11 .ret := by kernel_rfl
theorem nwr11_eq : nwr11 = .region 11 nwo11 false := by kernel_rfl
theorem enter_nw (args : Array Value) : Frame.enter Try.prog 16 args .normal = (Go.Conc.base 16).at { tmps := args ++ Array.replicate (39 - args.size) undef, defers := [] } [.code nws0] := enter_at args Try.func16 rfl
theorem callable16 : Callable 16 := callable Try.func16 rfl rfl
def nwT (s : Nat → Value) : Array Value := #[s 0, s 1, s 2, s 3, s 4, s 5, s 6, s 7, s 8, s 9, s 10, s 11, s 12, s 13, s 14, s 15, s 16, s 17, s 18, s 19, s 20, s 21, s 22, s 23, s 24, s 25, s 26, s 27, s 28, s 29, s 30, s 31, s 32, s 33, s 34, s 35, s 36, s 37, s 38]
theorem nwT_of {A : Array Value} (h : A.size = 39) : ∃ s, A = nwT s := by
  obtain ⟨s, hs, _⟩ := arr_lit A h
  exact ⟨s, hs⟩
set_option maxRecDepth 100000 in
set_option maxHeartbeats 2000000 in
theorem nw_0 {n : Nat} (hU : Under F n) (hn : n ≤ w.heap.size) {va : Option Addr} {vl vc : Nat} {cs : List Frame} {main : Bool} {Stop : Goroutine → World → Prop}
    (h : ∀ A, Slots 39 A [(0, .slice va vl vc), (3, .pointer (some ⟨w.heap.size, 0, none⟩)), (4, .pointer (some ⟨w.heap.size + 1, 0, none⟩)), (17, .slice va vl vc), (18, .int .i64 vl), (19, .int .i64 (0 : Nat))] → Own Try.prog main F Stop (G ((Go.Conc.base 16).at ⟨A, []⟩ [.code nws6, .inLoop nws6, .inBlock 0, .code nws12]) cs) (((w.alloc (.cells #[.pointer none, .pointer none] 62)).alloc (.cells #[.int .i64 0, .pointer none] 106)).setCell ⟨w.heap.size, 0, none⟩ (.pointer (some ⟨w.heap.size + 1, 0, none⟩)))) :
    Own Try.prog main F Stop (G (Frame.enter Try.prog 16 #[.slice va vl vc] .normal) cs) w := by
  rw [enter_nw]
  walk_nrm
  rw [nws0_eq]
  refine ogS ?_
  rw [nwr0_eq]
  refine ogR ?_
  simp only [nwo0, Code.opsOf, nwr0, Code.piece, nwBody, Try.f16, Option.getD_some, List.size_toArray, List.length_cons, List.length_nil, Nat.reduceAdd, Nat.zero_add, List.range, List.range.loop]
  (refine oW fun dd K hK => ?_; go_simp; refine qT hK ?_; clear hK K)
  refine ogE ?_
  rw [nws1_eq]
  refine ogS ?_
  rw [nwr1_eq]
  refine ogR ?_
  simp only [nwo1, Code.opsOf, nwr1, Code.piece, nwBody, Try.f16, Option.getD_some, List.size_toArray, List.length_cons, List.length_nil, Nat.reduceAdd, Nat.zero_add, List.range, List.range.loop]
  (refine oW fun dd K hK => ?_; go_simp; refine qT hK ?_; clear hK K)
  (refine oW fun dd K hK => ?_; go_simp; refine qA hK hU ?_; clear hK K)
  (refine oW fun dd K hK => ?_; go_simp; refine qT hK ?_; clear hK K)
  (refine oW fun dd K hK => ?_; go_simp; refine qA hK hU ?_; clear hK K)
  (refine oW fun dd K hK => ?_; go_simp; refine qT hK ?_; clear hK K)
  (refine oW fun dd K hK => ?_; go_simp; refine qT hK ?_; clear hK K)
  refine ogE ?_
  rw [nws2_eq]
  refine ogS ?_
  rw [nwr2_eq]
  refine ogR ?_
  simp only [nwo2, Code.opsOf, nwr2, Code.piece, nwBody, Try.f16, Option.getD_some, List.size_toArray, List.length_cons, List.length_nil, Nat.reduceAdd, Nat.zero_add, List.range, List.range.loop]
  (refine oW fun dd K hK => ?_; go_simp; refine qT hK ?_; clear hK K)
  (refine oW fun dd K hK => ?_; go_simp; refine qT hK ?_; clear hK K)
  (refine oW fun dd K hK => ?_; go_simp; refine qT hK ?_; clear hK K)
  (refine oW fun dd K hK => ?_; go_simp; refine qT hK ?_; clear hK K)
  have hb0 : BoxP ((w.alloc (.cells #[.pointer none, .pointer none] 62)).alloc (.cells #[.int .i64 0, .pointer none] 106)) (some ⟨w.heap.size + 1, 0, none⟩) := .inr ⟨w.heap.size + 1, #[.int .i64 0, .pointer none], (0, 0), rfl, by have := heap_alloc_new (w.alloc (.cells #[.pointer none, .pointer none] 62)) (.cells #[.int .i64 0, .pointer none] 106); simpa using this, rfl⟩
  have hc0 : ((w.alloc (.cells #[.pointer none, .pointer none] 62)).alloc (.cells #[.int .i64 0, .pointer none] 106)).heap[w.heap.size]? = some (.cells #[.pointer none, .pointer none] 62 (0, 0)) := (heap_alloc_lt _ _ (by simp)).trans (heap_alloc_new _ _)
  refine oc callable47 #[.pointer (some ⟨w.heap.size, 0, none⟩), .pointer (some ⟨w.heap.size + 1, 0, none⟩)] ?_
  refine own_store (v := none) (by simp [World.cell?, hc0]) rfl (by simp [World.frozen?, hc0]) (not_held hU (by simp; omega)) hb0 ?_
  rw [Frame.finish_at]
  walk_nrm
  generalize (((w.alloc (.cells #[.pointer none, .pointer none] 62)).alloc (.cells #[.int .i64 0, .pointer none] 106)).setCell ⟨w.heap.size, 0, none⟩ (.pointer (some ⟨w.heap.size + 1, 0, none⟩))) = W at h ⊢
  refine ogE ?_
  rw [nws3_eq]
  refine ogS ?_
  rw [nws4_eq]
  refine ogS ?_
  rw [nwr3_eq]
  refine ogR ?_
  simp only [nwo3, Code.opsOf, nwr3, Code.piece, nwBody, Try.f16, Option.getD_some, List.size_toArray, List.length_cons, List.length_nil, Nat.reduceAdd, Nat.zero_add, List.range, List.range.loop]
  (refine oW fun dd K hK => ?_; go_simp; refine qT hK ?_; clear hK K)
  (refine oW fun dd K hK => ?_; go_simp; refine qT hK ?_; clear hK K)
  (refine oW fun dd K hK => ?_; go_simp; refine qT hK ?_; clear hK K)
  refine ogE ?_
  rw [nwb0_eq]
  refine ogB ?_
  rw [nwl5_eq]
  refine ogP ?_
  refine h _ ?_
  exact ⟨rfl, rfl, rfl, rfl, rfl, rfl, rfl, trivial⟩
set_option maxRecDepth 100000 in
set_option maxHeartbeats 2000000 in
theorem nw_1 {n : Nat} (hU : Under F n) (hn : n ≤ w.heap.size) {vb vo vl vc qb lb k : Nat} {x v : Int} (hk : k < vl) (hk2 : k < 10000000) (hl : w.heap[lb]? = some (.cells #[.int .i64 x, .pointer none] 106 (0, 0))) (hnl : ¬ held F ⟨lb, 1, none⟩) (cv : w.cell? ⟨vb, vo + k, none⟩ = some (.int .i64 v)) (zv : w.frozen? ⟨vb, vo + k, none⟩ = false) {A : Array Value} (hA : Slots 39 A [(0, .slice (some ⟨vb, vo, none⟩) vl vc), (3, .pointer (some ⟨qb, 0, none⟩)), (4, .pointer (some ⟨lb, 0, none⟩)), (17, .slice (some ⟨vb, vo, none⟩) vl vc), (18, .int .i64 vl), (19, .int .i64 k)]) {cs : List Frame} {main : Bool} {Stop : Goroutine → World → Prop}
    (h : ∀ A, Slots 39 A [(0, .slice (some ⟨vb, vo, none⟩) vl vc), (3, .pointer (some ⟨qb, 0, none⟩)), (4, .pointer (some ⟨w.heap.size, 0, none⟩)), (17, .slice (some ⟨vb, vo, none⟩) vl vc), (18, .int .i64 vl), (19, .int .i64 (k + 1 : Nat))] → Own Try.prog main F Stop (G ((Go.Conc.base 16).at ⟨A, []⟩ [.code nws6, .inLoop nws6, .inBlock 0, .code nws12]) cs) ((w.alloc (.cells #[.int .i64 v, .pointer none] 106)).setCell ⟨lb, 1, none⟩ (.pointer (some ⟨w.heap.size, 0, none⟩)))) :
    Own Try.prog main F Stop (G ((Go.Conc.base 16).at ⟨A, []⟩ [.code nws6, .inLoop nws6, .inBlock 0, .code nws12]) cs) w := by
  obtain ⟨hsz, h0, h3, h4, h17, h18, h19, _⟩ := hA
  obtain ⟨s, rfl⟩ := nwT_of hsz
  change s 0 = _ at h0
  change s 3 = _ at h3
  change s 4 = _ at h4
  change s 17 = _ at h17
  change s 18 = _ at h18
  change s 19 = _ at h19
  clear hsz
  simp only [nwT, h0, h3, h4, h17, h18, h19]
  clear h0 h3 h4 h17 h18 h19
  have hk64 : IntKind.i64.wrap ((k : Int) + 1) = (k : Int) + 1 := IntWalk.i64_in _ (by omega)
  have hlt : decide ((k : Int) < (vl : Int)) = true := by simp; omega
  have hlt2 : decide (k < vl) = true := by simp; omega
  rw [nws6_eq]
  refine ogS ?_
  rw [nwr4_eq]
  refine ogR ?_
  simp only [nwo4, Code.opsOf, nwr4, Code.piece, nwBody, Try.f16, Option.getD_some, List.size_toArray, List.length_cons, List.length_nil, Nat.reduceAdd, Nat.zero_add, List.range, List.range.loop]
  (refine oW fun dd K hK => ?_; go_simp; refine qT hK ?_; clear hK K)
  refine ogE ?_
  rw [nws7_eq]
  refine ogS ?_
  rw [nwc20_eq]
  refine ogT ?_
  simp only [if_true]
  refine ogK ?_
  rw [nws8_eq]
  refine ogS ?_
  rw [nwb1_eq]
  refine ogB ?_
  rw [nws9_eq]
  refine ogS ?_
  rw [nwr5_eq]
  refine ogR ?_
  simp only [nwo5, Code.opsOf, nwr5, Code.piece, nwBody, Try.f16, Option.getD_some, List.size_toArray, List.length_cons, List.length_nil, Nat.reduceAdd, Nat.zero_add, List.range, List.range.loop]
  (refine oW fun dd K hK => ?_; go_simp; refine qX hK ?_; clear hK K)
  (refine oW fun dd K hK => ?_; go_simp; refine qL hK ?_; clear hK K)
  (refine oW fun dd K hK => ?_; go_simp; refine qT hK ?_; clear hK K)
  refine ogE ?_
  rw [nws10_eq]
  refine ogS ?_
  rw [nwr6_eq]
  refine ogR ?_
  simp only [nwo6, Code.opsOf, nwr6, Code.piece, nwBody, Try.f16, Option.getD_some, List.size_toArray, List.length_cons, List.length_nil, Nat.reduceAdd, Nat.zero_add, List.range, List.range.loop]
  (refine oW fun dd K hK => ?_; go_simp; refine qT hK ?_; clear hK K)
  (refine oW fun dd K hK => ?_; go_simp; refine qT hK ?_; clear hK K)
  (refine oW fun dd K hK => ?_; go_simp; refine qA hK hU ?_; clear hK K)
  (refine oW fun dd K hK => ?_; go_simp; refine qT hK ?_; clear hK K)
  refine ogE ?_
  rw [nws11_eq]
  refine ogS ?_
  rw [nwr7_eq]
  refine ogR ?_
  simp only [nwo7, Code.opsOf, nwr7, Code.piece, nwBody, Try.f16, Option.getD_some, List.size_toArray, List.length_cons, List.length_nil, Nat.reduceAdd, Nat.zero_add, List.range, List.range.loop]
  (refine oW fun dd K hK => ?_; go_simp; refine qT hK ?_; clear hK K)
  (refine oW fun dd K hK => ?_; go_simp; refine qT hK ?_; clear hK K)
  (refine oW fun dd K hK => ?_; go_simp; refine qT hK ?_; clear hK K)
  (refine oW fun dd K hK => ?_; go_simp; refine qT hK ?_; clear hK K)
  have hb0 : BoxP (w.alloc (.cells #[.int .i64 v, .pointer none] 106)) (some ⟨w.heap.size, 0, none⟩) := .inr ⟨w.heap.size, #[.int .i64 v, .pointer none], (0, 0), rfl, heap_alloc_new _ _, rfl⟩
  have hc0 : (w.alloc (.cells #[.int .i64 v, .pointer none] 106)).heap[lb]? = w.heap[lb]? := heap_alloc_lt _ _ (Array.getElem?_eq_some_iff.1 hl).1
  refine oc callable47 #[.pointer (some ⟨lb, 1, none⟩), .pointer (some ⟨w.heap.size, 0, none⟩)] ?_
  refine own_store (v := none) (by simp [World.cell?, hc0, hl]) rfl (by simp [World.frozen?, hc0, hl]) hnl hb0 ?_
  rw [Frame.finish_at]
  walk_nrm
  refine ogE ?_
  rw [nwr8_eq]
  refine ogR ?_
  simp only [nwo8, Code.opsOf, nwr8, Code.piece, nwBody, Try.f16, Option.getD_some, List.size_toArray, List.length_cons, List.length_nil, Nat.reduceAdd, Nat.zero_add, List.range, List.range.loop]
  (refine oW fun dd K hK => ?_; go_simp; refine qT hK ?_; clear hK K)
  (refine oW fun dd K hK => ?_; go_simp; refine qT hK ?_; clear hK K)
  refine ogE ?_
  refine ogI ?_
  rw [nwr9_eq]
  refine ogR ?_
  simp only [nwo9, Code.opsOf, nwr9, Code.piece, nwBody, Try.f16, Option.getD_some, List.size_toArray, List.length_cons, List.length_nil, Nat.reduceAdd, Nat.zero_add, List.range, List.range.loop]
  (refine oW fun dd K hK => ?_; go_simp; refine qT hK ?_; clear hK K)
  (refine oW fun dd K hK => ?_; go_simp; refine qT hK ?_; clear hK K)
  refine ogE ?_
  refine ogL ?_
  refine h _ ?_
  exact ⟨rfl, rfl, rfl, rfl, rfl, rfl, rfl, trivial⟩
set_option maxRecDepth 100000 in
set_option maxHeartbeats 2000000 in
theorem nw_2 {va : Option Addr} {vl vc qb lb : Nat} {x : Option Addr} (hc : w.cell? ⟨qb, 1, none⟩ = some (.pointer x)) (hz : w.frozen? ⟨qb, 1, none⟩ = false) (hnq : ¬ held F ⟨qb, 1, none⟩) (hb : BoxP w (some ⟨lb, 0, none⟩)) {A : Array Value} (hA : Slots 39 A [(0, .slice va vl vc), (3, .pointer (some ⟨qb, 0, none⟩)), (4, .pointer (some ⟨lb, 0, none⟩)), (17, .slice va vl vc), (18, .int .i64 vl), (19, .int .i64 vl)]) {c : Frame} {cs : List Frame} {main : Bool} {Stop : Goroutine → World → Prop}
    (h : Own Try.prog main F Stop (G (c.finish (.pointer (some ⟨qb, 0, none⟩))) cs) (w.setCell ⟨qb, 1, none⟩ (.pointer (some ⟨lb, 0, none⟩)))) :
    Own Try.prog main F Stop (G ((Go.Conc.base 16).at ⟨A, []⟩ [.code nws6, .inLoop nws6, .inBlock 0, .code nws12]) (c :: cs)) w := by
  obtain ⟨hsz, h0, h3, h4, h17, h18, h19, _⟩ := hA
  obtain ⟨s, rfl⟩ := nwT_of hsz
  change s 0 = _ at h0
  change s 3 = _ at h3
  change s 4 = _ at h4
  change s 17 = _ at h17
  change s 18 = _ at h18
  change s 19 = _ at h19
  clear hsz
  simp only [nwT, h0, h3, h4, h17, h18, h19]
  clear h0 h3 h4 h17 h18 h19
  have hlt : decide ((vl : Int) < (vl : Int)) = false := by simp
  rw [nws6_eq]
  refine ogS ?_
  rw [nwr4_eq]
  refine ogR ?_
  simp only [nwo4, Code.opsOf, nwr4, Code.piece, nwBody, Try.f16, Option.getD_some, List.size_toArray, List.length_cons, List.length_nil, Nat.reduceAdd, Nat.zero_add, List.range, List.range.loop]
  (refine oW fun dd K hK => ?_; go_simp; refine qT hK ?_; clear hK K)
  refine ogE ?_
  rw [nws7_eq]
  refine ogS ?_
  rw [nwc20_eq]
  refine ogF ?_
  simp only [Bool.false_eq_true, if_false]
  refine own_go rfl (fun d => stepG_exit rfl) ?_
  rw [nws12_eq]
  refine ogS ?_
  rw [nwr10_eq]
  refine ogR ?_
  simp only [nwo10, Code.opsOf, nwr10, Code.piece, nwBody, Try.f16, Option.getD_some, List.size_toArray, List.length_cons, List.length_nil, Nat.reduceAdd, Nat.zero_add, List.range, List.range.loop]
  (refine oW fun dd K hK => ?_; go_simp; refine qT hK ?_; clear hK K)
  (refine oW fun dd K hK => ?_; go_simp; refine qT hK ?_; clear hK K)
  (refine oW fun dd K hK => ?_; go_simp; refine qT hK ?_; clear hK K)
  (refine oW fun dd K hK => ?_; go_simp; refine qT hK ?_; clear hK K)
  refine oc callable47 #[.pointer (some ⟨qb, 1, none⟩), .pointer (some ⟨lb, 0, none⟩)] ?_
  refine own_store hc rfl hz hnq hb ?_
  rw [Frame.finish_at]
  walk_nrm
  refine ogE ?_
  rw [nws13_eq]
  refine ogS ?_
  rw [nwr11_eq]
  refine ogR ?_
  simp only [nwo11, Code.opsOf, nwr11, Code.piece, nwBody, Try.f16, Option.getD_some, List.size_toArray, List.length_cons, List.length_nil, Nat.reduceAdd, Nat.zero_add, List.range, List.range.loop]
  (refine oW fun dd K hK => ?_; go_simp; refine qT hK ?_; clear hK K)
  (refine oW fun dd K hK => ?_; go_simp; refine qT hK ?_; clear hK K)
  refine ogE ?_
  refine ogX ?_
  refine own_go rfl (fun d => stepG_leave (fn := Try.f16) (v := .pointer (some ⟨qb, 0, none⟩)) rfl rfl Try.func16 (by simp [results, Try.f16]) (by simp [results, Try.f16, go_sem])) ?_
  exact h
end Go.Proofs.Ytcejbandeikdjaa
namespace Go.Proofs.Ytcejbandeikdjaa
open Go Go.Conc Go.RowKit Go.Proofs
variable {w : World}
structure NI (w0 : World) (vs : List Int) (qb k : Nat) (bl : Nat → Nat) (w : World) : Prop where
  size : w0.heap.size ≤ w.heap.size
  old : ∀ r, r < w0.heap.size → w.heap[r]? = w0.heap[r]?
  hq : w.heap[qb]? = some (.cells #[.pointer (some ⟨bl 0, 0, none⟩), .pointer none] 62 (0, 0))
  hb : ∀ j, j ≤ k → w.heap[bl j]? = some (.cells #[.int .i64 (newV vs j), .pointer (if j < k then some ⟨bl (j + 1), 0, none⟩ else none)] 106 (0, 0))
  inj : ∀ i j, i ≤ k → j ≤ k → bl i = bl j → i = j
  lo : w0.heap.size ≤ qb ∧ ∀ j, j ≤ k → w0.heap.size ≤ bl j
theorem NI.ne {w0 : World} {vs : List Int} {qb k : Nat} {bl : Nat → Nat} (h : NI w0 vs qb k bl w) {j : Nat} (hj : j ≤ k) : bl j ≠ qb := by
  intro e
  have h1 := h.hb j hj
  rw [e, h.hq] at h1
  simp only [Option.some.injEq, Obj.cells.injEq] at h1
  exact absurd h1.2.1 (by decide)
theorem NI.done {w0 : World} {vs : List Int} {qb : Nat} {bl : Nat → Nat} (h : NI w0 vs qb vs.length bl w) : QU qb ⟨newRQ vs, (List.range (vs.length + 1)).map bl⟩ (w.setCell ⟨qb, 1, none⟩ (.pointer (some ⟨bl vs.length, 0, none⟩))) := by
  have hbk : ∀ j, j ≤ vs.length → QS.bk ⟨newRQ vs, (List.range (vs.length + 1)).map bl⟩ j = bl j := fun j hj => by
    simp [QS.bk, List.getD_eq_getElem?_getD, List.getElem?_map, List.getElem?_range (show j < vs.length + 1 by omega)]
  have hlen : (newRQ vs).B.length = vs.length + 1 := by simp [newRQ]
  refine ⟨by simp [newRQ], by rw [hlen]; simp [newRQ], by rw [hlen]; simp [newRQ], ?_, ?_, ?_, ?_⟩
  · intro k v n hk
    simp only at hk ⊢
    rw [hlen]
    simp only [newRQ, List.getElem?_map, Option.map_eq_some_iff, Prod.mk.injEq] at hk
    obtain ⟨a, h1, h2, h3⟩ := hk
    split at h3
    · simp only [Option.some.injEq] at h3; omega
    · cases h3
  · intro k v n hk
    simp only [newRQ, List.getElem?_map, Option.map_eq_some_iff, Prod.mk.injEq] at hk
    obtain ⟨a, h1, rfl, rfl⟩ := hk
    have h4 := List.getElem?_eq_some_iff.1 h1
    obtain ⟨h5, h6⟩ := h4
    simp only [List.length_range, List.getElem_range] at h5 h6
    subst h6
    rw [hbk k (by omega), heap_setCell_ne _ _ _ (h.ne (by omega)), h.hb k (by omega)]
    unfold QS.nv
    split
    · rename_i h7
      simp only [Option.map_some]
      rw [hbk (k + 1) (by omega)]
    · rfl
  · rw [heap_setCell_eq h.hq]
    unfold QS.pt
    show _ = some (Obj.cells #[.pointer (some ⟨QS.bk _ 0, 0, none⟩), .pointer (some ⟨QS.bk _ vs.length, 0, none⟩)] 62 (0, 0))
    rw [hbk 0 (by omega), hbk _ (Nat.le_refl _)]
    rfl
  · intro j k hj hk e
    simp only at hj hk
    rw [hlen] at hj hk
    rw [hbk j (by omega), hbk k (by omega)] at e
    exact h.inj j k (by omega) (by omega) e
set_option maxRecDepth 100000 in
theorem own_new_loop {w0 : World} {vs : List Int} {va : Option Addr} {vb vo vc qb : Nat} (hlen : vs.length < 10000000) (hva : 0 < vs.length → va = some ⟨vb, vo, none⟩) (hvb : 0 < vs.length → vb < w0.heap.size) (hv : ∀ k v, vs[k]? = some v → w0.cell? ⟨vb, vo + k, none⟩ = some (.int .i64 v) ∧ w0.frozen? ⟨vb, vo + k, none⟩ = false) {c : Frame} {cs : List Frame} {main : Bool} {Stop : Goroutine → World → Prop}
    (K : ∀ w' bl, NI w0 vs qb vs.length bl w' → Own Try.prog main F0 Stop (G (c.finish (.pointer (some ⟨qb, 0, none⟩))) cs) (w'.setCell ⟨qb, 1, none⟩ (.pointer (some ⟨bl vs.length, 0, none⟩)))) :
    ∀ (q k : Nat), k + q = vs.length → ∀ (w : World) (bl : Nat → Nat) (A : Array Value), NI w0 vs qb k bl w → Slots 39 A [(0, .slice va vs.length vc), (3, .pointer (some ⟨qb, 0, none⟩)), (4, .pointer (some ⟨bl k, 0, none⟩)), (17, .slice va vs.length vc), (18, .int .i64 vs.length), (19, .int .i64 k)] →
      Own Try.prog main F0 Stop (G ((Go.Conc.base 16).at ⟨A, []⟩ [.code nws6, .inLoop nws6, .inBlock 0, .code nws12]) (c :: cs)) w := by
  have hF : ∀ a : Addr, ¬ held F0 a := fun a h => by obtain ⟨z, hz, _⟩ := h; cases hz
  intro q
  induction q with
  | zero =>
    intro k hk w bl A hN hA
    obtain rfl : k = vs.length := by omega
    have hbx : BoxP w (some ⟨bl vs.length, 0, none⟩) := .inr ⟨_, _, _, rfl, hN.hb _ (Nat.le_refl _), rfl⟩
    exact nw_2 (x := none) (by simp [World.cell?, hN.hq]) (by simp [World.frozen?, hN.hq]) (hF _) hbx hA (K w bl hN)
  | succ q ih =>
    intro k hk w bl A hN hA
    have hkn : k < vs.length := by omega
    obtain rfl := hva (by omega)
    have hvb := hvb (by omega)
    obtain ⟨v, hv1⟩ : ∃ v, vs[k]? = some v := ⟨_, List.getElem?_eq_getElem hkn⟩
    obtain ⟨t1, t2⟩ := hv k v hv1
    have hsz := hN.size
    have hob := hN.old vb hvb
    have hlast := hN.hb k (Nat.le_refl _)
    rw [if_neg (Nat.lt_irrefl k)] at hlast
    refine nw_1 under_F0 (Nat.zero_le _) hkn (by omega) hlast (hF _) (by rw [← t1]; unfold World.cell?; simp only [hob]) (by rw [← t2]; unfold World.frozen?; simp only [hob]) hA fun A2 hA2 => ?_
    have hll := (Array.getElem?_eq_some_iff.1 hlast).1
    have e1 : ∀ r, r < w.heap.size → r ≠ bl k → ((w.alloc (.cells #[.int .i64 v, .pointer none] 106)).setCell ⟨bl k, 1, none⟩ (.pointer (some ⟨w.heap.size, 0, none⟩))).heap[r]? = w.heap[r]? := fun r h1 h2 => (heap_setCell_ne _ _ _ h2).trans (heap_alloc_lt _ _ h1)
    have e2 : ((w.alloc (.cells #[.int .i64 v, .pointer none] 106)).setCell ⟨bl k, 1, none⟩ (.pointer (some ⟨w.heap.size, 0, none⟩))).heap[w.heap.size]? = some (.cells #[.int .i64 v, .pointer none] 106 (0, 0)) := (heap_setCell_ne _ _ _ (show w.heap.size ≠ bl k by omega)).trans (heap_alloc_new _ _)
    have e3 : ((w.alloc (.cells #[.int .i64 v, .pointer none] 106)).setCell ⟨bl k, 1, none⟩ (.pointer (some ⟨w.heap.size, 0, none⟩))).heap[bl k]? = some (.cells #[.int .i64 (newV vs k), .pointer (some ⟨w.heap.size, 0, none⟩)] 106 (0, 0)) := by
      rw [heap_setCell_eq ((heap_alloc_lt _ _ hll).trans hlast)]
      rfl
    have e4 : ((w.alloc (.cells #[.int .i64 v, .pointer none] 106)).setCell ⟨bl k, 1, none⟩ (.pointer (some ⟨w.heap.size, 0, none⟩))).heap.size = w.heap.size + 1 := by simp
    generalize (w.alloc (.cells #[.int .i64 v, .pointer none] 106)).setCell ⟨bl k, 1, none⟩ (.pointer (some ⟨w.heap.size, 0, none⟩)) = W at e1 e2 e3 e4 ⊢
    have hlo := hN.lo
    have hblt : ∀ j, j ≤ k → bl j < w.heap.size := fun j hj => (Array.getElem?_eq_some_iff.1 (hN.hb j hj)).1
    have hqlt := (Array.getElem?_eq_some_iff.1 hN.hq).1
    let bl' : Nat → Nat := fun j => if j = k + 1 then w.heap.size else bl j
    have b1 : bl' (k + 1) = w.heap.size := if_pos rfl
    have b2 : ∀ j, j ≤ k → bl' j = bl j := fun j hj => if_neg (by omega)
    refine ih (k + 1) (by omega) W bl' A2 ⟨by omega, fun r hr => (e1 r (by omega) (by have := hlo.2 k (Nat.le_refl _); omega)).trans (hN.old r hr), ?_, ?_, ?_, hlo.1, ?_⟩ (by rw [b1]; exact hA2)
    · rw [b2 0 (Nat.zero_le _), e1 qb hqlt (fun e => hN.ne (Nat.le_refl k) e.symm)]
      exact hN.hq
    · intro j hj
      by_cases h1 : j = k + 1
      · subst h1
        rw [b1, e2, if_neg (Nat.lt_irrefl _)]
        have : newV vs (k + 1) = v := by simp [newV, List.getD_eq_getElem?_getD, hv1]
        rw [this]
      · by_cases h2 : j = k
        · subst h2
          rw [b2 j (Nat.le_refl _), e3, if_pos (by omega), b1]
        · rw [b2 j (by omega), e1 _ (hblt j (by omega)) (fun e => h2 (hN.inj j k (by omega) (Nat.le_refl _) e)), hN.hb j (by omega), if_pos (by omega), if_pos (by omega), b2 (j + 1) (by omega)]
    · intro i j hi hj e
      by_cases h1 : i = k + 1
      · by_cases h2 : j = k + 1
        · omega
        · rw [h1, b1, b2 j (by omega)] at e
          have := hblt j (by omega); omega
      · by_cases h2 : j = k + 1
        · rw [h2, b1, b2 i (by omega)] at e
          have := hblt i (by omega); omega
        · rw [b2 i (by omega), b2 j (by omega)] at e
          exact hN.inj i j (by omega) (by omega) e
    · intro j hj
      by_cases h1 : j = k + 1
      · rw [h1, b1]; omega
      · rw [b2 j (by omega)]
        exact hlo.2 j (by omega)
theorem own_new {vs : List Int} {va : Option Addr} {vb vo vc : Nat} (hlen : vs.length < 10000000) (hva : 0 < vs.length → va = some ⟨vb, vo, none⟩) (hvb : 0 < vs.length → vb < w.heap.size) (hv : ∀ k v, vs[k]? = some v → w.cell? ⟨vb, vo + k, none⟩ = some (.int .i64 v) ∧ w.frozen? ⟨vb, vo + k, none⟩ = false) {c : Frame} {cs : List Frame} {main : Bool} {Stop : Goroutine → World → Prop}
    (K : ∀ w' qb bl, QU qb ⟨newRQ vs, bl⟩ w' → w.heap.size ≤ w'.heap.size → (∀ r, r < w.heap.size → w'.heap[r]? = w.heap[r]?) → (∀ r, QR qb ⟨newRQ vs, bl⟩ r → w.heap.size ≤ r) → Own Try.prog main F0 Stop (G (c.finish (.pointer (some ⟨qb, 0, none⟩))) cs) w') :
    Own Try.prog main F0 Stop (G (Frame.enter Try.prog 16 #[.slice va vs.length vc] .normal) (c :: cs)) w := by
  refine nw_0 under_F0 (Nat.zero_le _) fun A hA => ?_
  have h1 : ((w.alloc (.cells #[.pointer none, .pointer none] 62)).alloc (.cells #[.int .i64 0, .pointer none] 106)).heap[w.heap.size]? = some (.cells #[.pointer none, .pointer none] 62 (0, 0)) := (heap_alloc_lt _ _ (by simp)).trans (heap_alloc_new _ _)
  have h2 := new2 w (.cells #[.pointer none, .pointer none] 62) #[.int .i64 0, .pointer none] 106
  refine own_new_loop (w0 := w) (qb := w.heap.size) hlen hva hvb hv (fun w' bl hN => ?_) vs.length 0 (by omega) _ (fun _ => w.heap.size + 1) A ⟨by simp; omega, fun r hr => (heap_setCell_ne _ _ _ (show r ≠ w.heap.size by omega)).trans (old2 _ _ _ hr), ?_, ?_, ?_, Nat.le_refl _, fun j _ => by omega⟩ hA
  · have hQ := hN.done
    refine K _ _ _ hQ (by simp; exact hN.size) (fun r hr => (heap_setCell_ne _ _ _ (show r ≠ w.heap.size by omega)).trans (hN.old r hr)) ?_
    rintro r (rfl | ⟨k, hk, rfl⟩)
    · exact Nat.le_refl _
    · have hk2 : k < vs.length + 1 := by simpa [newRQ] using hk
      have : QS.bk ⟨newRQ vs, (List.range (vs.length + 1)).map bl⟩ k = bl k := by
        simp [QS.bk, List.getD_eq_getElem?_getD, List.getElem?_map, List.getElem?_range hk2]
      rw [this]
      exact hN.lo.2 k (by omega)
  · rw [heap_setCell_eq h1]
    rfl
  · intro j hj
    obtain rfl : j = 0 := by omega
    rw [if_neg (Nat.lt_irrefl _)]
    refine (heap_setCell_ne _ _ _ (show w.heap.size + 1 ≠ w.heap.size by omega)).trans (h2.trans ?_)
    simp [newV]
  · intro i j hi hj _
    omega
end Go.Proofs.Ytcejbandeikdjaa
namespace Go.Proofs.Ytcejbandeikdjaa
open Go Go.Conc Go.RowKit Go.Proofs
variable {F : Fz} {w : World}
noncomputable def vaBody : Code := Try.f23.body.getD .skip
noncomputable def vas0 : Code := Code.piece [] vaBody
noncomputable def var0 : Code := Code.piece [true] vaBody
noncomputable def vao0 : Array Oper := Code.opsOf var0
noncomputable def vas1 : Code := Code.piece [false] vaBody
noncomputable def vas2 : Code := Code.piece [false, true] vaBody
noncomputable def var1 : Code := Code.piece [false, true, true] vaBody
noncomputable def vao1 : Array Oper := Code.opsOf var1
noncomputable def vac6 : Code := Code.piece [false, true, false] vaBody
noncomputable def vas3 : Code := Code.piece [false, true, false, true] vaBody
noncomputable def var2 : Code := Code.piece [false, true, false, true, true] vaBody
noncomputable def vao2 : Array Oper := Code.opsOf var2
noncomputable def vas4 : Code := Code.piece [false, false] vaBody
noncomputable def var3 : Code := Code.piece [false, false, true] vaBody
noncomputable def vao3 : Array Oper := Code.opsOf var3
noncomputable def vas5 : Code := Code.piece [false, false, false] vaBody
noncomputable def vas6 : Code := Code.piece [false, false, false, true] vaBody
noncomputable def var4 : Code := Code.piece [false, false, false, true, true] vaBody
noncomputable def vao4 : Array Oper := Code.opsOf var4
noncomputable def vab0 : Code := Code.piece [false, false, false, true, false] vaBody
noncomputable def val7 : Code := Code.piece [false, false, false, true, false, true] vaBody
noncomputable def vas8 : Code := Code.piece [false, false, false, true, false, true, true] vaBody
noncomputable def vas9 : Code := Code.piece [false, false, false, true, false, true, true, true] vaBody
noncomputable def var5 : Code := Code.piece [false, false, false, true, false, true, true, true, true] vaBody
noncomputable def vao5 : Array Oper := Code.opsOf var5
noncomputable def vac15 : Code := Code.piece [false, false, false, true, false, true, true, true, false] vaBody
noncomputable def vas10 : Code := Code.piece [false, false, false, true, false, true, true, false] vaBody
noncomputable def vab1 : Code := Code.piece [false, false, false, true, false, true, true, false, true] vaBody
noncomputable def var7 : Code := Code.piece [false, false, false, true, false, true, true, false, true, true] vaBody
noncomputable def vao7 : Array Oper := Code.opsOf var7
noncomputable def var6 : Code := Code.piece [false, false, false, true, false, true, true, false, false] vaBody
noncomputable def vao6 : Array Oper := Code.opsOf var6
noncomputable def vas11 : Code := Code.piece [false, false, false, false] vaBody
noncomputable def var8 : Code := Code.piece [false, false, false, false, true] vaBody
noncomputable def vao8 : Array Oper := Code.opsOf var8
theorem vas0_eq : vas0 = .seq var0 vas1 := by kernel_rfl
theorem var0_eq : var0 = .region 0 vao0 false := by kernel_rfl
theorem vas1_eq : vas1 = .seq vas2 vas4 := by kernel_rfl
theorem vas2_eq : vas2 = .seq var1 vac6 := by kernel_rfl
theorem var1_eq : var1 = .region 1 vao1 false := by kernel_rfl
theorem vac6_eq : vac6 = .cond (.tmp 6) vas3 .skip := by kernel_rfl
theorem vas3_eq : vas3 = .seq var2 .ret := by kernel_rfl
theorem var2_eq : var2 = .region 2 vao2 false := by kernel_rfl
theorem vas4_eq : vas4 = .seq var3 vas5 := by kernel_rfl
theorem var3_eq : var3 = .region 3 vao3 false := by kernel_rfl
theorem vas5_eq : vas5 = .seq vas6 vas11 := by kernel_rfl
theorem vas6_eq : vas6 = .seq var4 vab0 := by kernel_rfl
theorem var4_eq : var4 = .region 4 vao4 false := by kernel_rfl
theorem vab0_eq : vab0 = .block 0 val7 := by kernel_rfl
theorem val7_eq : val7 = .loop vas8 := by kernel_rfl
theorem vas8_eq : vas8 = .seq vas9 vas10 := by kernel_rfl
theorem vas9_eq : vas9 = .seq var5 vac15 := by kernel_rfl
theorem var5_eq : var5 = .region 5 vao5 false := by kernel_rfl
theorem vac15_eq : vac15 = .cond (.tmp 15) .skip (.exit 0) := by kernel_rfl
theorem vas10_eq : vas10 = .seq vab1 var6 := by kernel_rfl
theorem vab1_eq : vab1 = .block 1 var7 := by kernel_rfl
theorem var7_eq : var7 = .region 7 vao7 false := by kernel_rfl
theorem var6_eq : var6 = .region 6 vao6 false := by kernel_rfl
theorem vas11_eq : vas11 = .seq var8 .ret := by kernel_rfl
theorem var8_eq : var8 = .region 8 vao8 false := by kernel_rfl
theorem enter_va (args : Array Value) : Frame.enter Try.prog 23 args .normal = (Go.Conc.base 23).at { tmps := args ++ Array.replicate (28 - args.size) undef, defers := [] } [.code vas0] := enter_at args Try.func23 rfl
theorem callable23 : Callable 23 := callable Try.func23 rfl rfl
def vaT (s : Nat → Value) : Array Value := #[s 0, s 1, s 2, s 3, s 4, s 5, s 6, s 7, s 8, s 9, s 10, s 11, s 12, s 13, s 14, s 15, s 16, s 17, s 18, s 19, s 20, s 21, s 22, s 23, s 24, s 25, s 26, s 27]
theorem vaT_of {A : Array Value} (h : A.size = 28) : ∃ s, A = vaT s := by
  obtain ⟨s, hs, _⟩ := arr_lit A h
  exact ⟨s, hs⟩
set_option maxRecDepth 100000 in
set_option maxHeartbeats 2000000 in
theorem va_0 {qb t : Nat} {hd : Addr} {nx : Option Addr} (hbh : BoxP w (some hd)) (hch : w.cell? ⟨qb, 0, none⟩ = some (.pointer (some hd))) (hbt : BoxP w (some ⟨t, 0, none⟩)) (hct : w.cell? ⟨qb, 0, none⟩ = some (.pointer (some ⟨t, 0, none⟩))) (hbn : BoxP w nx) (hcn : w.cell? ⟨t, 1, none⟩ = some (.pointer nx)) {cs : List Frame} {main : Bool} {Stop : Goroutine → World → Prop}
    (h : ∀ A, Slots 28 A [(3, .slice none 0 0), (4, .pointer nx)] → Own Try.prog main F Stop (G ((Go.Conc.base 23).at ⟨A, []⟩ [.code vas8, .inLoop vas8, .inBlock 0, .code vas11]) cs) w) :
    Own Try.prog main F Stop (G (Frame.enter Try.prog 23 #[.pointer (some ⟨qb, 0, none⟩)] .normal) cs) w := by
  rw [enter_va]
  walk_nrm
  rw [vas0_eq]
  refine ogS ?_
  rw [var0_eq]
  refine ogR ?_
  simp only [vao0, Code.opsOf, var0, Code.piece, vaBody, Try.f23, Option.getD_some, List.size_toArray, List.length_cons, List.length_nil, Nat.reduceAdd, Nat.zero_add, List.range, List.range.loop]
  (refine oW fun dd K hK => ?_; go_simp; refine qT hK ?_; clear hK K)
  refine ogE ?_
  rw [vas1_eq]
  refine ogS ?_
  rw [vas2_eq]
  refine ogS ?_
  rw [var1_eq]
  refine ogR ?_
  simp only [vao1, Code.opsOf, var1, Code.piece, vaBody, Try.f23, Option.getD_some, List.size_toArray, List.length_cons, List.length_nil, Nat.reduceAdd, Nat.zero_add, List.range, List.range.loop]
  (refine oW fun dd K hK => ?_; go_simp; refine qT hK ?_; clear hK K)
  refine oc callable51 #[.pointer (some ⟨qb, 0, none⟩)] ?_
  refine own_no hbh hch ?_
  rw [Frame.finish_at]
  walk_nrm
  refine ogE ?_
  rw [vac6_eq]
  refine ogF ?_
  simp only [Bool.false_eq_true, if_false]
  refine ogK ?_
  rw [vas4_eq]
  refine ogS ?_
  rw [var3_eq]
  refine ogR ?_
  simp only [vao3, Code.opsOf, var3, Code.piece, vaBody, Try.f23, Option.getD_some, List.size_toArray, List.length_cons, List.length_nil, Nat.reduceAdd, Nat.zero_add, List.range, List.range.loop]
  (refine oW fun dd K hK => ?_; go_simp; refine qT hK ?_; clear hK K)
  refine ogE ?_
  rw [vas5_eq]
  refine ogS ?_
  rw [vas6_eq]
  refine ogS ?_
  rw [var4_eq]
  refine ogR ?_
  simp only [vao4, Code.opsOf, var4, Code.piece, vaBody, Try.f23, Option.getD_some, List.size_toArray, List.length_cons, List.length_nil, Nat.reduceAdd, Nat.zero_add, List.range, List.range.loop]
  (refine oW fun dd K hK => ?_; go_simp; refine qT hK ?_; clear hK K)
  (refine oW fun dd K hK => ?_; go_simp; refine qT hK ?_; clear hK K)
  (refine oW fun dd K hK => ?_; go_simp; refine qT hK ?_; clear hK K)
  refine oc callable52 #[.pointer (some ⟨qb, 0, none⟩)] ?_
  refine own_load hbt hct rfl ?_
  rw [Frame.finish_at]
  walk_nrm
  (refine oW fun dd K hK => ?_; go_simp; refine qT hK ?_; clear hK K)
  (refine oW fun dd K hK => ?_; go_simp; refine qT hK ?_; clear hK K)
  refine oc callable52 #[.pointer (some ⟨t, 1, none⟩)] ?_
  refine own_load hbn hcn rfl ?_
  rw [Frame.finish_at]
  walk_nrm
  (refine oW fun dd K hK => ?_; go_simp; refine qT hK ?_; clear hK K)
  refine ogE ?_
  rw [vab0_eq]
  refine ogB ?_
  rw [val7_eq]
  refine ogP ?_
  refine h _ ?_
  exact ⟨rfl, rfl, rfl, trivial⟩
theorem info2 : ∃ i, Try.prog.info? 2 = some i ∧ i.zero = some (.int .i64 0) ∧ i.size = 1 ∧ i.bytes = 8 := by
  have h : (Try.prog.info? 2).map (fun i => (i.size, i.bytes)) = some (1, 8) := by kernel_rfl
  have h0 : (Try.prog.info? 2).bind (·.zero) = some (.int .i64 0) := by kernel_rfl
  obtain ⟨i, hi, h1⟩ := Option.map_eq_some_iff.1 h
  rw [hi] at h0
  simp only [Prod.mk.injEq] at h1
  exact ⟨i, hi, h0, h1.1, h1.2⟩
set_option maxRecDepth 100000 in
set_option maxHeartbeats 2000000 in
theorem va_1 {b k base : Nat} {v : Int} {l : Value} {xs : List Value} (hk : k < 10000000) (hbase : base ≤ w.heap.size) (hrow : w.ownsRow base 2 1 l k xs) {nx : Option Addr} (hbn : BoxP w nx) (hbq : w.heap[b]? = some (.cells #[.int .i64 v, .pointer nx] 106 (0, 0))) {A : Array Value} (hA : Slots 28 A [(3, l), (4, .pointer (some ⟨b, 0, none⟩))]) {cs : List Frame} {main : Bool} {Stop : Goroutine → World → Prop}
    (h : ∀ (w' : World) (l' : Value) (A : Array Value), w'.ownsRow base 2 1 l' (k + 1) (xs ++ [.int .i64 v]) → w.heap.size ≤ w'.heap.size → (∀ r, r < w.heap.size → some r ≠ Value.ownBlock l → w'.heap[r]? = w.heap[r]?) → Slots 28 A [(3, l'), (4, .pointer nx)] → Own Try.prog main F0 Stop (G ((Go.Conc.base 23).at ⟨A, []⟩ [.code vas8, .inLoop vas8, .inBlock 0, .code vas11]) cs) w') :
    Own Try.prog main F0 Stop (G ((Go.Conc.base 23).at ⟨A, []⟩ [.code vas8, .inLoop vas8, .inBlock 0, .code vas11]) cs) w := by
  have hU := under_F0
  have hn : 0 ≤ w.heap.size := Nat.zero_le _
  have cb0 : w.cell? ⟨b, 0, none⟩ = some (.int .i64 v) := by simp [World.cell?, hbq]
  have zb0 : w.frozen? ⟨b, 0, none⟩ = false := by simp [World.frozen?, hbq]
  obtain ⟨hsz, h3, h4, _⟩ := hA
  obtain ⟨s, rfl⟩ := vaT_of hsz
  change s 3 = _ at h3
  change s 4 = _ at h4
  clear hsz
  simp only [vaT, h3, h4]
  clear h3 h4
  rw [vas8_eq]
  refine ogS ?_
  rw [vas9_eq]
  refine ogS ?_
  rw [var5_eq]
  refine ogR ?_
  simp only [vao5, Code.opsOf, var5, Code.piece, vaBody, Try.f23, Option.getD_some, List.size_toArray, List.length_cons, List.length_nil, Nat.reduceAdd, Nat.zero_add, List.range, List.range.loop]
  (refine oW fun dd K hK => ?_; go_simp; refine qT hK ?_; clear hK K)
  (refine oW fun dd K hK => ?_; go_simp; refine qT hK ?_; clear hK K)
  refine ogE ?_
  rw [vac15_eq]
  refine ogT ?_
  simp only [if_true]
  refine ogK ?_
  rw [vas10_eq]
  refine ogS ?_
  rw [vab1_eq]
  refine ogB ?_
  rw [var7_eq]
  refine ogR ?_
  simp only [vao7, Code.opsOf, var7, Code.piece, vaBody, Try.f23, Option.getD_some, List.size_toArray, List.length_cons, List.length_nil, Nat.reduceAdd, Nat.zero_add, List.range, List.range.loop]
  (refine oW fun dd K hK => ?_; go_simp; refine qT hK ?_; clear hK K)
  (refine oW fun dd K hK => ?_; go_simp; refine qT hK ?_; clear hK K)
  (refine oW fun dd K hK => ?_; go_simp; refine qT hK ?_; clear hK K)
  (refine oW fun dd K hK => ?_; go_simp; refine qT hK ?_; clear hK K)
  (refine oW fun dd K hK => ?_; go_simp; refine qL hK ?_; clear hK K)
  (refine oW fun dd K hK => ?_; go_simp; refine qA hK hU ?_; clear hK K)
  have hrow2 := hrow.alloc (.cells #[.int .i64 v] 2)
  have hcell := cell_one_new w (.int .i64 v) 2
  have hsz : (w.alloc (.cells #[.int .i64 v] 2)).heap.size = w.heap.size + 1 := by simp
  have hold : ∀ r, r < w.heap.size → (w.alloc (.cells #[.int .i64 v] 2)).heap[r]? = w.heap[r]? := fun r hr => heap_alloc_lt _ _ hr
  change Own _ _ _ _ _ (w.alloc (.cells #[.int .i64 v] 2))
  generalize w.alloc (.cells #[.int .i64 v] 2) = W at hrow2 hcell hsz hold ⊢
  obtain ⟨i0, hi0, hz0, hz1, hz2⟩ := info2
  refine own_opm (by decide) ?_
  refine opm_lift (S' := fun _ => false) (px := false) (ready0.shut false) (by simp) rfl rfl rfl (wf_F0 _) (fun d => ?_)
  rw [mask_F0]
  obtain ⟨l', u, hr, hown, hgrow, _⟩ := run_append_own (P := Try.prog) (W.at d) base 22 22 2 i0 _ 1 8 Try.underlying22 hi0 hz0 hz1 hz2 rfl (by decide) l k xs hrow2 ⟨w.heap.size, 0, none⟩ 1 1 [.int .i64 v] rfl hcell (fun q hq => by simp at hq; subst hq; rfl) (by unfold maxLen; omega) (by omega) (by show base ≤ W.heap.size; omega)
  refine ⟨l', u, run_append_op (.tmp 20) (.tmp 25) 22 rfl rfl rfl hr, fun w' hu hg hwf' => ?_⟩
  rw [mask_F0] at hu
  subst hu
  have hsz2 : W.heap.size ≤ u.heap.size := hgrow.size
  have hold2 : ∀ r, r < w.heap.size → some r ≠ Value.ownBlock l → u.heap[r]? = w.heap[r]? := fun r h1 h2 => (hgrow.block r (by show r < W.heap.size; omega) h2).trans (hold r h1)
  have hsz3 : w.heap.size ≤ u.heap.size := by omega
  have hty : ∀ {r : Nat} {cc : Array Value} {z : Nat × Nat}, w.heap[r]? = some (.cells cc 106 z) → u.heap[r]? = some (.cells cc 106 z) := fun hr => (hold2 _ (Array.getElem?_eq_some_iff.1 hr).1 (own_type hrow hr (by decide))).trans hr
  have hbn2 : BoxP u nx := by (rcases hbn with h1 | ⟨b1, c1, z1, h1, h2, h3⟩; exact .inl h1; exact .inr ⟨b1, c1, z1, h1, hty h2, h3⟩)
  have hcn2 : u.cell? ⟨b, 1, none⟩ = some (.pointer nx) := by simp [World.cell?, hty hbq]
  clear hrow2 hcell hsz hold hr hgrow hsz2 hg hwf' hz0 hz1 hz2 hi0
  walk_nrm
  (refine oW fun dd K hK => ?_; go_simp; refine qT hK ?_; clear hK K)
  refine ogE ?_
  refine ogI ?_
  rw [var6_eq]
  refine ogR ?_
  simp only [vao6, Code.opsOf, var6, Code.piece, vaBody, Try.f23, Option.getD_some, List.size_toArray, List.length_cons, List.length_nil, Nat.reduceAdd, Nat.zero_add, List.range, List.range.loop]
  (refine oW fun dd K hK => ?_; go_simp; refine qT hK ?_; clear hK K)
  (refine oW fun dd K hK => ?_; go_simp; refine qT hK ?_; clear hK K)
  (refine oW fun dd K hK => ?_; go_simp; refine qT hK ?_; clear hK K)
  refine oc callable52 #[.pointer (some ⟨b, 1, none⟩)] ?_
  refine own_load hbn2 hcn2 rfl ?_
  rw [Frame.finish_at]
  walk_nrm
  (refine oW fun dd K hK => ?_; go_simp; refine qT hK ?_; clear hK K)
  refine ogE ?_
  refine ogL ?_
  refine h _ l' _ hown hsz3 hold2 ?_
  exact ⟨rfl, rfl, rfl, trivial⟩
set_option maxRecDepth 100000 in
set_option maxHeartbeats 2000000 in
theorem va_2 {l : Value} {A : Array Value} (hA : Slots 28 A [(3, l), (4, .pointer none)]) {c : Frame} {cs : List Frame} {main : Bool} {Stop : Goroutine → World → Prop}
    (h : Own Try.prog main F Stop (G (c.finish l) cs) w) :
    Own Try.prog main F Stop (G ((Go.Conc.base 23).at ⟨A, []⟩ [.code vas8, .inLoop vas8, .inBlock 0, .code vas11]) (c :: cs)) w := by
  obtain ⟨hsz, h3, h4, _⟩ := hA
  obtain ⟨s, rfl⟩ := vaT_of hsz
  change s 3 = _ at h3
  change s 4 = _ at h4
  clear hsz
  simp only [vaT, h3, h4]
  clear h3 h4
  rw [vas8_eq]
  refine ogS ?_
  rw [vas9_eq]
  refine ogS ?_
  rw [var5_eq]
  refine ogR ?_
  simp only [vao5, Code.opsOf, var5, Code.piece, vaBody, Try.f23, Option.getD_some, List.size_toArray, List.length_cons, List.length_nil, Nat.reduceAdd, Nat.zero_add, List.range, List.range.loop]
  (refine oW fun dd K hK => ?_; go_simp; refine qT hK ?_; clear hK K)
  (refine oW fun dd K hK => ?_; go_simp; refine qT hK ?_; clear hK K)
  refine ogE ?_
  rw [vac15_eq]
  refine ogF ?_
  simp only [Bool.false_eq_true, if_false]
  refine own_go rfl (fun d => stepG_exit rfl) ?_
  rw [vas11_eq]
  refine ogS ?_
  rw [var8_eq]
  refine ogR ?_
  simp only [vao8, Code.opsOf, var8, Code.piece, vaBody, Try.f23, Option.getD_some, List.size_toArray, List.length_cons, List.length_nil, Nat.reduceAdd, Nat.zero_add, List.range, List.range.loop]
  (refine oW fun dd K hK => ?_; go_simp; refine qT hK ?_; clear hK K)
  (refine oW fun dd K hK => ?_; go_simp; refine qT hK ?_; clear hK K)
  refine ogE ?_
  refine ogX ?_
  refine own_go rfl (fun d => stepG_leave (fn := Try.f23) (v := l) rfl rfl Try.func23 (by simp [results, Try.f23]) (by simp [results, Try.f23, go_sem])) ?_
  exact h
end Go.Proofs.Ytcejbandeikdjaa
namespace Go.Proofs.Ytcejbandeikdjaa
open Go Go.Conc Go.RowKit Go.Proofs
variable {F : Fz} {w : World} {qb : Nat} {s : QS}
theorem QU.boxPn (h : QU qb s w) {k : Nat} (hk : k < s.q.B.length) : BoxP w ((s.q.nx k).map fun n => ⟨s.bk n, 0, none⟩) := by
  cases e : s.q.nx k with
  | none => exact .inl rfl
  | some n => exact h.boxP (h.nxlt e)
theorem own_behind_loop (h : QU qb s w) {c : Frame} {cs : List Frame} {main : Bool} {Stop : Goroutine → World → Prop} {n : Nat} (hn : n < 10000000) (K : Own Try.prog main F Stop (G (c.finish (.int .i64 n)) cs) w) :
    ∀ (l : List Nat) (x : Option Nat) (k : Nat) (A : Array Value), Path s.q x l → k + l.length = n → Slots 23 A [(3, .int .i64 k), (4, s.nv x)] → Own Try.prog main F Stop (G ((Go.Conc.base 22).at ⟨A, []⟩ [.code bhs8, .inLoop bhs8, .inBlock 0, .code bhs11]) (c :: cs)) w := by
  intro l
  induction l with
  | nil =>
    intro x k A hP hk hA
    cases hP
    obtain rfl : k = n := by simpa using hk
    exact bh_2 hA K
  | cons j l ih =>
    intro x k A hP hk hA
    cases hP with
    | cons hj hP =>
      simp only [List.length_cons] at hk
      exact bh_1 (by omega) (h.boxPn hj) (h.nc hj) hA fun A2 hA2 => ih _ (k + 1) A2 hP (by omega) hA2
theorem own_behind (h : QU qb s w) {l : List Nat} (hP : Path s.q (s.q.nx s.q.tl) l) (hl : l.length < 10000000) {c : Frame} {cs : List Frame} {main : Bool} {Stop : Goroutine → World → Prop} (K : Own Try.prog main F Stop (G (c.finish (.int .i64 l.length)) cs) w) :
    Own Try.prog main F Stop (G (Frame.enter Try.prog 22 #[.pointer (some ⟨qb, 0, none⟩)] .normal) (c :: cs)) w :=
  bh_0 (h.boxP h.hd) h.hc (h.boxP h.tl) h.tc (h.boxPn h.tl) (h.nc h.tl) fun A hA => own_behind_loop h hl K l _ 0 A hP (by omega) hA
theorem own_values_loop {w0 : World} (h0 : QU qb s w0) {c : Frame} {cs : List Frame} {main : Bool} {Stop : Goroutine → World → Prop} {ls : List Nat} (hn : ls.length < 10000000)
    (K : ∀ w' lv, w0.heap.size ≤ w'.heap.size → (∀ r, r < w0.heap.size → w'.heap[r]? = w0.heap[r]?) → w'.ownsRow w0.heap.size 2 1 lv ls.length (ls.map fun k => .int .i64 (s.q.vl k)) → Own Try.prog main F0 Stop (G (c.finish lv) cs) w') :
    ∀ (l : List Nat) (x : Option Nat) (p : List Nat) (w : World) (lv : Value) (A : Array Value), Path s.q x l → p ++ l = ls → w0.heap.size ≤ w.heap.size → (∀ r, r < w0.heap.size → w.heap[r]? = w0.heap[r]?) → w.ownsRow w0.heap.size 2 1 lv p.length (p.map fun k => .int .i64 (s.q.vl k)) → Slots 28 A [(3, lv), (4, s.nv x)] →
      Own Try.prog main F0 Stop (G ((Go.Conc.base 23).at ⟨A, []⟩ [.code vas8, .inLoop vas8, .inBlock 0, .code vas11]) (c :: cs)) w := by
  intro l
  induction l with
  | nil =>
    intro x p w lv A hP hp hsz hold hrow hA
    cases hP
    obtain rfl : p = ls := by simpa using hp
    exact va_2 hA (K w lv hsz hold hrow)
  | cons j l ih =>
    intro x p w lv A hP hp hsz hold hrow hA
    cases hP with
    | cons hj hP =>
      have h : QU qb s w := h0.same fun r hr => hold r (h0.low hr)
      have hlen : p.length < 10000000 := by rw [← hp] at hn; simp at hn; omega
      refine va_1 hlen hsz hrow (h.boxPn hj) (h.box hj) hA fun w' l' A2 g1 g2 g3 hA2 => ih _ (p ++ [j]) w' l' A2 hP (by simp [hp]) (by omega) (fun r hr => (g3 r (by omega) fun e => by have := (hrow.lt r e.symm).1; omega).trans (hold r hr)) ?_ hA2
      simpa using g1
theorem own_values (h : QU qb s w) {l : List Nat} (hP : Path s.q (s.q.nx s.q.hd) l) (hl : l.length < 10000000) {c : Frame} {cs : List Frame} {main : Bool} {Stop : Goroutine → World → Prop}
    (K : ∀ w' lv, w.heap.size ≤ w'.heap.size → (∀ r, r < w.heap.size → w'.heap[r]? = w.heap[r]?) → w'.ownsRow w.heap.size 2 1 lv l.length (l.map fun k => .int .i64 (s.q.vl k)) → Own Try.prog main F0 Stop (G (c.finish lv) cs) w') :
    Own Try.prog main F0 Stop (G (Frame.enter Try.prog 23 #[.pointer (some ⟨qb, 0, none⟩)] .normal) (c :: cs)) w :=
  va_0 (h.boxP h.hd) h.hc (h.boxP h.hd) h.hc (h.boxPn h.hd) (h.nc h.hd) fun A hA => own_values_loop h hl K l _ [] w _ A hP rfl (Nat.le_refl _) (fun _ _ => rfl) (World.ownsRow_nil _ _ _ _) hA
end Go.Proofs.Ytcejbandeikdjaa
namespace Go.Proofs.Ytcejbandeikdjaa
open Go Go.Conc Go.RowKit Go.Proofs
variable {F : Fz} {w : World}
noncomputable def staBody : Code := Try.f39.body.getD .skip
noncomputable def stas0 : Code := Code.piece [] staBody
noncomputable def star0 : Code := Code.piece [true] staBody
noncomputable def stao0 : Array Oper := Code.opsOf star0
noncomputable def stas1 : Code := Code.piece [false] staBody
noncomputable def star1 : Code := Code.piece [false, true] staBody
noncomputable def stao1 : Array Oper := Code.opsOf star1
theorem stas0_eq : stas0 = .seq star0 stas1 := by kernel_rfl
theorem star0_eq : star0 = .region 0 stao0 false := by kernel_rfl
theorem stas1_eq : stas1 = .seq star1 .ret := by kernel_rfl
theorem star1_eq : star1 = .region 1 stao1 false := by kernel_rfl
theorem enter_sta (args : Array Value) : Frame.enter Try.prog 39 args .normal = (Go.Conc.base 39).at { tmps := args ++ Array.replicate (9 - args.size) undef, defers := [] } [.code stas0] := enter_at args Try.func39 rfl
theorem callable39 : Callable 39 := callable Try.func39 rfl rfl
def staT (s : Nat → Value) : Array Value := #[s 0, s 1, s 2, s 3, s 4, s 5, s 6, s 7, s 8]
theorem staT_of {A : Array Value} (h : A.size = 9) : ∃ s, A = staT s := by
  obtain ⟨s, hs, _⟩ := arr_lit A h
  exact ⟨s, hs⟩
set_option maxRecDepth 100000 in
set_option maxHeartbeats 2000000 in
theorem st_0 {qb : Nat} {cs : List Frame} {main : Bool} {Stop : Goroutine → World → Prop}
    (h : ∀ A, Slots 9 A [(0, .pointer (some ⟨qb, 0, none⟩))] → Own Try.prog main F Stop (G (Frame.enter Try.prog 22 #[.pointer (some ⟨qb, 0, none⟩)] .normal) (((Go.Conc.base 39).at ⟨A, []⟩ [.inRegion stao1 [1, 2, 3, 4, 5, 6], .code .ret]) :: cs)) w) :
    Own Try.prog main F Stop (G (Frame.enter Try.prog 39 #[.pointer (some ⟨qb, 0, none⟩)] .normal) cs) w := by
  rw [enter_sta]
  walk_nrm
  rw [stas0_eq]
  refine ogS ?_
  rw [star0_eq]
  refine ogR ?_
  simp only [stao0, Code.opsOf, star0, Code.piece, staBody, Try.f39, Option.getD_some, List.size_toArray, List.length_cons, List.length_nil, Nat.reduceAdd, Nat.zero_add, List.range, List.range.loop]
  (refine oW fun dd K hK => ?_; go_simp; refine qT hK ?_; clear hK K)
  refine ogE ?_
  rw [stas1_eq]
  refine ogS ?_
  rw [star1_eq]
  refine ogR ?_
  simp only [stao1, Code.opsOf, star1, Code.piece, staBody, Try.f39, Option.getD_some, List.size_toArray, List.length_cons, List.length_nil, Nat.reduceAdd, Nat.zero_add, List.range, List.range.loop]
  (refine oW fun dd K hK => ?_; go_simp; refine qT hK ?_; clear hK K)
  refine oc callable22 #[.pointer (some ⟨qb, 0, none⟩)] ?_
  refine h _ ?_
  exact ⟨rfl, rfl, trivial⟩
set_option maxRecDepth 100000 in
set_option maxHeartbeats 2000000 in
theorem st_1 {n : Nat} (hU : Under F n) (hn : n ≤ w.heap.size) {qb : Nat} {bn : Nat} {A : Array Value} (hA : Slots 9 A [(0, .pointer (some ⟨qb, 0, none⟩))]) {cs : List Frame} {main : Bool} {Stop : Goroutine → World → Prop}
    (h : ∀ A, Slots 9 A [(5, .slice (some ⟨w.heap.size, 0, none⟩) 1 1)] → Own Try.prog main F Stop (G (Frame.enter Try.prog 23 #[.pointer (some ⟨qb, 0, none⟩)] .normal) (((Go.Conc.base 39).at ⟨A, []⟩ [.inRegion stao1 [4, 5, 6], .code .ret]) :: cs)) (w.alloc (.cells #[.int .i64 bn] 2))) :
    Own Try.prog main F Stop (G (((Go.Conc.base 39).at ⟨A, []⟩ [.inRegion stao1 [1, 2, 3, 4, 5, 6], .code .ret]).finish (.int .i64 bn)) cs) w := by
  obtain ⟨hsz, h0, _⟩ := hA
  obtain ⟨s, rfl⟩ := staT_of hsz
  change s 0 = _ at h0
  clear hsz
  simp only [staT, h0]
  clear h0
  rw [Frame.finish_at]
  simp only [stao1, Code.opsOf, star1, Code.piece, staBody, Try.f39, Option.getD_some, List.size_toArray, List.length_cons, List.length_nil, Nat.reduceAdd, Nat.zero_add, List.range, List.range.loop]
  walk_nrm
  (refine oW fun dd K hK => ?_; go_simp; refine qA hK hU ?_; clear hK K)
  (refine oW fun dd K hK => ?_; go_simp; refine qT hK ?_; clear hK K)
  refine oc callable23 #[.pointer (some ⟨qb, 0, none⟩)] ?_
  refine h _ ?_
  exact ⟨rfl, rfl, trivial⟩
end Go.Proofs.Ytcejbandeikdjaa
namespace Go.Proofs.Ytcejbandeikdjaa
open Go Go.Conc Go.RowKit Go.Proofs
theorem run_append_room_nil {P : Program} {w : World} (t ty e : TypeId) (i : TypeInfo) (ht : P.underlying t = some (.slice e)) (hi : P.info? e = some i)
    (g sLen sCap : Nat) (cur : Array Value) (hg : w.heap[g]? = some (.cells cur e (0, 0))) (hroom : sLen ≤ sCap) (hfit : sLen * i.size ≤ cur.size) :
    ∃ w', (Builtin.append_ #[t, t] ty #[.slice (some ⟨g, 0, none⟩) sLen sCap, .slice none 0 0]).run P w = .ok (.slice (some ⟨g, 0, none⟩) sLen sCap) w' ∧ w' = w.setRow g (cur.toList.take (sLen * i.size) ++ [] ++ cur.toList.drop (sLen * i.size + 0)).toArray := by
  have hf := run_firstCells_none (P := P) w i.size 0 0 0
  have hst := run_storeCells_at P g (sLen * i.size) e [] 0 cur w hg (by simpa using hfit) (fun u hu => by cases hu)
  simp only [Nat.add_zero] at hst
  refine ⟨_, ?_, rfl⟩
  simp [Builtin.append_, run_underlying ht, sizeOf, typeInfo, hi, Builtin.lenOf, hroom, hf, Addr.add_lit, hst]
end Go.Proofs.Ytcejbandeikdjaa
namespace Go.Proofs.Ytcejbandeikdjaa
open Go Go.Conc Go.RowKit Go.Proofs
variable {w : World}
theorem append_one_row {base ab m : Nat} {x : Value} {lv : Value} {xs : List Value} (hb : base ≤ w.heap.size) (h1 : w.ownsRow base 2 1 (.slice (some ⟨ab, 0, none⟩) 1 1) 1 [x]) (h2 : w.ownsRow base 2 1 lv m xs) (hx : ∀ u ∈ xs, u.oneCell' = true) (hm : m < 10000000) :
    ∃ v' w', (Builtin.append_ #[22, 22] 22 #[.slice (some ⟨ab, 0, none⟩) 1 1, lv]).run Try.prog w = .ok v' w' ∧ w'.ownsRow base 2 1 v' (1 + m) ([x] ++ xs) ∧ w.heap.size ≤ w'.heap.size ∧ ∀ r, r < w.heap.size → r ≠ ab → w'.heap[r]? = w.heap[r]? := by
  obtain ⟨i0, hi0, hz0, hz1, hz2⟩ := info2
  rcases h2.2 with ⟨rfl, rfl⟩ | ⟨g, cap, cur, rfl, _, h3, h4, h5, h6, h7⟩
  · obtain rfl : xs = [] := List.length_eq_zero_iff.1 (by have := h2.1; omega)
    rcases h1.2 with ⟨h, _⟩ | ⟨g, cap, cur, h, h0, h3, h4, h5, h6, h7⟩
    · cases h
    · cases h
      obtain ⟨w', hr, rfl⟩ := run_append_room_nil (P := Try.prog) 22 22 2 i0 Try.underlying22 hi0 ab 1 1 cur h3 (Nat.le_refl _) (by rw [hz1]; omega)
      have e : (cur.toList.take (1 * i0.size) ++ [] ++ cur.toList.drop (1 * i0.size + 0)).toArray = cur := by
        rw [List.append_nil, Nat.add_zero, List.take_append_drop]
      rw [e] at hr
      have hh : (w.setRow ab cur).heap = w.heap := by
        apply Array.ext_getElem?
        intro r
        simp only [World.setRow, Array.getElem?_modify]
        by_cases e1 : ab = r
        · subst e1
          rw [if_pos rfl, h3]
          rfl
        · rw [if_neg e1]
      refine ⟨_, _, hr, ?_, by rw [hh]; exact Nat.le_refl _, fun r _ _ => by rw [hh]⟩
      have : (w.setRow ab cur).ownsRow base 2 1 (.slice (some ⟨ab, 0, none⟩) 1 1) 1 [x] := ownsRow_same2 h1 fun b _ _ => by rw [hh]
      simpa using this
  · obtain ⟨v', w', hr, h8, h9, _⟩ := run_append_own (P := Try.prog) w base 22 22 2 i0 _ 1 8 Try.underlying22 hi0 hz0 hz1 hz2 rfl (by decide) _ 1 [x] h1 ⟨g, 0, none⟩ m cap xs (by rw [h2.1]) (h2.cells rfl) hx (by unfold maxLen; omega) (by omega) hb
    exact ⟨v', w', hr, h8, h9.size, fun r hr1 hr2 => h9.block r hr1 (by simpa [Value.ownBlock] using hr2)⟩
set_option maxRecDepth 100000 in
set_option maxHeartbeats 2000000 in
theorem st_2 {base ab m : Nat} {x lv : Value} {xs : List Value} (hb : base ≤ w.heap.size) (h1 : w.ownsRow base 2 1 (.slice (some ⟨ab, 0, none⟩) 1 1) 1 [x]) (h2 : w.ownsRow base 2 1 lv m xs) (hx : ∀ u ∈ xs, u.oneCell' = true) (hm : m < 10000000) {A : Array Value} (hA : Slots 9 A [(5, .slice (some ⟨ab, 0, none⟩) 1 1)]) {c : Frame} {cs : List Frame} {main : Bool} {Stop : Goroutine → World → Prop}
    (h : ∀ w' l', w'.ownsRow base 2 1 l' (1 + m) ([x] ++ xs) → w.heap.size ≤ w'.heap.size → (∀ r, r < w.heap.size → r ≠ ab → w'.heap[r]? = w.heap[r]?) → Own Try.prog main F0 Stop (G (c.finish l') cs) w') :
    Own Try.prog main F0 Stop (G (((Go.Conc.base 39).at ⟨A, []⟩ [.inRegion stao1 [4, 5, 6], .code .ret]).finish lv) (c :: cs)) w := by
  obtain ⟨hsz, h5, _⟩ := hA
  obtain ⟨s, rfl⟩ := staT_of hsz
  change s 5 = _ at h5
  clear hsz
  simp only [staT, h5]
  clear h5
  rw [Frame.finish_at]
  simp only [stao1, Code.opsOf, star1, Code.piece, staBody, Try.f39, Option.getD_some, List.size_toArray, List.length_cons, List.length_nil, Nat.reduceAdd, Nat.zero_add, List.range, List.range.loop]
  walk_nrm
  refine own_opm (by decide) ?_
  refine opm_lift (S' := fun _ => false) (px := false) (ready0.shut false) (by simp) rfl rfl rfl (wf_F0 _) (fun d => ?_)
  rw [mask_F0]
  obtain ⟨l', u, hr, hown, hsz2, hold2⟩ := append_one_row (w := w.at d) hb (ownsRow_same2 h1 fun _ _ _ => rfl) (ownsRow_same2 h2 fun _ _ _ => rfl) hx hm
  refine ⟨l', u, run_append_op (.tmp 5) (.tmp 7) 22 rfl rfl rfl hr, fun w' hu hg hwf' => ?_⟩
  rw [mask_F0] at hu
  subst hu
  walk_nrm
  (refine oW fun dd K hK => ?_; go_simp; refine qT hK ?_; clear hK K)
  refine ogE ?_
  refine ogX ?_
  refine own_go rfl (fun d => stepG_leave (fn := Try.f39) (v := l') rfl rfl Try.func39 (by simp [results, Try.f39]) (by simp [results, Try.f39, go_sem])) ?_
  exact h u l' hown hsz2 hold2
end Go.Proofs.Ytcejbandeikdjaa
namespace Go.Proofs.Ytcejbandeikdjaa
open Go Go.Conc Go.RowKit Go.Proofs
variable {w : World} {qb : Nat} {s : QS}
theorem own_state (h : QU qb s w) {lb lv : List Nat} (hPb : Path s.q (s.q.nx s.q.tl) lb) (hPv : Path s.q (s.q.nx s.q.hd) lv) (hlb : lb.length < 10000000) (hlv : lv.length < 10000000) {c : Frame} {cs : List Frame} {main : Bool} {Stop : Goroutine → World → Prop}
    (K : ∀ w' l', w'.ownsRow w.heap.size 2 1 l' (1 + lv.length) (.int .i64 lb.length :: lv.map fun k => .int .i64 (s.q.vl k)) → w.heap.size ≤ w'.heap.size → (∀ r, r < w.heap.size → w'.heap[r]? = w.heap[r]?) → Own Try.prog main F0 Stop (G (c.finish l') cs) w') :
    Own Try.prog main F0 Stop (G (Frame.enter Try.prog 39 #[.pointer (some ⟨qb, 0, none⟩)] .normal) (c :: cs)) w := by
  refine st_0 fun A hA => own_behind h hPb hlb ?_
  refine st_1 under_F0 (Nat.zero_le _) hA fun A2 hA2 => ?_
  have e1 : ∀ r, r < w.heap.size → (w.alloc (.cells #[.int .i64 lb.length] 2)).heap[r]? = w.heap[r]? := fun r hr => heap_alloc_lt _ _ hr
  have e2 := heap_alloc_new w (.cells #[.int .i64 lb.length] 2)
  have e3 : (w.alloc (.cells #[.int .i64 lb.length] 2)).heap.size = w.heap.size + 1 := by simp
  generalize w.alloc (.cells #[.int .i64 lb.length] 2) = W at e1 e2 e3 ⊢
  have hW : QU qb s W := h.same fun r hr => e1 r (h.low hr)
  refine own_values hW hPv hlv fun w' lv' g1 g2 g3 => ?_
  have hr1 : w'.ownsRow w.heap.size 2 1 (.slice (some ⟨w.heap.size, 0, none⟩) 1 1) 1 [.int .i64 lb.length] :=
    ⟨rfl, .inr ⟨w.heap.size, 1, _, rfl, Nat.le_refl _, (g2 _ (by omega)).trans e2, Nat.le_refl _, by decide, rfl, rfl⟩⟩
  exact st_2 (by omega) hr1 (ownsRow_mono_base (by omega) g3) (fun u hu => by
    obtain ⟨k, _, rfl⟩ := List.mem_map.1 hu; rfl) hlv hA2 fun w2 l' k1 k2 k3 => K w2 l' k1 (by omega) fun r hr => ((k3 r (by omega) (by omega)).trans (g2 r (by omega))).trans (e1 r hr)
end Go.Proofs.Ytcejbandeikdjaa
namespace Go.Proofs.Ytcejbandeikdjaa
open Go Go.Conc Go.RowKit Go.Proofs
variable {F : Fz} {w : World}
noncomputable def plBody : Code := Try.f14.body.getD .skip
noncomputable def pls0 : Code := Code.piece [] plBody
noncomputable def plr0 : Code := Code.piece [true] plBody
noncomputable def plo0 : Array Oper := Code.opsOf plr0
noncomputable def pls1 : Code := Code.piece [false] plBody
noncomputable def plr1 : Code := Code.piece [false, true] plBody
noncomputable def plo1 : Array Oper := Code.opsOf plr1
noncomputable def pls2 : Code := Code.piece [false, false] plBody
noncomputable def plr2 : Code := Code.piece [false, false, true] plBody
noncomputable def plo2 : Array Oper := Code.opsOf plr2
noncomputable def pls3 : Code := Code.piece [false, false, false] plBody
noncomputable def plr3 : Code := Code.piece [false, false, false, true] plBody
noncomputable def plo3 : Array Oper := Code.opsOf plr3
noncomputable def pls4 : Code := Code.piece [false, false, false, false] plBody
noncomputable def plr4 : Code := Code.piece [false, false, false, false, true] plBody
noncomputable def plo4 : Array Oper := Code.opsOf plr4
theorem pls0_eq : pls0 = .seq plr0 pls1 := by kernel_rfl
theorem plr0_eq : plr0 = .region 0 plo0 false := by kernel_rfl
theorem pls1_eq : pls1 = .seq plr1 pls2 := by kernel_rfl
theorem plr1_eq : plr1 = .region 1 plo1 false := by kernel_rfl
theorem pls2_eq : pls2 = .seq plr2 pls3 := by kernel_rfl
theorem plr2_eq : plr2 = .region 2 plo2 false := by kernel_rfl
theorem pls3_eq : pls3 = .seq plr3 pls4 := by kernel_rfl
theorem plr3_eq : plr3 = .region 3 plo3 false := by kernel_rfl
theorem pls4_eq : pls4 = .seq plr4 .ret := by kernel_rfl
theorem plr4_eq : plr4 = .region 4 plo4 false := by kernel_rfl
theorem enter_pl (args : Array Value) : Frame.enter Try.prog 14 args .normal = (Go.Conc.base 14).at { tmps := args ++ Array.replicate (23 - args.size) undef, defers := [] } [.code pls0] := enter_at args Try.func14 rfl
theorem callable14 : Callable 14 := callable Try.func14 rfl rfl
def plT (s : Nat → Value) : Array Value := #[s 0, s 1, s 2, s 3, s 4, s 5, s 6, s 7, s 8, s 9, s 10, s 11, s 12, s 13, s 14, s 15, s 16, s 17, s 18, s 19, s 20, s 21, s 22]
theorem plT_of {A : Array Value} (h : A.size = 23) : ∃ s, A = plT s := by
  obtain ⟨s, hs, _⟩ := arr_lit A h
  exact ⟨s, hs⟩
set_option maxRecDepth 100000 in
set_option maxHeartbeats 2000000 in
theorem pl_0 {n : Nat} (hU : Under F n) (hn : n ≤ w.heap.size) {va ta sa : Option Addr} {vl vc tl tc sl sc : Nat} {mo : Int} {cs : List Frame} {main : Bool} {Stop : Goroutine → World → Prop}
    (h : ∀ A, Slots 23 A [(0, .slice va vl vc), (1, .slice ta tl tc), (2, .slice sa sl sc), (3, .int .i64 mo), (8, .pointer (some ⟨w.heap.size, 0, none⟩))] → Own Try.prog main F Stop (G (Frame.enter Try.prog 16 #[.slice va vl vc] .normal) (((Go.Conc.base 14).at ⟨A, []⟩ [.inRegion plo1 [1, 2], .code pls2]) :: cs)) (w.alloc (.cells #[.slice none 0 0, .slice none 0 0, .slice none 0 0, .bool false] 29))) :
    Own Try.prog main F Stop (G (Frame.enter Try.prog 14 #[.slice va vl vc, .slice ta tl tc, .slice sa sl sc, .int .i64 mo] .normal) cs) w := by
  rw [enter_pl]
  walk_nrm
  rw [pls0_eq]
  refine ogS ?_
  rw [plr0_eq]
  refine ogR ?_
  simp only [plo0, Code.opsOf, plr0, Code.piece, plBody, Try.f14, Option.getD_some, List.size_toArray, List.length_cons, List.length_nil, Nat.reduceAdd, Nat.zero_add, List.range, List.range.loop]
  (refine oW fun dd K hK => ?_; go_simp; refine qA hK hU ?_; clear hK K)
  refine ogE ?_
  rw [pls1_eq]
  refine ogS ?_
  rw [plr1_eq]
  refine ogR ?_
  simp only [plo1, Code.opsOf, plr1, Code.piece, plBody, Try.f14, Option.getD_some, List.size_toArray, List.length_cons, List.length_nil, Nat.reduceAdd, Nat.zero_add, List.range, List.range.loop]
  (refine oW fun dd K hK => ?_; go_simp; refine qT hK ?_; clear hK K)
  refine oc callable16 #[.slice va vl vc] ?_
  refine h _ ?_
  exact ⟨rfl, rfl, rfl, rfl, rfl, rfl, trivial⟩
set_option maxRecDepth 100000 in
set_option maxHeartbeats 2000000 in
theorem pl_1 {qb rb : Nat} {va ta sa : Option Addr} {vl vc tl tc sl sc : Nat} {mo : Int} {A : Array Value} (hA : Slots 23 A [(0, .slice va vl vc), (1, .slice ta tl tc), (2, .slice sa sl sc), (3, .int .i64 mo), (8, .pointer (some ⟨rb, 0, none⟩))]) {cs : List Frame} {main : Bool} {Stop : Goroutine → World → Prop}
    (h : ∀ A, Slots 23 A [(8, .pointer (some ⟨rb, 0, none⟩)), (9, .pointer (some ⟨qb, 0, none⟩))] → Own Try.prog main F Stop (G (Frame.enter Try.prog 37 #[.slice ta tl tc, .func (.func 38) #[.pointer (some ⟨qb, 0, none⟩)] #[], .slice sa sl sc, .int .i64 mo] .normal) (((Go.Conc.base 14).at ⟨A, []⟩ [.inRegion plo2 [5, 6, 7], .code pls3]) :: cs)) w) :
    Own Try.prog main F Stop (G (((Go.Conc.base 14).at ⟨A, []⟩ [.inRegion plo1 [1, 2], .code pls2]).finish (.pointer (some ⟨qb, 0, none⟩))) cs) w := by
  obtain ⟨hsz, h0, h1, h2, h3, h8, _⟩ := hA
  obtain ⟨s, rfl⟩ := plT_of hsz
  change s 0 = _ at h0
  change s 1 = _ at h1
  change s 2 = _ at h2
  change s 3 = _ at h3
  change s 8 = _ at h8
  clear hsz
  simp only [plT, h0, h1, h2, h3, h8]
  clear h0 h1 h2 h3 h8
  rw [Frame.finish_at]
  simp only [plo1, Code.opsOf, plr1, Code.piece, plBody, Try.f14, Option.getD_some, List.size_toArray, List.length_cons, List.length_nil, Nat.reduceAdd, Nat.zero_add, List.range, List.range.loop]
  walk_nrm
  (refine oW fun dd K hK => ?_; go_simp; refine qT hK ?_; clear hK K)
  refine ogE ?_
  rw [pls2_eq]
  refine ogS ?_
  rw [plr2_eq]
  refine ogR ?_
  simp only [plo2, Code.opsOf, plr2, Code.piece, plBody, Try.f14, Option.getD_some, List.size_toArray, List.length_cons, List.length_nil, Nat.reduceAdd, Nat.zero_add, List.range, List.range.loop]
  (refine oW fun dd K hK => ?_; go_simp; refine qT hK ?_; clear hK K)
  (refine oW fun dd K hK => ?_; go_simp; refine qT hK ?_; clear hK K)
  (refine oW fun dd K hK => ?_; go_simp; refine qT hK ?_; clear hK K)
  (refine oW fun dd K hK => ?_; go_simp; refine qT hK ?_; clear hK K)
  (refine oW fun dd K hK => ?_; go_simp; refine qT hK ?_; clear hK K)
  refine oc callable37 #[.slice ta tl tc, .func (.func 38) #[.pointer (some ⟨qb, 0, none⟩)] #[], .slice sa sl sc, .int .i64 mo] ?_
  refine h _ ?_
  exact ⟨rfl, rfl, rfl, trivial⟩
end Go.Proofs.Ytcejbandeikdjaa
namespace Go.Proofs.Ytcejbandeikdjaa
open Go Go.Conc Go.RowKit Go.Proofs
variable {F : Fz} {w : World}
theorem tr_new (X : World) (x y z u x' y' z' u' : Value) : ((((X.alloc (.cells #[x, y, z, u] 29)).setCell ⟨X.heap.size, 0, none⟩ x').setCell ⟨X.heap.size, 1, none⟩ y').setCell ⟨X.heap.size, 2, none⟩ z').setCell ⟨X.heap.size, 3, none⟩ u' = X.alloc (.cells #[x', y', z', u'] 29) := by go_simp
set_option maxRecDepth 100000 in
set_option maxHeartbeats 2000000 in
theorem pl_2 {n : Nat} (hU : Under F n) (hn : n ≤ w.heap.size) {qb rb : Nat} {aa oa : Option Addr} {al ac ol oc : Nat} {st : Bool} {A : Array Value} (hA : Slots 23 A [(8, .pointer (some ⟨rb, 0, none⟩)), (9, .pointer (some ⟨qb, 0, none⟩))]) {cs : List Frame} {main : Bool} {Stop : Goroutine → World → Prop}
    (h : ∀ A, Slots 23 A [(8, .pointer (some ⟨rb, 0, none⟩)), (10, .pointer (some ⟨w.heap.size, 0, none⟩))] → Own Try.prog main F Stop (G (Frame.enter Try.prog 39 #[.pointer (some ⟨qb, 0, none⟩)] .normal) (((Go.Conc.base 14).at ⟨A, []⟩ [.inRegion plo3 [1, 2, 3], .code pls4]) :: cs)) (w.alloc (.cells #[.slice aa al ac, .slice oa ol oc, .slice none 0 0, .bool st] 29))) :
    Own Try.prog main F Stop (G (((Go.Conc.base 14).at ⟨A, []⟩ [.inRegion plo2 [5, 6, 7], .code pls3]).finish (.agg #[.slice aa al ac, .slice oa ol oc, .slice none 0 0, .bool st])) cs) w := by
  obtain ⟨hsz, h8, h9, _⟩ := hA
  obtain ⟨s, rfl⟩ := plT_of hsz
  change s 8 = _ at h8
  change s 9 = _ at h9
  clear hsz
  simp only [plT, h8, h9]
  clear h8 h9
  rw [Frame.finish_at]
  simp only [plo2, Code.opsOf, plr2, Code.piece, plBody, Try.f14, Option.getD_some, List.size_toArray, List.length_cons, List.length_nil, Nat.reduceAdd, Nat.zero_add, List.range, List.range.loop]
  walk_nrm
  (refine oW fun dd K hK => ?_; go_simp; refine qA hK hU ?_; clear hK K)
  (refine oW fun dd K hK => ?_; go_simp; refine hK _ _ ⟨⟨⟨0, grew4 (fun k => not_held hU (show n ≤ w.heap.size by omega)) _ _ _ _⟩, fun e he => by (have hm := mem_listed he; clear he hK; simp [go_sem, storedEv] at hm; rcases hm with rfl | rfl | rfl | rfl <;> exact evT_write _ _ ((fun k => not_held hU (show n ≤ w.heap.size by omega)) _))⟩, ?_⟩; clear hK K; simp only [setCell_at']; refine Own.at ?_ dd)
  have e1 := tr_new w (.slice none 0 0) (.slice none 0 0) (.slice none 0 0) (.bool false) (.slice aa al ac) (.slice oa ol oc) (.slice none 0 0) (.bool st)
  rw [e1]
  clear e1
  refine ogE ?_
  rw [pls3_eq]
  refine ogS ?_
  rw [plr3_eq]
  refine ogR ?_
  simp only [plo3, Code.opsOf, plr3, Code.piece, plBody, Try.f14, Option.getD_some, List.size_toArray, List.length_cons, List.length_nil, Nat.reduceAdd, Nat.zero_add, List.range, List.range.loop]
  (refine oW fun dd K hK => ?_; go_simp; refine qT hK ?_; clear hK K)
  refine Go.Proofs.Ytcejbandeikdjaa.oc callable39 #[.pointer (some ⟨qb, 0, none⟩)] ?_
  refine h _ ?_
  exact ⟨rfl, rfl, rfl, trivial⟩
end Go.Proofs.Ytcejbandeikdjaa
namespace Go.Proofs.Ytcejbandeikdjaa
open Go Go.Conc Go.RowKit Go.Proofs
variable {F : Fz} {w : World}
set_option maxRecDepth 100000 in
set_option maxHeartbeats 2000000 in
theorem pl_3 {rb tb : Nat} {aa oa : Option Addr} {al ac ol oc xl xc : Nat} {xa : Option Addr} {st : Bool} {y0 y1 y2 y3 : Value} (hne : rb ≠ tb) (hR : TrAt w rb y0 y1 y2 y3) (hT : TrAt w tb (.slice aa al ac) (.slice oa ol oc) (.slice none 0 0) (.bool st)) (hnr : ∀ k, ¬ held F ⟨rb, k, none⟩) (hnt : ∀ k, ¬ held F ⟨tb, k, none⟩) {A : Array Value} (hA : Slots 23 A [(8, .pointer (some ⟨rb, 0, none⟩)), (10, .pointer (some ⟨tb, 0, none⟩))]) {c : Frame} {cs : List Frame} {main : Bool} {Stop : Goroutine → World → Prop}
    (h : Own Try.prog main F Stop (G (c.finish (.agg #[.slice aa al ac, .slice oa ol oc, .slice xa xl xc, .bool st])) cs) (trW (w.setCell ⟨tb, 2, none⟩ (.slice xa xl xc)) rb (.slice aa al ac) (.slice oa ol oc) (.slice xa xl xc) (.bool st))) :
    Own Try.prog main F Stop (G (((Go.Conc.base 14).at ⟨A, []⟩ [.inRegion plo3 [1, 2, 3], .code pls4]).finish (.slice xa xl xc)) (c :: cs)) w := by
  obtain ⟨hsz, h8, h10, _⟩ := hA
  obtain ⟨s, rfl⟩ := plT_of hsz
  change s 8 = _ at h8
  change s 10 = _ at h10
  clear hsz
  simp only [plT, h8, h10]
  clear h8 h10
  rw [Frame.finish_at]
  simp only [plo3, Code.opsOf, plr3, Code.piece, plBody, Try.f14, Option.getD_some, List.size_toArray, List.length_cons, List.length_nil, Nat.reduceAdd, Nat.zero_add, List.range, List.range.loop]
  walk_nrm
  (refine oW fun dd K hK => ?_; go_simp; refine qT hK ?_; clear hK K)
  (refine oW fun dd K hK => ?_; have hc2 := (hT.at dd).c2; have hz0 := (hT.at dd).z; go_simp; refine hK _ _ ⟨⟨⟨0, grew_setCell rfl (hnt 2) _⟩, fun e he => by (have hm := mem_listed he; clear he hK; simp [go_sem, storedEv, hc2, hz0] at hm; subst hm; exact evT_write _ _ (hnt 2))⟩, ?_⟩; clear hK K hc2 hz0; rw [setCell_at']; refine Own.at ?_ dd)
  have hT2 : TrAt (w.setCell ⟨tb, 2, none⟩ (.slice xa xl xc)) tb (.slice aa al ac) (.slice oa ol oc) (.slice xa xl xc) (.bool st) := ⟨by rw [heap_setCell_eq hT.o]; rfl⟩
  have hR2 : TrAt (w.setCell ⟨tb, 2, none⟩ (.slice xa xl xc)) rb y0 y1 y2 y3 := ⟨(heap_setCell_ne _ _ _ hne).trans hR.o⟩
  generalize w.setCell ⟨tb, 2, none⟩ (.slice xa xl xc) = W at hT2 hR2 h ⊢
  refine ogE ?_
  rw [pls4_eq]
  refine ogS ?_
  rw [plr4_eq]
  refine ogR ?_
  simp only [plo4, Code.opsOf, plr4, Code.piece, plBody, Try.f14, Option.getD_some, List.size_toArray, List.length_cons, List.length_nil, Nat.reduceAdd, Nat.zero_add, List.range, List.range.loop]
  (refine oW fun dd K hK => ?_; have hc0 := (hT2.at dd).c0; have hc1 := (hT2.at dd).c1; have hc2 := (hT2.at dd).c2; have hc3 := (hT2.at dd).c3; have hz0 := (hT2.at dd).z; go_simp; refine hK _ _ ⟨⟨⟨0, Grew.refl _ _⟩, fun e he => by (have hm := mem_listed he; clear he hK; simp [go_sem, hc0, hc1, hc2, hc3, hz0] at hm; rcases hm with rfl | rfl | rfl | rfl <;> exact evT_read _ _)⟩, Own.at ?_ dd⟩; clear hK K hc0 hc1 hc2 hc3 hz0)
  (refine oW fun dd K hK => ?_; have hc0 := (hR2.at dd).c0; have hc1 := (hR2.at dd).c1; have hc2 := (hR2.at dd).c2; have hc3 := (hR2.at dd).c3; have hz0 := (hR2.at dd).z; go_simp; refine hK _ _ ⟨⟨⟨0, grew4 hnr _ _ _ _⟩, fun e he => by (have hm := mem_listed he; clear he hK; simp [go_sem, storedEv, hc0, hc1, hc2, hc3, hz0] at hm; rcases hm with rfl | rfl | rfl | rfl <;> exact evT_write _ _ (hnr _))⟩, ?_⟩; clear hK K hc0 hc1 hc2 hc3 hz0; simp only [setCell_at']; refine Own.at ?_ dd)
  refine ogE ?_
  refine ogX ?_
  have hT3 := hR2.put (.slice aa al ac) (.slice oa ol oc) (.slice xa xl xc) (.bool st)
  change Own _ _ _ _ _ (trW W rb (.slice aa al ac) (.slice oa ol oc) (.slice xa xl xc) (.bool st))
  generalize (trW W rb (.slice aa al ac) (.slice oa ol oc) (.slice xa xl xc) (.bool st)) = V at hT3 h ⊢
  have hc0 := hT3.c0
  have hc1 := hT3.c1
  have hc2 := hT3.c2
  have hc3 := hT3.c3
  have hz0 := hT3.z
  refine own_leave (fn := Try.f14) (v := .agg #[.slice aa al ac, .slice oa ol oc, .slice xa xl xc, .bool st]) rfl rfl Try.func14 (fun d => by simp [results, Try.f14, go_sem, hc0, hc1, hc2, hc3, hz0]) (fun d e he => by simp [results, Try.f14, go_sem, hc0, hc1, hc2, hc3, hz0] at he; rcases he with rfl | rfl | rfl | rfl <;> exact evT_read _ _) ?_
  exact h
end Go.Proofs.Ytcejbandeikdjaa
namespace Go.Proofs.Ytcejbandeikdjaa
open Go Go.Conc Go.RowKit Go.Proofs
variable {An : Anchor} {w w' : World}
theorem OpsIn.later {N N' : Nat → Prop} {n tb o tl : Nat} {ta : Option Addr} {oa : Nat → Option Addr} {ol oc : Nat → Nat} {ops : Nat → List Op4} {S : List Int} {sa : Option Addr} (h : OpsIn w N n tb o tl ta oa ol oc ops S sa) (hs : w.heap.size ≤ w'.heap.size) (hold : ∀ r, r < w.heap.size → w'.heap[r]? = w.heap[r]?) (hN : ∀ r, N' r → w.heap.size ≤ r) : OpsIn w' N' n tb o tl ta oa ol oc ops S sa := by
  have hc : ∀ {a : Addr} {v : Value}, w.cell? a = some v → w'.cell? a = some v ∧ w'.frozen? a = w.frozen? a := fun {a v} h => by
    obtain ⟨c, e, z, ho⟩ := cell_block h
    have e1 := hold _ (Array.getElem?_eq_some_iff.1 ho).1
    exact ⟨by rw [← h]; unfold World.cell?; simp only [e1], by unfold World.frozen?; simp only [e1]⟩
  refine ⟨h.hn, h.hta, fun hp => by have := h.htb hp; omega, fun j hj => ?_, h.hlen, fun j hj k x hx => ?_, h.hsl, fun hp => ?_⟩
  · obtain ⟨h1, h2, h3⟩ := h.hth j hj
    exact ⟨(hc h1).1, (hc h1).2.trans h2, h3⟩
  · obtain ⟨opb, oo, h1, h2, f0, f1, f2, f3, g0, g1, g2, g3⟩ := h.hop j hj k x hx
    obtain ⟨c, e, z, ho⟩ := cell_block f0
    have hlt := (Array.getElem?_eq_some_iff.1 ho).1
    exact ⟨opb, oo, h1, fun hn => by have := hN _ hn; simp only at hlt; omega, (hc f0).1, (hc f1).1, (hc f2).1, (hc f3).1, (hc f0).2.trans g0, (hc f1).2.trans g1, (hc f2).2.trans g2, (hc f3).2.trans g3⟩
  · obtain ⟨sb, so, c, e, z, h1, h2, h3, h4⟩ := h.hS hp
    have hlt := (Array.getElem?_eq_some_iff.1 h3).1
    exact ⟨sb, so, c, e, z, h1, fun hn => by have := hN _ hn; omega, (hold _ hlt).trans h3, h4⟩
theorem abs_x00 {qb : Nat} {s0 : QS} : absX (x00 (L := QLay qb) s0) = ⟨s0.q, fun _ => ⟨0, none, []⟩⟩ := rfl
structure PlayU (w : World) (n : Nat) (s : PS) (lb : Nat) (vals : List Int) (order : List Nat) (aa : Nat) (ov sv : Value) (w' : World) : Prop where
  size : w.heap.size ≤ w'.heap.size
  old : ∀ (r : Nat) (c : Array Value) (e : TypeId) (z : Nat × Nat), w.heap[r]? = some (.cells c e z) → w'.heap[r]? = some (.cells c e z)
  arr : ∃ c, w'.heap[aa]? = some (.cells c 84 (0, 0)) ∧ c.size = n ∧ ∀ i, i < n → ∃ v, c[i]? = some v ∧ (s.th i).ans.length ≤ 65536 ∧ w'.ownsRow 0 46 3 v (s.th i).ans.length (ansC (s.th i).ans)
  ord : w'.ownsRow w.heap.size 3 1 ov order.length (order.map fun i : Nat => Value.int .i64 i)
  st : w'.ownsRow w.heap.size 2 1 sv (1 + vals.length) (.int .i64 lb :: vals.map fun v => .int .i64 v)
theorem own_off {base n size : Nat} {e : TypeId} {v : Value} {xs : List Value} (h : w.ownsRow base e size v n xs) (hs : ∀ b c, w.heap[b]? = some (.cells c e (0, 0)) → base ≤ b → w'.heap[b]? = w.heap[b]?) : w'.ownsRow base e size v n xs := by
  refine ⟨h.1, ?_⟩
  rcases h.2 with h2 | ⟨b, cap, cur, rfl, h3, h4, h5⟩
  · exact .inl h2
  · exact .inr ⟨b, cap, cur, rfl, h3, (hs b cur h4 h3).trans h4, h5⟩
set_option maxHeartbeats 1000000 in
theorem bes_play {vs : List Int} {va : Option Addr} {vb vo vc : Nat} (hlen : vs.length < 10000000) (hva : 0 < vs.length → va = some ⟨vb, vo, none⟩) (hvb : 0 < vs.length → vb < w.heap.size) (hv : ∀ k v, vs[k]? = some v → w.cell? ⟨vb, vo + k, none⟩ = some (.int .i64 v) ∧ w.frozen? ⟨vb, vo + k, none⟩ = false)
    {n tb o tl tc sc M : Nat} {mo : Int} {ta sa : Option Addr} {oa : Nat → Option Addr} {ol oc : Nat → Nat} {ops : Nat → List Op4} {S : List Int} (hI : OpsIn w (fun _ => False) n tb o tl ta oa ol oc ops S sa) (hM : min (max mo 0) 1048576 = (M : Int)) {c : Frame} {cs : List Frame} {Stop : Goroutine → World → Prop}
    (hP : ∀ s order, pDone n M (s, order) → (∃ k, ∀ f, k ≤ f → pOver ops n M S f (q00 vs) = (s, order)) → ∃ lb lv, Path s.q (s.q.nx s.q.tl) lb ∧ Path s.q (s.q.nx s.q.hd) lv ∧ lb.length < 10000000 ∧ lv.length < 10000000 ∧
      ∀ aa oa' oc' xa xc w', PlayU w n s lb.length (lv.map s.q.vl) order aa (.slice oa' order.length oc') (.slice xa (1 + lv.length) xc) w' →
        Bes An Try.prog Stop (G (c.finish (.agg #[.slice (some ⟨aa, 0, none⟩) n n, .slice oa' order.length oc', .slice xa (1 + lv.length) xc, .bool (decide (0 < cnt s.live n))])) cs) w') :
    Bes An Try.prog Stop (G (Frame.enter Try.prog 14 #[.slice va vs.length vc, .slice ta tl tc, .slice sa S.length sc, .int .i64 mo] .normal) (c :: cs)) w := by
  have hF : ∀ a : Addr, ¬ held F0 a := fun a h => by obtain ⟨z, hz, _⟩ := h; cases hz
  have hrow0 : ∀ r, r < w.heap.size → (w.alloc (.cells #[.slice none 0 0, .slice none 0 0, .slice none 0 0, .bool false] 29)).heap[r]? = w.heap[r]? := fun r hr => heap_alloc_lt _ _ hr
  have hs0 : (w.alloc (.cells #[.slice none 0 0, .slice none 0 0, .slice none 0 0, .bool false] 29)).heap.size = w.heap.size + 1 := by simp
  have htr : TrAt (w.alloc (.cells #[.slice none 0 0, .slice none 0 0, .slice none 0 0, .bool false] 29)) w.heap.size (.slice none 0 0) (.slice none 0 0) (.slice none 0 0) (.bool false) := ⟨heap_alloc_new _ _⟩
  refine bes_own (F := F0) (Stop := fun a u => ∃ A qb bl, a = G (Frame.enter Try.prog 37 #[.slice ta tl tc, .func (.func 38) #[.pointer (some ⟨qb, 0, none⟩)] #[], .slice sa S.length sc, .int .i64 mo] .normal) (((Go.Conc.base 14).at ⟨A, []⟩ [.inRegion plo2 [5, 6, 7], .code pls3]) :: c :: cs) ∧
      Slots 23 A [(8, .pointer (some ⟨w.heap.size, 0, none⟩)), (9, .pointer (some ⟨qb, 0, none⟩))] ∧ QU qb ⟨newRQ vs, bl⟩ u ∧ w.heap.size + 1 ≤ u.heap.size ∧ (∀ r, r < w.heap.size + 1 → u.heap[r]? = (w.alloc (.cells #[.slice none 0 0, .slice none 0 0, .slice none 0 0, .bool false] 29)).heap[r]?) ∧ ∀ r, QR qb ⟨newRQ vs, bl⟩ r → w.heap.size + 1 ≤ r)
    (pl_0 under_F0 (Nat.zero_le _) fun A hA => own_new hlen hva (fun h => by have := hvb h; omega) (fun k v hk => by
      obtain ⟨h1, h2⟩ := hv k v hk
      have := cellB_alloc h1 (.cells #[.slice none 0 0, .slice none 0 0, .slice none 0 0, .bool false] 29)
      exact ⟨this.1, this.2.trans h2⟩) fun w1 qb bl k1 k2 k3 k4 => pl_1 hA fun A2 hA2 => .stop fun d => ⟨A2, qb, bl, rfl, hA2, k1.same fun _ _ => rfl, by rw [hs0] at k2; exact k2, fun r hr => k3 r (by omega), fun r hr => by have := k4 r hr; omega⟩) fun a W hS => ?_
  obtain ⟨A, qb, bl, rfl, hA, hQ, hWs, hWo, hWn⟩ := hS
  have hold1 : ∀ r, r < w.heap.size → W.heap[r]? = w.heap[r]? := fun r hr => (hWo r (by omega)).trans (hrow0 r hr)
  have hrb1 : W.heap[w.heap.size]? = some (.cells #[.slice none 0 0, .slice none 0 0, .slice none 0 0, .bool false] 29 (0, 0)) := (hWo _ (by omega)).trans htr.o
  have hI1 : OpsIn W ((QLay qb).SR ⟨newRQ vs, bl⟩) n tb o tl ta oa ol oc ops S sa := hI.later (by omega) hold1 fun r hr => by have := hWn r hr; omega
  refine bes_ops (L := QLay qb) (qlay_ok qb) (s0 := ⟨newRQ vs, bl⟩) hQ hI1 hM ?_
  intro g p p' t u oa' oc' hg hpn hpo hOk hrel hpn' hpo' hpa hU hord hnR hsz hkeep
  obtain ⟨hd, hover⟩ := over_abs (p := p) (g := g) hOk (fun j hj => ⟨rfl, rfl⟩) hrel
  rw [hpo] at hover
  obtain ⟨lb, lv, hPb, hPv, hlb, hlv, hK⟩ := hP _ _ hd hover
  have hQU : QU qb t.1.s u := hU.su
  have hrb2 : u.heap[w.heap.size]? = some (.cells #[.slice none 0 0, .slice none 0 0, .slice none 0 0, .bool false] 29 (0, 0)) := hkeep _ _ _ _ hrb1 fun h => by have := hWn _ h; omega
  have hcnt : cnt ((opsUsers (QLay qb) p g).liv t.1) n = cnt (absX t.1).live n := cnt_abs t.1 n
  rw [hcnt]
  obtain ⟨ca, hca, hcs, hci⟩ := hU.arr
  have hlt := (Array.getElem?_eq_some_iff.1 hca).1
  have hlr := (Array.getElem?_eq_some_iff.1 hrb2).1
  have htb := heap_alloc_new u (.cells #[.slice (some ⟨p.aa, 0, none⟩) n n, .slice oa' t.2.length oc', .slice none 0 0, .bool (decide (0 < cnt (absX t.1).live n))] 29)
  have htl : ∀ r, r < u.heap.size → (u.alloc (.cells #[.slice (some ⟨p.aa, 0, none⟩) n n, .slice oa' t.2.length oc', .slice none 0 0, .bool (decide (0 < cnt (absX t.1).live n))] 29)).heap[r]? = u.heap[r]? := fun r hr => heap_alloc_lt _ _ hr
  have hts : (u.alloc (.cells #[.slice (some ⟨p.aa, 0, none⟩) n n, .slice oa' t.2.length oc', .slice none 0 0, .bool (decide (0 < cnt (absX t.1).live n))] 29)).heap.size = u.heap.size + 1 := by simp
  refine bes_own (F := F0) (Stop := fun a u2 => ∃ xa xc, a = G (c.finish (.agg #[.slice (some ⟨p.aa, 0, none⟩) n n, .slice oa' t.2.length oc', .slice xa (1 + lv.length) xc, .bool (decide (0 < cnt (absX t.1).live n))])) cs ∧
      PlayU w n (absX t.1) lb.length (lv.map (absX t.1).q.vl) t.2 p.aa (.slice oa' t.2.length oc') (.slice xa (1 + lv.length) xc) u2)
    (pl_2 under_F0 (Nat.zero_le _) hA fun A2 hA2 => ?_) fun a u2 ⟨xa, xc, ha, hu2⟩ => ?_
  · generalize u.alloc (.cells #[.slice (some ⟨p.aa, 0, none⟩) n n, .slice oa' t.2.length oc', .slice none 0 0, .bool (decide (0 < cnt (absX t.1).live n))] 29) = U at htb htl hts ⊢
    refine own_state (hQU.same fun r hr => htl r (hQU.low hr)) hPb hPv hlb hlv fun w2 l' k1 k2 k3 => ?_
    obtain ⟨xa, xc, rfl⟩ : ∃ xa xc, l' = .slice xa (1 + lv.length) xc := by
      rcases k1.2 with ⟨rfl, h⟩ | ⟨b, cap, cur, rfl, _⟩
      · omega
      · exact ⟨_, _, rfl⟩
    have hR : TrAt w2 w.heap.size (.slice none 0 0) (.slice none 0 0) (.slice none 0 0) (.bool false) := ⟨(k3 _ (by omega)).trans ((htl _ hlr).trans hrb2)⟩
    have hT : TrAt w2 u.heap.size (.slice (some ⟨p.aa, 0, none⟩) n n) (.slice oa' t.2.length oc') (.slice none 0 0) (.bool (decide (0 < cnt (absX t.1).live n))) := ⟨(k3 _ (by omega)).trans htb⟩
    refine pl_3 (show w.heap.size ≠ u.heap.size by omega) hR hT (fun k => hF _) (fun k => hF _) hA2 (.stop fun d => ⟨xa, xc, rfl, ?_⟩)
    have hlw : ∀ r, r < u.heap.size → w2.heap[r]? = u.heap[r]? := fun r hr => (k3 _ (by omega)).trans (htl _ hr)
    have hne : ∀ r, r ≠ w.heap.size → r ≠ u.heap.size → (trW (w2.setCell ⟨u.heap.size, 2, none⟩ (.slice xa (1 + lv.length) xc)) w.heap.size (.slice (some ⟨p.aa, 0, none⟩) n n) (.slice oa' t.2.length oc') (.slice xa (1 + lv.length) xc) (.bool (decide (0 < cnt (absX t.1).live n)))).heap[r]? = w2.heap[r]? := fun r hr hr2 => by
      unfold trW
      rw [heap_setCell_ne _ _ _ hr, heap_setCell_ne _ _ _ hr, heap_setCell_ne _ _ _ hr, heap_setCell_ne _ _ _ hr, heap_setCell_ne _ _ _ hr2]
    have hsz2 : (trW (w2.setCell ⟨u.heap.size, 2, none⟩ (.slice xa (1 + lv.length) xc)) w.heap.size (.slice (some ⟨p.aa, 0, none⟩) n n) (.slice oa' t.2.length oc') (.slice xa (1 + lv.length) xc) (.bool (decide (0 < cnt (absX t.1).live n)))).heap.size = w2.heap.size := by
      unfold trW; simp
    show PlayU _ _ _ _ _ _ _ _ _ ((trW (w2.setCell ⟨u.heap.size, 2, none⟩ (.slice xa (1 + lv.length) xc)) w.heap.size (.slice (some ⟨p.aa, 0, none⟩) n n) (.slice oa' t.2.length oc') (.slice xa (1 + lv.length) xc) (.bool (decide (0 < cnt (absX t.1).live n)))).at d)
    have hne2 : ∀ r, r ≠ w.heap.size → r ≠ u.heap.size → ((trW (w2.setCell ⟨u.heap.size, 2, none⟩ (.slice xa (1 + lv.length) xc)) w.heap.size (.slice (some ⟨p.aa, 0, none⟩) n n) (.slice oa' t.2.length oc') (.slice xa (1 + lv.length) xc) (.bool (decide (0 < cnt (absX t.1).live n)))).at d).heap[r]? = w2.heap[r]? := hne
    have hsz3 : ((trW (w2.setCell ⟨u.heap.size, 2, none⟩ (.slice xa (1 + lv.length) xc)) w.heap.size (.slice (some ⟨p.aa, 0, none⟩) n n) (.slice oa' t.2.length oc') (.slice xa (1 + lv.length) xc) (.bool (decide (0 < cnt (absX t.1).live n)))).at d).heap.size = w2.heap.size := hsz2
    generalize (trW (w2.setCell ⟨u.heap.size, 2, none⟩ (.slice xa (1 + lv.length) xc)) w.heap.size (.slice (some ⟨p.aa, 0, none⟩) n n) (.slice oa' t.2.length oc') (.slice xa (1 + lv.length) xc) (.bool (decide (0 < cnt (absX t.1).live n)))).at d = V at hne2 hsz3 ⊢
    have hty : ∀ (b : Nat) (c : Array Value) (e : TypeId) (z : Nat × Nat), u.heap[b]? = some (.cells c e z) → e ≠ 29 → V.heap[b]? = u.heap[b]? := fun b cc e z hb he => by
      have hbl := (Array.getElem?_eq_some_iff.1 hb).1
      rw [hne2 b (fun h => by rw [h, hrb2] at hb; cases hb; exact he rfl) (by omega), hlw b hbl]
    refine ⟨by omega, fun r cc e z hr => ?_, ⟨ca, ?_, ?_, fun i hi => ?_⟩, ?_, ?_⟩
    · have hlt := (Array.getElem?_eq_some_iff.1 hr).1
      rw [hne2 r (by omega) (by omega), hlw r (by omega)]
      exact hkeep _ _ _ _ ((hold1 r hlt).trans hr) fun h => by have := hWn _ h; omega
    · rw [hty _ _ _ _ (hpa ▸ hca) (by decide)]
      exact hpa ▸ hca
    · rw [hcs, hpn']
    · have hi' : i < p'.n := by rw [hpn']; exact hi
      have ht := hU.thr i hi'
      refine ⟨_, hci i hi', ?_, ?_⟩
      · show (t.1.th i).ans.length ≤ _
        have h1 := ht.al
        have h2 := ht.kl
        rw [hpo', hI.hlen i hi] at h2
        omega
      · have hr : u.ownsRow 0 46 3 (t.1.th i).row (t.1.th i).ans.length (ansC (t.1.th i).ans) := ht.row
        exact own_off hr fun b cc hb _ => hty b cc _ _ hb (by decide)
    · exact ownsRow_mono_base (by omega) (own_off hord fun b cc hb _ => hty b cc _ _ hb (by decide))
    · have e1 : (lv.map (absX t.1).q.vl).length = lv.length := List.length_map _
      rw [e1]
      have e2 : ((lv.map (absX t.1).q.vl).map fun v => Value.int .i64 v) = lv.map fun k => .int .i64 (t.1.s.q.vl k) := by
        rw [List.map_map]; rfl
      rw [e2]
      exact ownsRow_mono_base (by omega) (own_off k1 fun b cc hb hbb => hne2 b (by omega) (by omega))
  · subst ha
    exact hK _ _ _ _ _ _ hu2
end Go.Proofs.Ytcejbandeikdjaa
namespace Go.Proofs.Ytcejbandeikdjaa
open Go Go.Conc Go.RowKit Go.Proofs
variable {F : Fz} {w : World}
theorem cell_at {a : Addr} {v : Option Value} (h : w.cell? a = v) (d : Nat) : (w.at d).cell? a = v := h
theorem froz_at {a : Addr} {v : Bool} (h : w.frozen? a = v) (d : Nat) : (w.at d).frozen? a = v := h
theorem tr_newA (X : World) (x y z u x' y' z' u' : Value) : ((((X.alloc (.cells #[x, y, z, u] 29)).setCell ⟨X.heap.size, 0, none⟩ x').setCell ⟨X.heap.size, 1, none⟩ y').setCell ⟨X.heap.size, 2, none⟩ z').setCell ⟨X.heap.size, 3, none⟩ u' = X.alloc (.cells #[x', y', z', u'] 29) := by go_simp
theorem At.alloc {a : Addr} {v : Value} (h : At w a v) (o : Obj) : At (w.alloc o) a v := ⟨(cellB_alloc h.c o).1, (cellB_alloc h.c o).2.trans h.z⟩
theorem At.at {a : Addr} {v : Value} (h : At w a v) (d : Nat) : At (w.at d) a v := ⟨h.c, h.z⟩
noncomputable def awBody : Code := Try.f12.body.getD .skip
noncomputable def aws0 : Code := Code.piece [] awBody
noncomputable def awr0 : Code := Code.piece [true] awBody
noncomputable def awo0 : Array Oper := Code.opsOf awr0
noncomputable def aws1 : Code := Code.piece [false] awBody
noncomputable def awr1 : Code := Code.piece [false, true] awBody
noncomputable def awo1 : Array Oper := Code.opsOf awr1
noncomputable def aws2 : Code := Code.piece [false, false] awBody
noncomputable def aws3 : Code := Code.piece [false, false, true] awBody
noncomputable def awr2 : Code := Code.piece [false, false, true, true] awBody
noncomputable def awo2 : Array Oper := Code.opsOf awr2
noncomputable def awc32 : Code := Code.piece [false, false, true, false] awBody
noncomputable def aws4 : Code := Code.piece [false, false, true, false, true] awBody
noncomputable def awr3 : Code := Code.piece [false, false, true, false, true, true] awBody
noncomputable def awo3 : Array Oper := Code.opsOf awr3
noncomputable def aws5 : Code := Code.piece [false, false, false] awBody
noncomputable def awr4 : Code := Code.piece [false, false, false, true] awBody
noncomputable def awo4 : Array Oper := Code.opsOf awr4
theorem aws0_eq : aws0 = .seq awr0 aws1 := by kernel_rfl
theorem awr0_eq : awr0 = .region 0 awo0 false := by kernel_rfl
theorem aws1_eq : aws1 = .seq awr1 aws2 := by kernel_rfl
theorem awr1_eq : awr1 = .region 1 awo1 false := by kernel_rfl
theorem aws2_eq : aws2 = .seq aws3 aws5 := by kernel_rfl
theorem aws3_eq : aws3 = .seq awr2 awc32 := by kernel_rfl
theorem awr2_eq : awr2 = .region 2 awo2 false := by kernel_rfl
theorem awc32_eq : awc32 = .cond (.tmp 32) aws4 .skip := by kernel_rfl
theorem aws4_eq : aws4 = .seq awr3 .ret := by kernel_rfl
theorem awr3_eq : awr3 = .region 3 awo3 false := by kernel_rfl
theorem aws5_eq : aws5 = .seq awr4 .ret := by kernel_rfl
theorem awr4_eq : awr4 = .region 4 awo4 false := by kernel_rfl
theorem enter_aw (args : Array Value) : Frame.enter Try.prog 12 args .normal = (Go.Conc.base 12).at { tmps := args ++ Array.replicate (73 - args.size) undef, defers := [] } [.code aws0] := enter_at args Try.func12 rfl
theorem callable12 : Callable 12 := callable Try.func12 rfl rfl
def awT (s : Nat → Value) : Array Value := #[s 0, s 1, s 2, s 3, s 4, s 5, s 6, s 7, s 8, s 9, s 10, s 11, s 12, s 13, s 14, s 15, s 16, s 17, s 18, s 19, s 20, s 21, s 22, s 23, s 24, s 25, s 26, s 27, s 28, s 29, s 30, s 31, s 32, s 33, s 34, s 35, s 36, s 37, s 38, s 39, s 40, s 41, s 42, s 43, s 44, s 45, s 46, s 47, s 48, s 49, s 50, s 51, s 52, s 53, s 54, s 55, s 56, s 57, s 58, s 59, s 60, s 61, s 62, s 63, s 64, s 65, s 66, s 67, s 68, s 69, s 70, s 71, s 72]
theorem awT_of {A : Array Value} (h : A.size = 73) : ∃ s, A = awT s := by
  obtain ⟨s, hs, _⟩ := arr_lit A h
  exact ⟨s, hs⟩
def awW (w : World) : World := (((((w.alloc (.cells #[.int .i64 5] 2)).alloc (.cells #[.int .i64 2, .int .i64 0, .int .i64 0, .int .i64 0, .int .i64 2, .int .i64 0, .int .i64 0, .int .i64 0] 44)).alloc (.cells #[.int .i64 1, .int .i64 7, .int .i64 0, .int .i64 0] 44)).alloc (.cells #[.slice (some ⟨w.heap.size + 1, 0, none⟩) 2 2, .slice (some ⟨w.heap.size + 2, 0, none⟩) 1 1] 32)).alloc (.cells #[.int .i64 1, .int .i64 1, .int .i64 1, .int .i64 0, .int .i64 0, .int .i64 0, .int .i64 0, .int .i64 0, .int .i64 0, .int .i64 0, .int .i64 0, .int .i64 1] 3))
set_option maxRecDepth 100000 in
set_option maxHeartbeats 2000000 in
theorem aw_0 {n : Nat} (hU : Under F n) (hn : n ≤ w.heap.size) {cs : List Frame} {main : Bool} {Stop : Goroutine → World → Prop}
    (h : ∀ A, A.size = 73 → Own Try.prog main F Stop (G (Frame.enter Try.prog 14 #[.slice (some ⟨w.heap.size, 0, none⟩) 1 1, .slice (some ⟨w.heap.size + 3, 0, none⟩) 2 2, .slice (some ⟨w.heap.size + 4, 0, none⟩) 12 12, .int .i64 100] .normal) (((Go.Conc.base 12).at ⟨A, []⟩ [.inRegion awo1 [8, 9, 10], .code aws2]) :: cs)) (awW w)) :
    Own Try.prog main F Stop (G (Frame.enter Try.prog 12 #[] .normal) cs) w := by
  rw [enter_aw]
  walk_nrm
  rw [aws0_eq]
  refine ogS ?_
  rw [awr0_eq]
  refine ogR ?_
  simp only [awo0, Code.opsOf, awr0, Code.piece, awBody, Try.f12, Option.getD_some, List.size_toArray, List.length_cons, List.length_nil, Nat.reduceAdd, Nat.zero_add, List.range, List.range.loop]
  (refine oW fun dd K hK => ?_; go_simp; refine qT hK ?_; clear hK K)
  refine ogE ?_
  rw [aws1_eq]
  refine ogS ?_
  rw [awr1_eq]
  refine ogR ?_
  simp only [awo1, Code.opsOf, awr1, Code.piece, awBody, Try.f12, Option.getD_some, List.size_toArray, List.length_cons, List.length_nil, Nat.reduceAdd, Nat.zero_add, List.range, List.range.loop]
  (refine oW fun dd K hK => ?_; go_simp; refine qA hK hU ?_; clear hK K)
  (refine oW fun dd K hK => ?_; go_simp; refine qT hK ?_; clear hK K)
  (refine oW fun dd K hK => ?_; go_simp; refine qT hK ?_; clear hK K)
  (refine oW fun dd K hK => ?_; go_simp; refine qA hK hU ?_; clear hK K)
  (refine oW fun dd K hK => ?_; go_simp; refine qT hK ?_; clear hK K)
  (refine oW fun dd K hK => ?_; go_simp; refine qA hK hU ?_; clear hK K)
  (refine oW fun dd K hK => ?_; go_simp; refine qA hK hU ?_; clear hK K)
  (refine oW fun dd K hK => ?_; go_simp; refine qA hK hU ?_; clear hK K)
  refine oc callable14 #[.slice (some ⟨w.heap.size, 0, none⟩) 1 1, .slice (some ⟨w.heap.size + 3, 0, none⟩) 2 2, .slice (some ⟨w.heap.size + 4, 0, none⟩) 12 12, .int .i64 100] ?_
  refine h _ ?_
  rfl
set_option maxRecDepth 100000 in
set_option maxHeartbeats 2000000 in
theorem aw_1 {n : Nat} (hU : Under F n) (hn : n ≤ w.heap.size) {aa rb xb rc oc xc : Nat} {oa : Option Addr} (h0 : At w ⟨aa, 0, none⟩ (.slice (some ⟨rb, 0, none⟩) 2 rc)) (h1 : At w ⟨rb, 1, none⟩ (.int .i64 5)) (h4 : At w ⟨rb, 4, none⟩ (.int .i64 7)) (h3 : At w ⟨rb, 3, none⟩ (.bool true)) (hx : At w ⟨xb, 0, none⟩ (.int .i64 0)) {A : Array Value} (hA : A.size = 73) {c : Frame} {cs : List Frame} {main : Bool} {Stop : Goroutine → World → Prop}
    (h : Own Try.prog main F Stop (G (c.finish (.bool true)) cs) (w.alloc (.cells #[.slice (some ⟨aa, 0, none⟩) 2 2, .slice oa 16 oc, .slice (some ⟨xb, 0, none⟩) 1 xc, .bool false] 29))) :
    Own Try.prog main F Stop (G (((Go.Conc.base 12).at ⟨A, []⟩ [.inRegion awo1 [8, 9, 10], .code aws2]).finish (.agg #[.slice (some ⟨aa, 0, none⟩) 2 2, .slice oa 16 oc, .slice (some ⟨xb, 0, none⟩) 1 xc, .bool false])) (c :: cs)) w := by
  obtain ⟨s, rfl⟩ := awT_of hA
  clear hA
  simp only [awT]
  rw [Frame.finish_at]
  simp only [awo1, Code.opsOf, awr1, Code.piece, awBody, Try.f12, Option.getD_some, List.size_toArray, List.length_cons, List.length_nil, Nat.reduceAdd, Nat.zero_add, List.range, List.range.loop]
  walk_nrm
  (refine oW fun dd K hK => ?_; go_simp; refine qA hK hU ?_; clear hK K)
  (refine oW fun dd K hK => ?_; go_simp; refine hK _ _ ⟨⟨⟨0, grew4 (fun k => not_held hU (show n ≤ w.heap.size by omega)) _ _ _ _⟩, fun e he => by (have hm := mem_listed he; clear he hK; simp [go_sem, storedEv] at hm; rcases hm with rfl | rfl | rfl | rfl <;> exact evT_write _ _ ((fun k => not_held hU (show n ≤ w.heap.size by omega)) _))⟩, ?_⟩; clear hK K; simp only [setCell_at']; refine Own.at ?_ dd)
  have e1 := tr_newA w (.slice none 0 0) (.slice none 0 0) (.slice none 0 0) (.bool false) (.slice (some ⟨aa, 0, none⟩) 2 2) (.slice oa 16 oc) (.slice (some ⟨xb, 0, none⟩) 1 xc) (.bool false)
  rw [e1]
  clear e1
  have hT : TrAt (w.alloc (.cells #[.slice (some ⟨aa, 0, none⟩) 2 2, .slice oa 16 oc, .slice (some ⟨xb, 0, none⟩) 1 xc, .bool false] 29)) w.heap.size (.slice (some ⟨aa, 0, none⟩) 2 2) (.slice oa 16 oc) (.slice (some ⟨xb, 0, none⟩) 1 xc) (.bool false) := ⟨heap_alloc_new _ _⟩
  replace h0 := h0.alloc (.cells #[.slice (some ⟨aa, 0, none⟩) 2 2, .slice oa 16 oc, .slice (some ⟨xb, 0, none⟩) 1 xc, .bool false] 29)
  replace h1 := h1.alloc (.cells #[.slice (some ⟨aa, 0, none⟩) 2 2, .slice oa 16 oc, .slice (some ⟨xb, 0, none⟩) 1 xc, .bool false] 29)
  replace h4 := h4.alloc (.cells #[.slice (some ⟨aa, 0, none⟩) 2 2, .slice oa 16 oc, .slice (some ⟨xb, 0, none⟩) 1 xc, .bool false] 29)
  replace h3 := h3.alloc (.cells #[.slice (some ⟨aa, 0, none⟩) 2 2, .slice oa 16 oc, .slice (some ⟨xb, 0, none⟩) 1 xc, .bool false] 29)
  replace hx := hx.alloc (.cells #[.slice (some ⟨aa, 0, none⟩) 2 2, .slice oa 16 oc, .slice (some ⟨xb, 0, none⟩) 1 xc, .bool false] 29)
  generalize hW : w.alloc (.cells #[.slice (some ⟨aa, 0, none⟩) 2 2, .slice oa 16 oc, .slice (some ⟨xb, 0, none⟩) 1 xc, .bool false] 29) = W at hT h0 h1 h4 h3 hx h ⊢
  generalize w.heap.size = T at hT h ⊢
  refine ogE ?_
  rw [aws2_eq]
  refine ogS ?_
  rw [aws3_eq]
  refine ogS ?_
  rw [awr2_eq]
  refine ogR ?_
  simp only [awo2, Code.opsOf, awr2, Code.piece, awBody, Try.f12, Option.getD_some, List.size_toArray, List.length_cons, List.length_nil, Nat.reduceAdd, Nat.zero_add, List.range, List.range.loop]
  (refine oW fun dd K hK => ?_; go_simp; refine qT hK ?_; clear hK K)
  (refine oW fun dd K hK => ?_; have c0 := (hT.at dd).c0; have z0 := (hT.at dd).z; go_simp; refine hK _ _ ⟨⟨⟨0, Grew.refl _ _⟩, fun e he => by (have hm := mem_listed he; clear he hK; simp [go_sem, c0, z0] at hm; subst hm; exact evT_read _ _)⟩, Own.at ?_ dd⟩; clear hK K c0 z0)
  (refine oW fun dd K hK => ?_; go_simp; refine qT hK ?_; clear hK K)
  (refine oW fun dd K hK => ?_; go_simp; refine qT hK ?_; clear hK K)
  (refine oW fun dd K hK => ?_; go_simp; refine qT hK ?_; clear hK K)
  (refine oW fun dd K hK => ?_; go_simp; refine qT hK ?_; clear hK K)
  (refine oW fun dd K hK => ?_; have c0 := (hT.at dd).c0; have z0 := (hT.at dd).z; go_simp; refine hK _ _ ⟨⟨⟨0, Grew.refl _ _⟩, fun e he => by (have hm := mem_listed he; clear he hK; simp [go_sem, c0, z0] at hm; subst hm; exact evT_read _ _)⟩, Own.at ?_ dd⟩; clear hK K c0 z0)
  (refine oW fun dd K hK => ?_; go_simp; refine qX hK ?_; clear hK K)
  (refine oW fun dd K hK => ?_; have c0 := ((h0).at dd).c; have z0 := ((h0).at dd).z; go_simp; refine hK _ _ ⟨⟨⟨0, Grew.refl _ _⟩, fun e he => by (have hm := mem_listed he; clear he hK; simp [go_sem, c0, z0] at hm; subst hm; exact evT_read _ _)⟩, Own.at ?_ dd⟩; clear hK K c0 z0)
  (refine oW fun dd K hK => ?_; go_simp; refine qT hK ?_; clear hK K)
  (refine oW fun dd K hK => ?_; go_simp; refine qT hK ?_; clear hK K)
  (refine oW fun dd K hK => ?_; go_simp; refine qT hK ?_; clear hK K)
  (refine oW fun dd K hK => ?_; go_simp; refine qT hK ?_; clear hK K)
  (refine oW fun dd K hK => ?_; go_simp; refine qT hK ?_; clear hK K)
  (refine oW fun dd K hK => ?_; have c0 := (hT.at dd).c2; have z0 := (hT.at dd).z; go_simp; refine hK _ _ ⟨⟨⟨0, Grew.refl _ _⟩, fun e he => by (have hm := mem_listed he; clear he hK; simp [go_sem, c0, z0] at hm; subst hm; exact evT_read _ _)⟩, Own.at ?_ dd⟩; clear hK K c0 z0)
  (refine oW fun dd K hK => ?_; go_simp; refine qT hK ?_; clear hK K)
  (refine oW fun dd K hK => ?_; go_simp; refine qT hK ?_; clear hK K)
  (refine oW fun dd K hK => ?_; go_simp; refine qT hK ?_; clear hK K)
  (refine oW fun dd K hK => ?_; go_simp; refine qT hK ?_; clear hK K)
  (refine oW fun dd K hK => ?_; go_simp; refine qT hK ?_; clear hK K)
  (refine oW fun dd K hK => ?_; have c0 := (hT.at dd).c3; have z0 := (hT.at dd).z; go_simp; refine hK _ _ ⟨⟨⟨0, Grew.refl _ _⟩, fun e he => by (have hm := mem_listed he; clear he hK; simp [go_sem, c0, z0] at hm; subst hm; exact evT_read _ _)⟩, Own.at ?_ dd⟩; clear hK K c0 z0)
  (refine oW fun dd K hK => ?_; go_simp; refine qT hK ?_; clear hK K)
  refine ogE ?_
  rw [awc32_eq]
  refine ogF ?_
  simp only [Bool.false_eq_true, if_false]
  refine ogK ?_
  rw [aws5_eq]
  refine ogS ?_
  rw [awr4_eq]
  refine ogR ?_
  simp only [awo4, Code.opsOf, awr4, Code.piece, awBody, Try.f12, Option.getD_some, List.size_toArray, List.length_cons, List.length_nil, Nat.reduceAdd, Nat.zero_add, List.range, List.range.loop]
  (refine oW fun dd K hK => ?_; go_simp; refine qT hK ?_; clear hK K)
  (refine oW fun dd K hK => ?_; have c0 := (hT.at dd).c0; have z0 := (hT.at dd).z; go_simp; refine hK _ _ ⟨⟨⟨0, Grew.refl _ _⟩, fun e he => by (have hm := mem_listed he; clear he hK; simp [go_sem, c0, z0] at hm; subst hm; exact evT_read _ _)⟩, Own.at ?_ dd⟩; clear hK K c0 z0)
  (refine oW fun dd K hK => ?_; go_simp; refine qX hK ?_; clear hK K)
  (refine oW fun dd K hK => ?_; have c0 := ((h0).at dd).c; have z0 := ((h0).at dd).z; go_simp; refine hK _ _ ⟨⟨⟨0, Grew.refl _ _⟩, fun e he => by (have hm := mem_listed he; clear he hK; simp [go_sem, c0, z0] at hm; subst hm; exact evT_read _ _)⟩, Own.at ?_ dd⟩; clear hK K c0 z0)
  (refine oW fun dd K hK => ?_; go_simp; refine qX hK ?_; clear hK K)
  (refine oW fun dd K hK => ?_; go_simp; refine qT hK ?_; clear hK K)
  (refine oW fun dd K hK => ?_; have c0 := ((h1).at dd).c; have z0 := ((h1).at dd).z; go_simp; refine hK _ _ ⟨⟨⟨0, Grew.refl _ _⟩, fun e he => by (have hm := mem_listed he; clear he hK; simp [go_sem, c0, z0] at hm; subst hm; exact evT_read _ _)⟩, Own.at ?_ dd⟩; clear hK K c0 z0)
  (refine oW fun dd K hK => ?_; go_simp; refine qT hK ?_; clear hK K)
  (refine oW fun dd K hK => ?_; go_simp; refine qT hK ?_; clear hK K)
  (refine oW fun dd K hK => ?_; go_simp; refine qT hK ?_; clear hK K)
  (refine oW fun dd K hK => ?_; have c0 := (hT.at dd).c0; have z0 := (hT.at dd).z; go_simp; refine hK _ _ ⟨⟨⟨0, Grew.refl _ _⟩, fun e he => by (have hm := mem_listed he; clear he hK; simp [go_sem, c0, z0] at hm; subst hm; exact evT_read _ _)⟩, Own.at ?_ dd⟩; clear hK K c0 z0)
  (refine oW fun dd K hK => ?_; go_simp; refine qX hK ?_; clear hK K)
  (refine oW fun dd K hK => ?_; have c0 := ((h0).at dd).c; have z0 := ((h0).at dd).z; go_simp; refine hK _ _ ⟨⟨⟨0, Grew.refl _ _⟩, fun e he => by (have hm := mem_listed he; clear he hK; simp [go_sem, c0, z0] at hm; subst hm; exact evT_read _ _)⟩, Own.at ?_ dd⟩; clear hK K c0 z0)
  (refine oW fun dd K hK => ?_; go_simp; refine qX hK ?_; clear hK K)
  (refine oW fun dd K hK => ?_; go_simp; refine qT hK ?_; clear hK K)
  (refine oW fun dd K hK => ?_; have c0 := ((h4).at dd).c; have z0 := ((h4).at dd).z; go_simp; refine hK _ _ ⟨⟨⟨0, Grew.refl _ _⟩, fun e he => by (have hm := mem_listed he; clear he hK; simp [go_sem, c0, z0] at hm; subst hm; exact evT_read _ _)⟩, Own.at ?_ dd⟩; clear hK K c0 z0)
  (refine oW fun dd K hK => ?_; go_simp; refine qT hK ?_; clear hK K)
  (refine oW fun dd K hK => ?_; go_simp; refine qT hK ?_; clear hK K)
  (refine oW fun dd K hK => ?_; go_simp; refine qT hK ?_; clear hK K)
  (refine oW fun dd K hK => ?_; go_simp; refine qT hK ?_; clear hK K)
  (refine oW fun dd K hK => ?_; have c0 := (hT.at dd).c0; have z0 := (hT.at dd).z; go_simp; refine hK _ _ ⟨⟨⟨0, Grew.refl _ _⟩, fun e he => by (have hm := mem_listed he; clear he hK; simp [go_sem, c0, z0] at hm; subst hm; exact evT_read _ _)⟩, Own.at ?_ dd⟩; clear hK K c0 z0)
  (refine oW fun dd K hK => ?_; go_simp; refine qX hK ?_; clear hK K)
  (refine oW fun dd K hK => ?_; have c0 := ((h0).at dd).c; have z0 := ((h0).at dd).z; go_simp; refine hK _ _ ⟨⟨⟨0, Grew.refl _ _⟩, fun e he => by (have hm := mem_listed he; clear he hK; simp [go_sem, c0, z0] at hm; subst hm; exact evT_read _ _)⟩, Own.at ?_ dd⟩; clear hK K c0 z0)
  (refine oW fun dd K hK => ?_; go_simp; refine qX hK ?_; clear hK K)
  (refine oW fun dd K hK => ?_; go_simp; refine qT hK ?_; clear hK K)
  (refine oW fun dd K hK => ?_; have c0 := ((h3).at dd).c; have z0 := ((h3).at dd).z; go_simp; refine hK _ _ ⟨⟨⟨0, Grew.refl _ _⟩, fun e he => by (have hm := mem_listed he; clear he hK; simp [go_sem, c0, z0] at hm; subst hm; exact evT_read _ _)⟩, Own.at ?_ dd⟩; clear hK K c0 z0)
  (refine oW fun dd K hK => ?_; go_simp; refine qT hK ?_; clear hK K)
  (refine oW fun dd K hK => ?_; go_simp; refine qT hK ?_; clear hK K)
  (refine oW fun dd K hK => ?_; go_simp; refine qT hK ?_; clear hK K)
  (refine oW fun dd K hK => ?_; have c0 := (hT.at dd).c2; have z0 := (hT.at dd).z; go_simp; refine hK _ _ ⟨⟨⟨0, Grew.refl _ _⟩, fun e he => by (have hm := mem_listed he; clear he hK; simp [go_sem, c0, z0] at hm; subst hm; exact evT_read _ _)⟩, Own.at ?_ dd⟩; clear hK K c0 z0)
  (refine oW fun dd K hK => ?_; go_simp; refine qX hK ?_; clear hK K)
  (refine oW fun dd K hK => ?_; have c0 := ((hx).at dd).c; have z0 := ((hx).at dd).z; go_simp; refine hK _ _ ⟨⟨⟨0, Grew.refl _ _⟩, fun e he => by (have hm := mem_listed he; clear he hK; simp [go_sem, c0, z0] at hm; subst hm; exact evT_read _ _)⟩, Own.at ?_ dd⟩; clear hK K c0 z0)
  (refine oW fun dd K hK => ?_; go_simp; refine qT hK ?_; clear hK K)
  (refine oW fun dd K hK => ?_; go_simp; refine qT hK ?_; clear hK K)
  (refine oW fun dd K hK => ?_; go_simp; refine qT hK ?_; clear hK K)
  (refine oW fun dd K hK => ?_; go_simp; refine qT hK ?_; clear hK K)
  (refine oW fun dd K hK => ?_; have c0 := (hT.at dd).c1; have z0 := (hT.at dd).z; go_simp; refine hK _ _ ⟨⟨⟨0, Grew.refl _ _⟩, fun e he => by (have hm := mem_listed he; clear he hK; simp [go_sem, c0, z0] at hm; subst hm; exact evT_read _ _)⟩, Own.at ?_ dd⟩; clear hK K c0 z0)
  (refine oW fun dd K hK => ?_; go_simp; refine qT hK ?_; clear hK K)
  (refine oW fun dd K hK => ?_; go_simp; refine qT hK ?_; clear hK K)
  (refine oW fun dd K hK => ?_; go_simp; refine qT hK ?_; clear hK K)
  (refine oW fun dd K hK => ?_; go_simp; refine qT hK ?_; clear hK K)
  refine ogE ?_
  refine ogX ?_
  refine own_leave (fn := Try.f12) (v := .bool true) rfl rfl Try.func12 (fun d => by simp [results, Try.f12, go_sem]) (fun d e he => by simp [results, Try.f12, go_sem] at he) ?_
  exact h
end Go.Proofs.Ytcejbandeikdjaa
namespace Go.Proofs.Ytcejbandeikdjaa
open Go Go.Conc Go.RowKit Go.Proofs
theorem bes_good {An : Anchor} {P : Program} {Post : Value → World → Prop} {fr : Frame} {W : World} (hA : An.Holds W)
    (hB : Bes An P (fun g w => g.status = .running ∧ ∀ d, ∃ v, stepG P true g (w.at d) = .ended (.done v) (w.at d) #[] ∧ (An.Holds (w.at d) → Post v (w.at d))) (G fr []) W) :
    ∃ M last o w' t', runNT P (M + 1) (solo (G fr []) W) #[] = (.ended o w', t') ∧ runN P M (solo (G fr []) W) = .next last ∧ step P last = .ended o w' ∧ Go.Conc.Good P Post last o w' t' := by
  rw [solo_eq_crowd]
  obtain ⟨N, gs', g', w', sl', T', q', B', hr, h0', ⟨hrun, hS⟩, hL', hP', hA'⟩ := hB #[G fr []] none #[] (fun _ => 0) 0 rfl (leavers_one _ _) past_nil hA
  obtain ⟨K, last, o, w2, t', e1, e2, e3, e4⟩ := beside_ends (P := P) (Post := Post) (D := fun _ _ es => ∀ e ∈ es, EvL NoShun B' e) (sl := sl') (n := 0) (fun _ _ _ h => h) h0' hL' hP' (Goes.stop fun w₂ r₂ => by
    obtain ⟨d, rfl⟩ := r₂
    obtain ⟨v, h1, h2⟩ := hS d
    exact ⟨hrun, v, #[], h1, by simp, h2 (hA'.at d)⟩)
  refine ⟨N + K, last, o, w2, t', ?_, ?_, e3, e4⟩
  · rw [Nat.add_assoc, runNT_add, hr]; exact e1
  · rw [runN_add, ← runNT_fst P _ _ #[], hr]; exact e2
theorem below_of {W w' : World} (h : (⟨W.heap.size, W⟩ : Anchor).Holds w') (hc : ∀ (r : Nat) (c : Array Value) (e : TypeId) (z : Nat × Nat), W.heap[r]? = some (.cells c e z) → w'.heap[r]? = some (.cells c e z)) : Below W.heap.size W w' := by
  refine ⟨h.os, h.tape, h.output, h.low, fun r hr => ?_⟩
  obtain ⟨o, ho⟩ : ∃ o, W.heap[r]? = some o := ⟨_, Array.getElem?_eq_getElem hr⟩
  by_cases e : ∃ c e z, o = .cells c e z
  · obtain ⟨c, e, z, rfl⟩ := e
    rw [hc r c e z ho, ho]
  · rw [h.obj r o hr ho fun c e1 z e2 => e ⟨c, e1, z, e2⟩, ho]
theorem law_ends {f k : Nat} {fn : Func} {A : Array Value} (h2 : ¬ 2 = f) (hf : Try.prog.funcs[f]? = some fn) (hr : fn.results = #[.tmp k]) {v : Value} (hA : A.getD k undef = v) (w : World) :
    stepG Try.prog true (G { (base f).at ⟨A, []⟩ [.code .ret] with mode := .returning } []) w = .ended (.done v) w #[] := by
  subst hA
  simp [G, stepG, unwind, doReturn, results, Frame.at, base, hf, hr, seen, GStep.after, h2]
end Go.Proofs.Ytcejbandeikdjaa
namespace Go.Proofs.Ytcejbandeikdjaa
open Go Go.Conc Go.RowKit Go.Proofs
variable {An : Anchor} {w w' : World}
def awOps : Nat → List Op4 := fun i => if i = 0 then [⟨2, 0, 0, 0⟩, ⟨2, 0, 0, 0⟩] else if i = 1 then [⟨1, 7, 0, 0⟩] else []
def awS : List Int := [1, 1, 1, 0, 0, 0, 0, 0, 0, 0, 0, 1]
def awE : PS × List Nat := pOver awOps 2 100 awS 10 (q00 [5])
theorem awE_done : pDone 2 100 awE := by decide +kernel
theorem awE_order : awE.2.length = 16 := by decide +kernel
theorem awE_ans : (awE.1.th 0).ans = [(true, 5), (true, 7)] := by decide +kernel
theorem awE_live : cnt awE.1.live 2 = 0 := by decide +kernel
theorem awE_tl : awE.1.q.nx awE.1.q.tl = none := by decide +kernel
theorem awE_hd : awE.1.q.nx awE.1.q.hd = none := by decide +kernel
theorem awE_is {t : PS × List Nat} (h : ∃ k, ∀ f, k ≤ f → pOver awOps 2 100 awS f (q00 [5]) = t) : t = awE := by
  obtain ⟨k, hk⟩ := h
  rw [← hk (max k 10) (by omega)]
  exact pRounds_stays 10 _ awE_done (max k 10) (by omega)
theorem aw_old {r : Nat} (h : r < w.heap.size) : (awW w).heap[r]? = w.heap[r]? := by
  simp only [awW]
  rw [heap_alloc_lt _ _ (by simp; try omega), heap_alloc_lt _ _ (by simp; try omega), heap_alloc_lt _ _ (by simp; try omega), heap_alloc_lt _ _ (by simp; try omega), heap_alloc_lt _ _ h]
theorem aw_size : (awW w).heap.size = w.heap.size + 5 := by simp [awW]
theorem aw_b0 : (awW w).heap[w.heap.size]? = some (.cells #[.int .i64 5] 2 (0, 0)) := by
  simp only [awW]
  rw [heap_alloc_lt _ _ (by simp; try omega), heap_alloc_lt _ _ (by simp; try omega), heap_alloc_lt _ _ (by simp; try omega), heap_alloc_lt _ _ (by simp; try omega)]
  exact heap_alloc_new _ _
theorem aw_b1 : (awW w).heap[w.heap.size + 1]? = some (.cells #[.int .i64 2, .int .i64 0, .int .i64 0, .int .i64 0, .int .i64 2, .int .i64 0, .int .i64 0, .int .i64 0] 44 (0, 0)) := by
  simp only [awW]
  rw [heap_alloc_lt _ _ (by simp; try omega), heap_alloc_lt _ _ (by simp; try omega), heap_alloc_lt _ _ (by simp; try omega)]
  exact new_at (by simp) _
theorem aw_b2 : (awW w).heap[w.heap.size + 2]? = some (.cells #[.int .i64 1, .int .i64 7, .int .i64 0, .int .i64 0] 44 (0, 0)) := by
  simp only [awW]
  rw [heap_alloc_lt _ _ (by simp; try omega), heap_alloc_lt _ _ (by simp; try omega)]
  exact new_at (by simp) _
theorem aw_b3 : (awW w).heap[w.heap.size + 3]? = some (.cells #[.slice (some ⟨w.heap.size + 1, 0, none⟩) 2 2, .slice (some ⟨w.heap.size + 2, 0, none⟩) 1 1] 32 (0, 0)) := by
  simp only [awW]
  rw [heap_alloc_lt _ _ (by simp; try omega)]
  exact new_at (by simp) _
theorem aw_b4 : (awW w).heap[w.heap.size + 4]? = some (.cells #[.int .i64 1, .int .i64 1, .int .i64 1, .int .i64 0, .int .i64 0, .int .i64 0, .int .i64 0, .int .i64 0, .int .i64 0, .int .i64 0, .int .i64 0, .int .i64 1] 3 (0, 0)) := by
  simp only [awW]
  exact new_at (by simp) _
theorem aw_in (d : Nat) : OpsIn ((awW w).at d) (fun _ => False) 2 (w.heap.size + 3) 0 2 (some ⟨w.heap.size + 3, 0, none⟩) (fun i => some ⟨w.heap.size + 1 + i, 0, none⟩) (fun i => if i = 0 then 2 else 1) (fun i => if i = 0 then 2 else 1) awOps awS (some ⟨w.heap.size + 4, 0, none⟩) := by
  have h1 : ((awW w).at d).heap[w.heap.size + 1]? = _ := aw_b1
  have h2 : ((awW w).at d).heap[w.heap.size + 2]? = _ := aw_b2
  have h3 : ((awW w).at d).heap[w.heap.size + 3]? = _ := aw_b3
  have h4 : ((awW w).at d).heap[w.heap.size + 4]? = _ := aw_b4
  refine ⟨rfl, fun _ => rfl, fun _ => by show _ < (awW w).heap.size; rw [aw_size]; omega, fun j hj => ?_, fun j hj => ?_, fun j hj k x hx => ?_, by decide, fun _ => ⟨_, _, _, _, _, rfl, id, h4, fun k u hu => ?_⟩⟩
  · have : j = 0 ∨ j = 1 := by omega
    rcases this with rfl | rfl
    · exact ⟨(cell_of h3 rfl).c, (cell_of (k := 0) h3 rfl).z, Nat.le_refl _⟩
    · exact ⟨(cell_of h3 rfl).c, (cell_of (k := 1) h3 rfl).z, Nat.le_refl _⟩
  · have : j = 0 ∨ j = 1 := by omega
    rcases this with rfl | rfl <;> rfl
  · have : j = 0 ∨ j = 1 := by omega
    rcases this with rfl | rfl
    · have hk : k = 0 ∨ k = 1 := by
        have := (List.getElem?_eq_some_iff.1 hx).1
        simp [awOps] at this
        omega
      rcases hk with rfl | rfl
      · obtain rfl : (⟨2, 0, 0, 0⟩ : Op4) = x := by simpa [awOps] using hx
        exact ⟨_, _, rfl, id, (cell_of h1 rfl).c, (cell_of h1 rfl).c, (cell_of h1 rfl).c, (cell_of h1 rfl).c, (cell_of (k := 0) h1 rfl).z, (cell_of (k := 1) h1 rfl).z, (cell_of (k := 2) h1 rfl).z, (cell_of (k := 3) h1 rfl).z⟩
      · obtain rfl : (⟨2, 0, 0, 0⟩ : Op4) = x := by simpa [awOps] using hx
        exact ⟨_, _, rfl, id, (cell_of h1 rfl).c, (cell_of h1 rfl).c, (cell_of h1 rfl).c, (cell_of h1 rfl).c, (cell_of (k := 4) h1 rfl).z, (cell_of (k := 5) h1 rfl).z, (cell_of (k := 6) h1 rfl).z, (cell_of (k := 7) h1 rfl).z⟩
    · have hk : k = 0 := by
        have := (List.getElem?_eq_some_iff.1 hx).1
        simp [awOps] at this
        omega
      subst hk
      obtain rfl : (⟨1, 7, 0, 0⟩ : Op4) = x := by simpa [awOps] using hx
      exact ⟨_, _, rfl, id, (cell_of h2 rfl).c, (cell_of h2 rfl).c, (cell_of h2 rfl).c, (cell_of h2 rfl).c, (cell_of (k := 0) h2 rfl).z, (cell_of (k := 1) h2 rfl).z, (cell_of (k := 2) h2 rfl).z, (cell_of (k := 3) h2 rfl).z⟩
  · refine ⟨?_, by simp⟩
    rw [Nat.zero_add]
    have e : (#[.int .i64 1, .int .i64 1, .int .i64 1, .int .i64 0, .int .i64 0, .int .i64 0, .int .i64 0, .int .i64 0, .int .i64 0, .int .i64 0, .int .i64 0, .int .i64 1] : Array Value) = (awS.map fun i : Int => Value.int .i64 i).toArray := rfl
    rw [e]
    simpa using hu
theorem bes_awake {c : Frame} {cs : List Frame} {Stop : Goroutine → World → Prop} (K : ∀ w', w.heap.size ≤ w'.heap.size → (∀ (r : Nat) (c : Array Value) (e : TypeId) (z : Nat × Nat), w.heap[r]? = some (.cells c e z) → w'.heap[r]? = some (.cells c e z)) → Bes An Try.prog Stop (G (c.finish (.bool true)) cs) w') :
    Bes An Try.prog Stop (G (Frame.enter Try.prog 12 #[] .normal) (c :: cs)) w := by
  refine bes_own (F := F0) (Stop := fun a u => ∃ A d, A.size = 73 ∧ u = (awW w).at d ∧ a = G (Frame.enter Try.prog 14 #[.slice (some ⟨w.heap.size, 0, none⟩) 1 1, .slice (some ⟨w.heap.size + 3, 0, none⟩) 2 2, .slice (some ⟨w.heap.size + 4, 0, none⟩) 12 12, .int .i64 100] .normal) (((Go.Conc.base 12).at ⟨A, []⟩ [.inRegion awo1 [8, 9, 10], .code aws2]) :: c :: cs))
    (aw_0 under_F0 (Nat.zero_le _) fun A hA => .stop fun d => ⟨A, d, hA, rfl, rfl⟩) fun a u ⟨A, d, hA, hu, ha⟩ => ?_
  subst ha
  have hin := aw_in (w := w) d
  have hb0 : ((awW w).at d).heap[w.heap.size]? = _ := aw_b0 (w := w)
  have hol : ∀ r, r < w.heap.size → u.heap[r]? = w.heap[r]? := fun r hr => by rw [hu]; exact aw_old hr
  have hsz : u.heap.size = w.heap.size + 5 := by rw [hu]; exact aw_size
  rw [← hu] at hin hb0
  clear hu
  refine bes_play (vs := [5]) (vb := w.heap.size) (vo := 0) (by decide) (fun _ => rfl) (fun _ => by omega) (fun k v hk => ?_) (n := 2) (M := 100) (S := awS) hin rfl ?_
  · have : k = 0 := by have := (List.getElem?_eq_some_iff.1 hk).1; simpa using this
    subst this
    obtain rfl : 5 = v := by simpa using hk
    exact ⟨(cell_of hb0 rfl).c, (cell_of (k := 0) hb0 rfl).z⟩
  · intro s order hd hov
    have he := awE_is hov
    have e1 : s = awE.1 := congrArg Prod.fst he
    have e2 : order = awE.2 := congrArg Prod.snd he
    subst e1
    subst e2
    rw [awE_tl, awE_hd]
    refine ⟨[], [], .nil, .nil, by decide, by decide, fun aa oa' oc' xa xc w' hP => ?_⟩
    rw [awE_live, awE_order] at *
    obtain ⟨ca, ha1, ha2, ha3⟩ := hP.arr
    obtain ⟨v, hv1, _, hv3⟩ := ha3 0 (by decide)
    rw [awE_ans] at hv3
    obtain ⟨rb, rc, rfl, h1⟩ := row_get (k := 1) hv3 rfl
    obtain ⟨_, _, e4, h4⟩ := row_get (k := 4) hv3 rfl
    cases e4
    obtain ⟨_, _, e3, h3⟩ := row_get (k := 3) hv3 rfl
    cases e3
    obtain ⟨xb, xc', e5, hx⟩ := row_get (k := 0) hP.st rfl
    cases e5
    refine bes_own (F := F0) (Stop := fun a u2 => a = G (c.finish (.bool true)) cs ∧ w'.heap.size ≤ u2.heap.size ∧ ∀ r, r < w'.heap.size → u2.heap[r]? = w'.heap[r]?)
      (aw_1 under_F0 (Nat.zero_le _) (cell_of ha1 hv1) h1 h4 h3 hx hA (.stop fun d => ⟨rfl, ?_, fun r hr => heap_alloc_lt _ _ hr⟩)) fun a u2 ⟨ha, hs2, ho2⟩ => ?_
    · show _ ≤ (w'.alloc _).heap.size
      simp
    · subst ha
      have hsz3 := hP.size
      refine K u2 (by omega) fun r cc e z hr => ?_
      have hlt := (Array.getElem?_eq_some_iff.1 hr).1
      have h6 := hP.old r cc e z ((hol r hlt).trans hr)
      rw [ho2 r (Array.getElem?_eq_some_iff.1 h6).1]
      exact h6
section
variable {An : Anchor} {W : World}
def LawPost (W : World) (v : Value) (w' : World) : Prop := v = .bool true ∧ ∀ (r : Nat) (c : Array Value) (e : TypeId) (z : Nat × Nat), W.heap[r]? = some (.cells c e z) → w'.heap[r]? = some (.cells c e z)
def LawStop (An : Anchor) (Post : Value → World → Prop) (g : Goroutine) (w : World) : Prop := g.status = .running ∧ ∀ d, ∃ v, stepG Try.prog true g (w.at d) = .ended (.done v) (w.at d) #[] ∧ (An.Holds (w.at d) → Post v (w.at d))
theorem law_stop {f k : Nat} {fn : Func} {A : Array Value} (hf : Try.prog.funcs[f]? = some fn) (hr : fn.results = #[.tmp k]) (h2 : ¬ 2 = f) (hA : A.getD k undef = .bool true) {w : World} (h : ∀ (r : Nat) (c : Array Value) (e : TypeId) (z : Nat × Nat), W.heap[r]? = some (.cells c e z) → w.heap[r]? = some (.cells c e z)) :
    LawStop An (LawPost W) (G { (base f).at ⟨A, []⟩ [.code .ret] with mode := .returning } []) w :=
  ⟨rfl, fun d => ⟨_, law_ends h2 hf hr hA _, fun _ => ⟨rfl, h⟩⟩⟩
end
end Go.Proofs.Ytcejbandeikdjaa
namespace Go.Proofs.Ytcejbandeikdjaa
open Go Go.Conc Go.RowKit Go.Proofs
variable {F : Fz} {w : World}
theorem callable28 : Callable 28 := callable Try.func28 rfl rfl
theorem callable29 : Callable 29 := callable Try.func29 rfl rfl
theorem callable30 : Callable 30 := callable Try.func30 rfl rfl
noncomputable def kqBody : Code := Try.f6.body.getD .skip
noncomputable def kqs0 : Code := Code.piece [] kqBody
noncomputable def kqr0 : Code := Code.piece [true] kqBody
noncomputable def kqo0 : Array Oper := Code.opsOf kqr0
noncomputable def kqs1 : Code := Code.piece [false] kqBody
noncomputable def kqs2 : Code := Code.piece [false, true] kqBody
noncomputable def kqr1 : Code := Code.piece [false, true, true] kqBody
noncomputable def kqo1 : Array Oper := Code.opsOf kqr1
noncomputable def kqc9 : Code := Code.piece [false, true, false] kqBody
noncomputable def kqs3 : Code := Code.piece [false, true, false, true] kqBody
noncomputable def kqr2 : Code := Code.piece [false, true, false, true, true] kqBody
noncomputable def kqo2 : Array Oper := Code.opsOf kqr2
noncomputable def kqs4 : Code := Code.piece [false, false] kqBody
noncomputable def kqr3 : Code := Code.piece [false, false, true] kqBody
noncomputable def kqo3 : Array Oper := Code.opsOf kqr3
noncomputable def kqs5 : Code := Code.piece [false, false, false] kqBody
noncomputable def kqr4 : Code := Code.piece [false, false, false, true] kqBody
noncomputable def kqo4 : Array Oper := Code.opsOf kqr4
theorem kqs0_eq : kqs0 = .seq kqr0 kqs1 := by kernel_rfl
theorem kqr0_eq : kqr0 = .region 0 kqo0 false := by kernel_rfl
theorem kqs1_eq : kqs1 = .seq kqs2 kqs4 := by kernel_rfl
theorem kqs2_eq : kqs2 = .seq kqr1 kqc9 := by kernel_rfl
theorem kqr1_eq : kqr1 = .region 1 kqo1 false := by kernel_rfl
theorem kqc9_eq : kqc9 = .cond (.tmp 9) kqs3 .skip := by kernel_rfl
theorem kqs3_eq : kqs3 = .seq kqr2 .ret := by kernel_rfl
theorem kqr2_eq : kqr2 = .region 2 kqo2 false := by kernel_rfl
theorem kqs4_eq : kqs4 = .seq kqr3 kqs5 := by kernel_rfl
theorem kqr3_eq : kqr3 = .region 3 kqo3 false := by kernel_rfl
theorem kqs5_eq : kqs5 = .seq kqr4 .ret := by kernel_rfl
theorem kqr4_eq : kqr4 = .region 4 kqo4 false := by kernel_rfl
theorem enter_kq (args : Array Value) : Frame.enter Try.prog 6 args .normal = (Go.Conc.base 6).at { tmps := args ++ Array.replicate (21 - args.size) undef, defers := [] } [.code kqs0] := enter_at args Try.func6 rfl
theorem callable6 : Callable 6 := callable Try.func6 rfl rfl
def kqT (s : Nat → Value) : Array Value := #[s 0, s 1, s 2, s 3, s 4, s 5, s 6, s 7, s 8, s 9, s 10, s 11, s 12, s 13, s 14, s 15, s 16, s 17, s 18, s 19, s 20]
theorem kqT_of {A : Array Value} (h : A.size = 21) : ∃ s, A = kqT s := by
  obtain ⟨s, hs, _⟩ := arr_lit A h
  exact ⟨s, hs⟩
set_option maxRecDepth 100000 in
set_option maxHeartbeats 2000000 in
theorem kq_0 {a b c0 : Value} {cs : List Frame} {main : Bool} {Stop : Goroutine → World → Prop}
    (h : ∀ A, Slots 21 A [(0, a), (1, b), (2, c0)] → Own Try.prog main F Stop (G (Frame.enter Try.prog 12 #[] .normal) (((Go.Conc.base 6).at ⟨A, []⟩ [.inRegion kqo1 [0, 1], .code kqc9, .code kqs4]) :: cs)) w) :
    Own Try.prog main F Stop (G (Frame.enter Try.prog 6 #[a, b, c0] .normal) cs) w := by
  rw [enter_kq]
  walk_nrm
  rw [kqs0_eq]
  refine ogS ?_
  rw [kqr0_eq]
  refine ogR ?_
  simp only [kqo0, Code.opsOf, kqr0, Code.piece, kqBody, Try.f6, Option.getD_some, List.size_toArray, List.length_cons, List.length_nil, Nat.reduceAdd, Nat.zero_add, List.range, List.range.loop]
  (refine oW fun dd K hK => ?_; go_simp; refine qT hK ?_; clear hK K)
  refine ogE ?_
  rw [kqs1_eq]
  refine ogS ?_
  rw [kqs2_eq]
  refine ogS ?_
  rw [kqr1_eq]
  refine ogR ?_
  simp only [kqo1, Code.opsOf, kqr1, Code.piece, kqBody, Try.f6, Option.getD_some, List.size_toArray, List.length_cons, List.length_nil, Nat.reduceAdd, Nat.zero_add, List.range, List.range.loop]
  refine oc callable12 #[] ?_
  refine h _ ?_
  exact ⟨rfl, rfl, rfl, rfl, trivial⟩
set_option maxRecDepth 100000 in
set_option maxHeartbeats 2000000 in
theorem kq_1 {a b c0 : Value} {A : Array Value} (hA : Slots 21 A [(0, a), (1, b), (2, c0)]) {cs : List Frame} {main : Bool} {Stop : Goroutine → World → Prop}
    (h : ∀ A, Slots 21 A [(0, a), (2, c0)] → Own Try.prog main F Stop (G (Frame.enter Try.prog 28 #[b] .normal) (((Go.Conc.base 6).at ⟨A, []⟩ [.inRegion kqo3 [1, 2], .code kqs5]) :: cs)) w) :
    Own Try.prog main F Stop (G (((Go.Conc.base 6).at ⟨A, []⟩ [.inRegion kqo1 [0, 1], .code kqc9, .code kqs4]).finish (.bool true)) cs) w := by
  obtain ⟨hsz, h0, h1, h2, _⟩ := hA
  obtain ⟨s, rfl⟩ := kqT_of hsz
  change s 0 = _ at h0
  change s 1 = _ at h1
  change s 2 = _ at h2
  clear hsz
  simp only [kqT, h0, h1, h2]
  clear h0 h1 h2
  rw [Frame.finish_at]
  simp only [kqo1, Code.opsOf, kqr1, Code.piece, kqBody, Try.f6, Option.getD_some, List.size_toArray, List.length_cons, List.length_nil, Nat.reduceAdd, Nat.zero_add, List.range, List.range.loop]
  walk_nrm
  (refine oW fun dd K hK => ?_; go_simp; refine qT hK ?_; clear hK K)
  refine ogE ?_
  rw [kqc9_eq]
  refine ogF ?_
  simp only [Bool.false_eq_true, if_false]
  refine ogK ?_
  rw [kqs4_eq]
  refine ogS ?_
  rw [kqr3_eq]
  refine ogR ?_
  simp only [kqo3, Code.opsOf, kqr3, Code.piece, kqBody, Try.f6, Option.getD_some, List.size_toArray, List.length_cons, List.length_nil, Nat.reduceAdd, Nat.zero_add, List.range, List.range.loop]
  (refine oW fun dd K hK => ?_; go_simp; refine qT hK ?_; clear hK K)
  refine oc callable28 #[b] ?_
  refine h _ ?_
  exact ⟨rfl, rfl, rfl, trivial⟩
set_option maxRecDepth 100000 in
set_option maxHeartbeats 2000000 in
theorem kq_2 {a c0 x : Value} {A : Array Value} (hA : Slots 21 A [(0, a), (2, c0)]) {cs : List Frame} {main : Bool} {Stop : Goroutine → World → Prop}
    (h : ∀ A, Slots 21 A [(0, a), (2, c0), (7, x)] → Own Try.prog main F Stop (G (Frame.enter Try.prog 30 #[a] .normal) (((Go.Conc.base 6).at ⟨A, []⟩ [.inRegion kqo4 [1, 2, 3, 4, 5, 6, 7, 8, 9], .code .ret]) :: cs)) w) :
    Own Try.prog main F Stop (G (((Go.Conc.base 6).at ⟨A, []⟩ [.inRegion kqo3 [1, 2], .code kqs5]).finish x) cs) w := by
  obtain ⟨hsz, h0, h2, _⟩ := hA
  obtain ⟨s, rfl⟩ := kqT_of hsz
  change s 0 = _ at h0
  change s 2 = _ at h2
  clear hsz
  simp only [kqT, h0, h2]
  clear h0 h2
  rw [Frame.finish_at]
  simp only [kqo3, Code.opsOf, kqr3, Code.piece, kqBody, Try.f6, Option.getD_some, List.size_toArray, List.length_cons, List.length_nil, Nat.reduceAdd, Nat.zero_add, List.range, List.range.loop]
  walk_nrm
  (refine oW fun dd K hK => ?_; go_simp; refine qT hK ?_; clear hK K)
  refine ogE ?_
  rw [kqs5_eq]
  refine ogS ?_
  rw [kqr4_eq]
  refine ogR ?_
  simp only [kqo4, Code.opsOf, kqr4, Code.piece, kqBody, Try.f6, Option.getD_some, List.size_toArray, List.length_cons, List.length_nil, Nat.reduceAdd, Nat.zero_add, List.range, List.range.loop]
  (refine oW fun dd K hK => ?_; go_simp; refine qT hK ?_; clear hK K)
  refine oc callable30 #[a] ?_
  refine h _ ?_
  exact ⟨rfl, rfl, rfl, rfl, trivial⟩
set_option maxRecDepth 100000 in
set_option maxHeartbeats 2000000 in
theorem kq_3 {a c0 x y : Value} {A : Array Value} (hA : Slots 21 A [(0, a), (2, c0), (7, x)]) {cs : List Frame} {main : Bool} {Stop : Goroutine → World → Prop}
    (h : ∀ A, Slots 21 A [(2, c0), (7, x), (13, y), (14, x)] → Own Try.prog main F Stop (G (Frame.enter Try.prog 30 #[a] .normal) (((Go.Conc.base 6).at ⟨A, []⟩ [.inRegion kqo4 [4, 5, 6, 7, 8, 9], .code .ret]) :: cs)) w) :
    Own Try.prog main F Stop (G (((Go.Conc.base 6).at ⟨A, []⟩ [.inRegion kqo4 [1, 2, 3, 4, 5, 6, 7, 8, 9], .code .ret]).finish y) cs) w := by
  obtain ⟨hsz, h0, h2, h7, _⟩ := hA
  obtain ⟨s, rfl⟩ := kqT_of hsz
  change s 0 = _ at h0
  change s 2 = _ at h2
  change s 7 = _ at h7
  clear hsz
  simp only [kqT, h0, h2, h7]
  clear h0 h2 h7
  rw [Frame.finish_at]
  simp only [kqo4, Code.opsOf, kqr4, Code.piece, kqBody, Try.f6, Option.getD_some, List.size_toArray, List.length_cons, List.length_nil, Nat.reduceAdd, Nat.zero_add, List.range, List.range.loop]
  walk_nrm
  (refine oW fun dd K hK => ?_; go_simp; refine qT hK ?_; clear hK K)
  (refine oW fun dd K hK => ?_; go_simp; refine qT hK ?_; clear hK K)
  refine oc callable30 #[a] ?_
  refine h _ ?_
  exact ⟨rfl, rfl, rfl, rfl, rfl, trivial⟩
set_option maxRecDepth 100000 in
set_option maxHeartbeats 2000000 in
theorem kq_4 {c0 x y z : Value} {A : Array Value} (hA : Slots 21 A [(2, c0), (7, x), (13, y), (14, x)]) {cs : List Frame} {main : Bool} {Stop : Goroutine → World → Prop}
    (h : ∀ A, Slots 21 A [(13, y), (14, x)] → Own Try.prog main F Stop (G (Frame.enter Try.prog 14 #[z, x, c0, .int .i64 1048576] .normal) (((Go.Conc.base 6).at ⟨A, []⟩ [.inRegion kqo4 [7, 8, 9], .code .ret]) :: cs)) w) :
    Own Try.prog main F Stop (G (((Go.Conc.base 6).at ⟨A, []⟩ [.inRegion kqo4 [4, 5, 6, 7, 8, 9], .code .ret]).finish z) cs) w := by
  obtain ⟨hsz, h2, h7, h13, h14, _⟩ := hA
  obtain ⟨s, rfl⟩ := kqT_of hsz
  change s 2 = _ at h2
  change s 7 = _ at h7
  change s 13 = _ at h13
  change s 14 = _ at h14
  clear hsz
  simp only [kqT, h2, h7, h13, h14]
  clear h2 h7 h13 h14
  rw [Frame.finish_at]
  simp only [kqo4, Code.opsOf, kqr4, Code.piece, kqBody, Try.f6, Option.getD_some, List.size_toArray, List.length_cons, List.length_nil, Nat.reduceAdd, Nat.zero_add, List.range, List.range.loop]
  walk_nrm
  (refine oW fun dd K hK => ?_; go_simp; refine qT hK ?_; clear hK K)
  (refine oW fun dd K hK => ?_; go_simp; refine qT hK ?_; clear hK K)
  refine oc callable14 #[z, x, c0, .int .i64 1048576] ?_
  refine h _ ?_
  exact ⟨rfl, rfl, rfl, trivial⟩
set_option maxRecDepth 100000 in
set_option maxHeartbeats 2000000 in
theorem kq_5 {x y t : Value} {A : Array Value} (hA : Slots 21 A [(13, y), (14, x)]) {cs : List Frame} {main : Bool} {Stop : Goroutine → World → Prop}
    (h : ∀ A, Slots 21 A [(13, y)] → Own Try.prog main F Stop (G (Frame.enter Try.prog 29 #[y, x, t] .normal) (((Go.Conc.base 6).at ⟨A, []⟩ [.inRegion kqo4 [8, 9], .code .ret]) :: cs)) w) :
    Own Try.prog main F Stop (G (((Go.Conc.base 6).at ⟨A, []⟩ [.inRegion kqo4 [7, 8, 9], .code .ret]).finish t) cs) w := by
  obtain ⟨hsz, h13, h14, _⟩ := hA
  obtain ⟨s, rfl⟩ := kqT_of hsz
  change s 13 = _ at h13
  change s 14 = _ at h14
  clear hsz
  simp only [kqT, h13, h14]
  clear h13 h14
  rw [Frame.finish_at]
  simp only [kqo4, Code.opsOf, kqr4, Code.piece, kqBody, Try.f6, Option.getD_some, List.size_toArray, List.length_cons, List.length_nil, Nat.reduceAdd, Nat.zero_add, List.range, List.range.loop]
  walk_nrm
  refine oc callable29 #[y, x, t] ?_
  refine h _ ?_
  exact ⟨rfl, rfl, trivial⟩
set_option maxRecDepth 100000 in
set_option maxHeartbeats 2000000 in
theorem kq_6 {x y : Value} {A : Array Value} (hA : Slots 21 A [(13, y)]) {cs : List Frame} {main : Bool} {Stop : Goroutine → World → Prop}
    (h : ∀ A, Slots 21 A [(6, x)] → Own Try.prog main F Stop (G { (Go.Conc.base 6).at ⟨A, []⟩ [.code .ret] with mode := .returning } cs) w) :
    Own Try.prog main F Stop (G (((Go.Conc.base 6).at ⟨A, []⟩ [.inRegion kqo4 [8, 9], .code .ret]).finish x) cs) w := by
  obtain ⟨hsz, h13, _⟩ := hA
  obtain ⟨s, rfl⟩ := kqT_of hsz
  change s 13 = _ at h13
  clear hsz
  simp only [kqT, h13]
  clear h13
  rw [Frame.finish_at]
  simp only [kqo4, Code.opsOf, kqr4, Code.piece, kqBody, Try.f6, Option.getD_some, List.size_toArray, List.length_cons, List.length_nil, Nat.reduceAdd, Nat.zero_add, List.range, List.range.loop]
  walk_nrm
  (refine oW fun dd K hK => ?_; go_simp; refine qT hK ?_; clear hK K)
  refine ogE ?_
  refine ogX ?_
  refine h _ ?_
  exact ⟨rfl, rfl, trivial⟩
end Go.Proofs.Ytcejbandeikdjaa
namespace Go.Proofs.Ytcejbandeikdjaa
open Go Go.Conc Go.RowKit Go.Proofs
variable {P : Program}
theorem wf_E0 (w : World) : Wf F0 w := ⟨fun r z h => by cases h⟩
theorem res_any {fn : Func} {t : Array Value} {w : World} {τ : Tape} {e : Nat} {v : Value} (h : (results fn t).run P (retape w τ e) = .ok v (retape w τ e)) (d : Nat) :
    (results fn t).run P (w.at d) = .ok v (w.at d) ∧ ∀ x ∈ (results fn t).events P (w.at d) #[], EvT F0 x := by
  obtain ⟨w1, es, j, hu, r1, e1, t1, g1, hw1, l1⟩ := (results_sims (P := P) (F := F0) fn t (retape w τ e) (wf_E0 _)).ok (by rw [mask_none (fun _ => rfl)]; exact h)
  rw [mask_none (fun _ => rfl)] at hu
  subst hu
  have hj : j = 0 := by
    have := g1.drawn
    omega
  subst hj
  have h2 := l1 (w.at d).tape (w.at d).drawn (by intro i q hi; omega)
  rw [mask_none (fun _ => rfl)] at h2
  have h3 : (results fn t).run P (w.at d) = .ok v (w.at d) := h2
  refine ⟨h3, fun x hx => ?_⟩
  obtain ⟨w2, es2, j2, hu2, r2, e2, t2, g2, hw2, l2⟩ := (results_sims (P := P) (F := F0) fn t (w.at d) (wf_E0 _)).ok (by rw [mask_none (fun _ => rfl)]; exact h3)
  rw [e2] at hx
  exact t2 x (by simpa using hx)
theorem own_callB {S : FuncId → Bool} (hC : Closed P S true) (hE : NoEarly P) {f : Nat} {fn : Func} {c : Code} (hf : P.funcs[f]? = some fn) (hb : fn.body = some c) (hc : codeOk P S true c = true) {args : Array Value} {w : World} {R : Value → World → Prop}
    (H : ∀ τ e, CallsB P fn args (retape w τ e) R) {cl : Frame} {cs : List Frame} {main : Bool} {Stop : Goroutine → World → Prop}
    (K : ∀ v w' τ e, R v (retape w' τ e) → Gd F0 w w' → Own P main F0 Stop (G (cl.finish v) cs) w') : Own P main F0 Stop (G (Frame.enter P f args .normal) (cl :: cs)) w := by
  let b : Frame := { (default : Frame) with fn := f, kind := .normal }
  have henter : Frame.enter P f args .normal = b.at { tmps := args ++ Array.replicate (fn.ntmps - args.size) undef, defers := [] } [.code c] := by
    simp [Frame.enter, Frame.at, hf, hb, b]
  rw [henter]
  have back : ∀ (a' : Act) (w' : World) (t' : List Item) (τ : Tape) (e : Nat), a'.defers = [] → (∃ v, (results fn a'.tmps).run P (retape (mask F0 w') τ e) = .ok v (retape (mask F0 w') τ e) ∧ ∃ v', Ending.returned v = .returned v' ∧ R v' (retape (mask F0 w') τ e)) → Gd F0 w w' →
      Own P main F0 Stop (G { b.at a' t' with mode := .returning } (cl :: cs)) w' := fun a' w' t' τ e hd ⟨v, h1, v', h2, h3⟩ hg => by
    cases h2
    rw [mask_none (fun _ => rfl)] at h1 h3
    exact own_leave rfl hd hf (fun d => (res_any h1 d).1) (fun d x hx => (res_any h1 d).2 x hx) (K _ _ τ e h3 hg)
  refine lift (Q := bodyPost P fn fun x w' => ∃ v, x = .returned v ∧ R v w') hC (fun _ _ => rfl) hE hc (wf_E0 w) rfl (fun e a w hq => ?_) (fun τ e => ?_) (by simp [b]) (fun a' w' τ e hq _ hg => ?_) (fun a' w' τ e t' hq _ hg => ?_)
  · cases e with
    | normal => exact .inl rfl
    | ret => exact .inr ⟨rfl, hq.1⟩
    | panic ch => obtain ⟨_, v, h, _⟩ := hq; cases h
    | outgrown => obtain ⟨v, h, _⟩ := hq; cases h
    | exit _ => exact hq.elim
    | goto _ => exact hq.elim
  · rw [mask_none (fun _ => rfl)]
    exact H τ e c hb
  · obtain ⟨hd, h⟩ := hq
    have : b.at a' [] = b.at ⟨a'.tmps, []⟩ [] := by rw [← hd]
    rw [this]
    refine own_go rfl (fun d => stepG_end) ?_
    exact back ⟨a'.tmps, []⟩ w' [] τ e rfl h hg
  · obtain ⟨hd, h⟩ := hq
    exact back a' w' _ τ e hd h hg
def codeOkF (P : Program) (S : FuncId → Bool) (f : FuncId) : Bool := match P.funcs[f]? with
  | some fn => !(fn.name == "runtime.NumGoroutine") && match fn.body with
    | some c => codeOk P S true c
    | none => false
  | none => false
theorem codeOkF_of {P : Program} {S : FuncId → Bool} {f : FuncId} (h : codeOkF P S f = true) : ∃ fn, P.funcs[f]? = some fn ∧ (fn.name == "runtime.NumGoroutine") = false ∧ ∃ c, fn.body = some c ∧ codeOk P S true c = true := by
  unfold codeOkF at h
  split at h
  · rename_i fn hf
    rw [Bool.and_eq_true] at h
    obtain ⟨h1, h2⟩ := h
    split at h2
    · rename_i c hc
      exact ⟨fn, hf, by simpa using h1, c, hc, h2⟩
    · cases h2
  · cases h
theorem closed_of {l : List Nat} (h : l.all (codeOkF P fun f => l.contains f) = true) : Closed P (fun f => l.contains f) true := fun f hf => by
  obtain ⟨fn, h1, h2, c, h3, h4⟩ := codeOkF_of (List.all_eq_true.1 h f (List.contains_iff_mem.1 hf))
  exact ⟨fn, h1, h2, .inl ⟨c, h3, h4⟩⟩
theorem own_piece {S : FuncId → Bool} (hC : Closed P S true) (hE : NoEarly P) {c : Code} (hc : codeOk P S true c = true) {A : Array Value} {w : World} {R : Array Value → World → Prop} {b : Frame} {k : List Item} (hk : b.kind ≠ .early)
    (H : ∀ τ e, c.wp P (nrm fun a w => a.defers = [] ∧ R a.tmps w) ⟨A, []⟩ (retape w τ e)) {cs : List Frame} {main : Bool} {Stop : Goroutine → World → Prop}
    (K : ∀ A' w' τ e, R A' (retape w' τ e) → Gd F0 w w' → Own P main F0 Stop (G (b.at ⟨A', []⟩ k) cs) w') : Own P main F0 Stop (G (b.at ⟨A, []⟩ (.code c :: k)) cs) w := by
  refine lift (Q := nrm fun a w => a.defers = [] ∧ R a.tmps w) hC (fun _ _ => rfl) hE hc (wf_E0 w) rfl (fun e a w hq => ?_) (fun τ e => ?_) hk (fun a' w' τ e hq _ hg => ?_) (fun a' w' τ e t' hq _ hg => ?_)
  · cases e with
    | normal => exact .inl rfl
    | _ => exact hq.elim
  · rw [mask_none (fun _ => rfl)]
    exact H τ e
  · obtain ⟨hd, h⟩ := hq
    rw [mask_none (fun _ => rfl)] at h
    obtain ⟨tm, df⟩ := a'
    simp only at hd
    subst hd
    exact K tm w' τ e h hg
  · exact hq.elim
end Go.Proofs.Ytcejbandeikdjaa
namespace Go.Proofs.Ytcejbandeikdjaa
open Go Go.Conc Go.RowKit Go.Proofs
variable {An : Anchor} {W w w' : World}
def S2l : List Nat := [28, 29, 30, 55, 56, 57]
def S2 (f : FuncId) : Bool := S2l.contains f
theorem codeOkF_S2 : S2l.all (codeOkF Try.prog fun f => S2l.contains f) = true := by kernel_rfl
theorem closed2 : Closed Try.prog S2 true := closed_of codeOkF_S2
theorem own_callS2 {f : Nat} (hS : S2 f = true) {fn : Func} (hf : Try.prog.funcs[f]? = some fn) {args : Array Value} {R : Value → World → Prop}
    (H : ∀ τ e, CallsB Try.prog fn args (retape w τ e) R) {cl : Frame} {cs : List Frame} {main : Bool} {Stop : Goroutine → World → Prop}
    (K : ∀ v w' τ e, R v (retape w' τ e) → Gd F0 w w' → Own Try.prog main F0 Stop (G (cl.finish v) cs) w') : Own Try.prog main F0 Stop (G (Frame.enter Try.prog f args .normal) (cl :: cs)) w := by
  obtain ⟨fn', h1, h2, c, h3, h4⟩ := codeOkF_of (List.all_eq_true.1 codeOkF_S2 f (List.contains_iff_mem.1 hS))
  rw [hf] at h1
  cases h1
  exact own_callB closed2 prog_late hf h3 h4 H K
structure KQ (w1 u : World) (n m : Nat) (ops : Nat → List Op4) (oa : Option Addr) (oc : Nat) (xa : Nat → Option Addr) (xc : Nat → Nat) (va : Option Addr) (vc : Nat) (va2 : Option Addr) (vc2 : Nat) : Prop where
  old : Old w1 u
  row : u.ownsRow 0 32 1 (.slice oa n oc) n ((List.range n).map fun r => .slice (xa r) (ops r).length (xc r))
  inn : ∀ r, r < n → u.ownsRow 0 44 4 (.slice (xa r) (ops r).length (xc r)) (ops r).length (opC (ops r))
  v1 : u.ownsRow 0 2 1 (.slice va m vc) m ((rngV m).map fun v => .int .i64 v)
  v2 : u.ownsRow 0 2 1 (.slice va2 m vc2) m ((rngV m).map fun v => .int .i64 v)
theorem own_old {base n size : Nat} {e : TypeId} {v : Value} {xs : List Value} (h : w.ownsRow base e size v n xs) (k : Old w w') : w'.ownsRow base e size v n xs :=
  own_keep h fun b c _ hb => k.eq b (Array.getElem?_eq_some_iff.1 hb).1
theorem own_cells {base n size : Nat} {e : TypeId} {v : Value} {xs : List Value} (h : w.ownsRow base e size v n xs) (k : ∀ (r : Nat) (c : Array Value) (e : TypeId) (z : Nat × Nat), w.heap[r]? = some (.cells c e z) → w'.heap[r]? = some (.cells c e z)) : w'.ownsRow base e size v n xs :=
  own_keep h fun b c _ hb => (k _ _ _ _ hb).trans hb.symm
theorem KQ.thr {w1 : World} {n m : Nat} {ops : Nat → List Op4} {oa va va2 : Option Addr} {oc vc vc2 : Nat} {xa : Nat → Option Addr} {xc : Nat → Nat} (h : KQ w1 w n m ops oa oc xa xc va vc va2 vc2) : ThrAt w oa n xa xc ops :=
  ⟨rrow_of h.row, fun i hi k o ho => by
    obtain ⟨b, cap, e, h1⟩ := row_get (h.inn i hi) (opC_get _ _ _ ho).1
    simp only [Value.slice.injEq] at e
    exact ⟨b, 0, e.1, by rw [Nat.zero_add]; exact h1.c⟩⟩
theorem KQ.ops_in {w1 : World} {n m : Nat} {ops : Nat → List Op4} {oa va va2 : Option Addr} {oc vc vc2 : Nat} {xa : Nat → Option Addr} {xc : Nat → Nat} (h : KQ w1 w n m ops oa oc xa xc va vc va2 vc2) (hn : n ≤ 8) (hol : ∀ i, (ops i).length ≤ 40) {S : List Int} {sa : Option Addr} (hsl : S.length < 9223372036854775808)
    (hS : 0 < S.length → ∃ sb so c e z, sa = some ⟨sb, so, none⟩ ∧ w.heap[sb]? = some (.cells c e z) ∧ ∀ (k : Nat) (u : Value), (S.map fun i : Int => Value.int .i64 i)[k]? = some u → c[so + k]? = some u ∧ (decide (z.1 ≤ so + k) && decide (so + k < z.2)) = false) :
    ∃ tb, OpsIn w (fun _ => False) n tb 0 n oa xa (fun i => (ops i).length) xc ops S sa ∧ (0 < n → oa = some ⟨tb, 0, none⟩) := by
  have htop : ∃ tb, (0 < n → oa = some ⟨tb, 0, none⟩ ∧ tb < w.heap.size) ∧ ∀ j, j < n → At w ⟨tb, j, none⟩ (.slice (xa j) (ops j).length (xc j)) := by
    rcases h.row.2 with ⟨_, h0⟩ | ⟨g, cap, cur, e, h1, h2, _⟩
    · exact ⟨0, fun hp => by omega, fun j hj => by omega⟩
    · cases e
      refine ⟨g, fun _ => ⟨rfl, (Array.getElem?_eq_some_iff.1 h2).1⟩, fun j hj => ?_⟩
      obtain ⟨b, cap', e, h3⟩ := row_get h.row (k := j) (x := .slice (xa j) (ops j).length (xc j)) (by simp [hj])
      cases e
      exact h3
  obtain ⟨tb, ht1, ht2⟩ := htop
  refine ⟨tb, ⟨by omega, fun hp => (ht1 hp).1, fun hp => (ht1 hp).2, fun j hj => ?_, fun j hj => ?_, fun j hj k x hx => ?_, hsl, fun hp => ?_⟩, fun hp => (ht1 hp).1⟩
  · have := ht2 j hj
    refine ⟨by rw [Nat.zero_add]; exact this.c, by rw [Nat.zero_add]; exact this.z, ?_⟩
    rcases (h.inn j hj).2 with ⟨e, h0⟩ | ⟨g, cap, cur, e, _, _, h3, _⟩
    · omega
    · simp only [Value.slice.injEq] at e
      rw [e.2.2]
      exact h3
  · have := hol j
    omega
  · obtain ⟨f0, f1, f2, f3⟩ := opC_get _ _ _ hx
    obtain ⟨b, cap, e, g0⟩ := row_get (h.inn j hj) f0
    obtain ⟨_, _, e1, g1⟩ := row_get (h.inn j hj) f1
    obtain ⟨_, _, e2, g2⟩ := row_get (h.inn j hj) f2
    obtain ⟨_, _, e3, g3⟩ := row_get (h.inn j hj) f3
    rw [e] at e1 e2 e3
    cases e1
    cases e2
    cases e3
    simp only [Value.slice.injEq] at e
    refine ⟨b, 0, e.1, fun h => h, ?_, ?_, ?_, ?_, ?_, ?_, ?_, ?_⟩ <;> rw [Nat.zero_add]
    · exact g0.c
    · exact g1.c
    · exact g2.c
    · exact g3.c
    · exact g0.z
    · exact g1.z
    · exact g2.z
    · exact g3.z
  · obtain ⟨sb, so, c, e, z, h1, h2, h3⟩ := hS hp
    exact ⟨sb, so, c, e, z, h1, fun h => h, h2, h3⟩
theorem rngV_first (m : Nat) (h : m < 1000) : First (rngV m) m :=
  ⟨by simp [rngV], fun k v hk => by
    simp only [rngV, List.getElem?_map, Option.map_eq_some_iff] at hk
    obtain ⟨j, hj, rfl⟩ := hk
    have := (List.getElem?_eq_some_iff.1 hj).1
    rw [List.length_range] at this
    rw [List.getElem?_range this] at hj
    cases hj
    rfl, h⟩
theorem BGrid.cells {la : Option Addr} {n0 : Nat} {A : Nat → Option Addr} {L C : Nat → Nat} {B : Nat → Nat → Bool} (h : BGrid w la n0 A L C B) (k : ∀ (r : Nat) (c : Array Value) (e : TypeId) (z : Nat × Nat), w.heap[r]? = some (.cells c e z) → w'.heap[r]? = some (.cells c e z)) : BGrid w' la n0 A L C B := by
  have hc : ∀ {a : Addr} {v : Value}, w.cell? a = some v → w'.cell? a = some v := fun {a v} h => by
    obtain ⟨c, e, z, ho⟩ := cell_block h
    have e1 : w'.heap[a.block]? = w.heap[a.block]? := (k _ _ _ _ ho).trans ho.symm
    rw [← h]; unfold World.cell?; simp only [e1]
  exact ⟨fun r hr => by
    obtain ⟨b, o, h1, h2⟩ := h.top r hr
    exact ⟨b, o, h1, hc h2⟩, fun r hr j hj => by
    obtain ⟨b, o, h1, h2⟩ := h.inn r hr j hj
    exact ⟨b, o, h1, hc h2⟩⟩
set_option maxHeartbeats 1000000 in
theorem bes_keeps {nb n0 lc sc : Nat} {la sa : Option Addr} {A : Nat → Option Addr} {L C : Nat → Nat} {B : Nat → Nat → Bool} (hnb : nb < 256) (hG : BGrid W la n0 A L C B) {S : List Int} (hsl : S.length < 9223372036854775808)
    (hS : 0 < S.length → ∃ sb so c e z, sa = some ⟨sb, so, none⟩ ∧ W.heap[sb]? = some (.cells c e z) ∧ ∀ (k : Nat) (u : Value), (S.map fun i : Int => Value.int .i64 i)[k]? = some u → c[so + k]? = some u ∧ (decide (z.1 ≤ so + k) && decide (so + k < z.2)) = false) :
    Bes An Try.prog (LawStop An (LawPost W)) (G (Frame.enter Try.prog 6 #[.int .u8 nb, .slice la n0 lc, .slice sa S.length sc] .normal) []) W := by
  refine bes_own (F := F0) (Stop := fun a u => ∃ A d, Slots 21 A [(0, .int .u8 nb), (1, .slice la n0 lc), (2, .slice sa S.length sc)] ∧ u = W.at d ∧ a = G (Frame.enter Try.prog 12 #[] .normal) [(Go.Conc.base 6).at ⟨A, []⟩ [.inRegion kqo1 [0, 1], .code kqc9, .code kqs4]])
    (kq_0 fun A hA => .stop fun d => ⟨A, d, hA, rfl, rfl⟩) fun a u ⟨A1, d, hA1, hu, ha⟩ => ?_
  subst ha
  refine bes_awake fun w1 hs hold => ?_
  have hold1 : ∀ (r : Nat) (c : Array Value) (e : TypeId) (z : Nat × Nat), W.heap[r]? = some (.cells c e z) → w1.heap[r]? = some (.cells c e z) := fun r c e z h => hold r c e z (by rw [hu]; exact h)
  have hG1 := hG.cells hold1
  obtain ⟨ops, hopsE⟩ : ∃ ops : Nat → List Op4, ops = fun i => topsB i (B i) (min (L i) 40) := ⟨_, rfl⟩
  have hops : ∀ i, ops i = topsB i (B i) (min (L i) 40) := fun i => by rw [hopsE]
  have hO : OpsK ops (min n0 8) := by
    rw [hopsE]
    exact topsB_ok (min n0 8) B (fun i => min (L i) 40) fun i => Nat.min_le_right _ _
  have hn8 : min n0 8 ≤ 8 := Nat.min_le_right _ _
  generalize hnE : min n0 8 = n at hO hn8
  have hm20 : nb % 20 < 20 := Nat.mod_lt _ (by omega)
  refine bes_own (F := F0) (Stop := fun a u => ∃ A d w4 oa oc xa xc va vc va2 vc2, Slots 21 A [(13, .slice va (nb % 20) vc), (14, .slice oa n oc)] ∧ KQ w1 w4 n (nb % 20) ops oa oc xa xc va vc va2 vc2 ∧ u = w4.at d ∧ a = G (Frame.enter Try.prog 14 #[.slice va2 (nb % 20) vc2, .slice oa n oc, .slice sa S.length sc, .int .i64 1048576] .normal) [(Go.Conc.base 6).at ⟨A, []⟩ [.inRegion kqo4 [7, 8, 9], .code .ret]])
    (kq_1 hA1 fun A2 hA2 => own_callS2 (f := 28) rfl Try.func28 (R := fun x u => ∃ oa oc xa xc, x = .slice oa (min n0 8) oc ∧ ThrRows w1 u (.slice oa (min n0 8) oc) (min n0 8) xa xc ops) (fun τ e => threads_run (lc := lc) (w := retape w1 τ e) (w0 := w1) rfl (hG1.cells (w' := retape w1 τ e) fun _ _ _ _ h => h) hops) fun v w2 τ e hR hg => ?_) fun a u ⟨A5, d5, w4, oa, oc, xa, xc, va, vc, va2, vc2, hA5, hK, hu5, ha⟩ => ?_
  · obtain ⟨oa, oc, xa, xc, rfl, hT⟩ := hR
    rw [hnE] at hT ⊢
    have hT2 : ThrRows w1 w2 (.slice oa n oc) n xa xc ops := ⟨hT.row, hT.new, ⟨hT.old.sz, hT.old.eq⟩, hT.inn⟩
    refine kq_2 hA2 fun A3 hA3 => own_callS2 (f := 30) rfl Try.func30 (R := fun x u => ∃ oa oc, x = .slice oa (nb % 20) oc ∧ ValsAt w2 u (.slice oa (nb % 20) oc) (rngV (nb % 20))) (fun τ e => first_ref (w := retape w2 τ e) (w0 := w2) rfl hnb) fun v w3 τ e hR hg => ?_
    obtain ⟨va, vc, rfl, hV⟩ := hR
    have hV2 : ValsAt w2 w3 (.slice va (nb % 20) vc) (rngV (nb % 20)) := ⟨hV.row, hV.size, hV.old, hV.new⟩
    refine kq_3 hA3 fun A4 hA4 => own_callS2 (f := 30) rfl Try.func30 (R := fun x u => ∃ oa oc, x = .slice oa (nb % 20) oc ∧ ValsAt w3 u (.slice oa (nb % 20) oc) (rngV (nb % 20))) (fun τ e => first_ref (w := retape w3 τ e) (w0 := w3) rfl hnb) fun v w4 τ e hR hg => ?_
    obtain ⟨va2, vc2, rfl, hV'⟩ := hR
    have hV3 : ValsAt w3 w4 (.slice va2 (nb % 20) vc2) (rngV (nb % 20)) := ⟨hV'.row, hV'.size, hV'.old, hV'.new⟩
    have h23 : Old w2 w3 := ⟨hV2.size, hV2.old⟩
    have h34 : Old w3 w4 := ⟨hV3.size, hV3.old⟩
    have hl : (rngV (nb % 20)).length = nb % 20 := by simp [rngV]
    have hr2 := hV2.row
    have hr3 := hV3.row
    rw [hl] at hr2 hr3
    refine kq_4 hA4 fun A5 hA5 => .stop fun d => ⟨A5, d, w4, oa, oc, xa, xc, va, vc, va2, vc2, hA5, ⟨hT2.old.trans (h23.trans h34), own_old hT2.row (h23.trans h34), fun r hr => own_old (hT2.inn r hr).1 (h23.trans h34), own_old hr2 h34, hr3⟩, rfl, rfl⟩
  · subst ha
    subst hu5
    have hol : ∀ i, (ops i).length ≤ 40 := hO.ln
    have hold4 : ∀ (r : Nat) (c : Array Value) (e : TypeId) (z : Nat × Nat), W.heap[r]? = some (.cells c e z) → w4.heap[r]? = some (.cells c e z) := fun r c e z h => by
      have h1 := hold1 r c e z h
      exact (hK.old.eq r (Array.getElem?_eq_some_iff.1 h1).1).trans h1
    obtain ⟨tb, hI, hta⟩ := hK.ops_in hn8 hol hsl (S := S) (sa := sa) fun hp => by
      obtain ⟨sb, so, c, e, z, h1, h2, h3⟩ := hS hp
      exact ⟨sb, so, c, e, z, h1, hold4 _ _ _ _ h2, h3⟩
    have hI4 : OpsIn (w4.at d5) (fun _ => False) n tb 0 n oa xa (fun i => (ops i).length) xc ops S sa := ⟨hI.hn, hI.hta, hI.htb, hI.hth, hI.hlen, hI.hop, hI.hsl, hI.hS⟩
    have hK4 : KQ w1 (w4.at d5) n (nb % 20) ops oa oc xa xc va vc va2 vc2 := ⟨⟨hK.old.sz, hK.old.eq⟩, hK.row, hK.inn, hK.v1, hK.v2⟩
    obtain ⟨vs, hvs⟩ : ∃ vs, vs = rngV (nb % 20) := ⟨_, rfl⟩
    have hl : vs.length = nb % 20 := by rw [hvs]; simp [rngV]
    have hfirst : First vs (nb % 20) := by rw [hvs]; exact rngV_first _ (by omega)
    have hva : ∃ vb, (0 < vs.length → va2 = some ⟨vb, 0, none⟩ ∧ vb < (w4.at d5).heap.size) ∧ ∀ k v, vs[k]? = some v → At (w4.at d5) ⟨vb, 0 + k, none⟩ (.int .i64 v) := by
      have h := hK4.v2
      rw [← hvs] at h
      rcases h.2 with ⟨_, h0⟩ | ⟨g, cap, cur, e, h1, h2, _⟩
      · exact ⟨0, fun hp => by omega, fun k v hk => by have := (List.getElem?_eq_some_iff.1 hk).1; omega⟩
      · cases e
        refine ⟨g, fun _ => ⟨rfl, (Array.getElem?_eq_some_iff.1 h2).1⟩, fun j v hj => ?_⟩
        obtain ⟨b, cap', e, h3⟩ := row_get h (k := j) (x := .int .i64 v) (by rw [List.getElem?_map, hj]; rfl)
        cases e
        rw [Nat.zero_add]
        exact h3
    obtain ⟨vb, hv1, hv2⟩ := hva
    rw [← hl]
    rw [← hl] at hfirst
    refine bes_play (w := w4.at d5) (M := 1048576) (by omega) (fun h => (hv1 h).1) (fun h => (hv1 h).2) (fun k v hk => ⟨(hv2 k v hk).c, (hv2 k v hk).z⟩) hI4 (by rfl) fun s order hd hover => ?_
    obtain ⟨lb, lv, V, h, Tk, hKp⟩ := run_kept hfirst (by omega) hn8 hO hd hover
    have hlvl : lv.length ≤ 400 := by
      have := congrArg List.length hKp.lv
      rw [List.length_map, List.length_drop] at this
      have := hKp.vl
      omega
    refine ⟨lb, lv, hKp.pb, hKp.pv, by have := hKp.lb; omega, by omega, fun aa oa' oc' xa' xc' w5 hU => ?_⟩
    rw [hKp.dn]
    refine bes_own (F := F0) (Stop := LawStop An (LawPost W)) ?_ fun a u h => Bes.stop h
    have hold5 : ∀ (r : Nat) (c : Array Value) (e : TypeId) (z : Nat × Nat), (w4.at d5).heap[r]? = some (.cells c e z) → w5.heap[r]? = some (.cells c e z) := hU.old
    have hT5 : ThrAt w5 oa n xa xc ops := KQ.thr (w1 := w5) (m := nb % 20) ⟨Old.refl _, own_cells hK4.row hold5, fun r hr => own_cells (hK4.inn r hr) hold5, own_cells hK4.v1 hold5, own_cells hK4.v2 hold5⟩
    have hst := hU.st
    rw [List.length_map] at hst
    obtain ⟨xb, rfl, hxc⟩ : ∃ xb, xa' = some ⟨xb, 0, none⟩ ∧ 1 + lv.length ≤ xc' := by
      rcases hst.2 with ⟨_, h0⟩ | ⟨g, cap, cur, e, _, _, h3, _⟩
      · omega
      · simp only [Value.slice.injEq] at e
        exact ⟨g, e.1, by rw [e.2.2]; exact h3⟩
    obtain ⟨ca, hca, hcs, hci⟩ := hU.arr
    have hci2 : ∀ i, i < n → ca[i]? = some (.slice (vaOf (ca.getD i undef)) (s.th i).ans.length (vcOf (ca.getD i undef))) ∧ RRow w5 (vaOf (ca.getD i undef)) (ansC (s.th i).ans) := fun i hi => by
      obtain ⟨v, h1, h2, h3⟩ := hci i hi
      have hv : ca.getD i undef = v := by simp [Array.getD_eq_getD_getElem?, h1]
      have h4 := slice_of h3
      rw [hv]
      exact ⟨by rw [h1, ← h4], rrow_of (h4 ▸ h3)⟩
    have hA5' : RRow w5 (some ⟨aa, 0, none⟩) ((List.range n).map fun i => .slice (vaOf (ca.getD i undef)) (s.th i).ans.length (vcOf (ca.getD i undef))) := by
      refine ⟨fun k x hx => ?_⟩
      obtain ⟨hkn, rfl⟩ : k < n ∧ Value.slice (vaOf (ca.getD k undef)) (s.th k).ans.length (vcOf (ca.getD k undef)) = x := by
        rw [List.getElem?_map, Option.map_eq_some_iff] at hx
        obtain ⟨j, hj, rfl⟩ := hx
        have hjn := (List.getElem?_eq_some_iff.1 hj).1
        rw [List.length_range] at hjn
        rw [List.getElem?_range hjn] at hj
        cases hj
        exact ⟨hjn, rfl⟩
      exact ⟨aa, 0, rfl, by rw [Nat.zero_add]; simpa [World.cell?, hca] using (hci2 k hkn).1⟩
    have hin := kept4_in hKp hO hn8 (by omega) (aa := aa) (ya := fun i => vaOf (ca.getD i undef)) (yc := fun i => vcOf (ca.getD i undef)) (xb := xb) (xc := xc') hT5 (rrow_of hst) hxc hA5' fun i hi => (hci2 i hi).2
    have hvl : (lv.map s.q.vl).length = lv.length := List.length_map _
    refine kq_5 hA5 fun A6 hA6 => own_callS2 (f := 29) rfl Try.func29 (R := fun x u => x = .bool true ∧ Old w5 u) (fun τ e => ?_) fun v w6 τ e hR hg => ?_
    · have hk := kept_ref (w := retape w5 τ e) (w00 := w5) (Old.of rfl) (va := va) (vc := vc) (tc := oc) (ov := .slice oa' order.length oc') (hin.grow (w' := retape w5 τ e) (Old.of rfl))
      rw [hvl, hl] at hk
      exact hk
    · obtain ⟨rfl, hO6⟩ := hR
      refine kq_6 hA6 fun A7 hA7 => .stop fun d => law_stop Try.func6 rfl (by decide) hA7.2.1 fun r c e z h => ?_
      have h5 := hold5 _ _ _ _ (hold4 _ _ _ _ h)
      exact (hO6.eq r (Array.getElem?_eq_some_iff.1 h5).1).trans h5
end Go.Proofs.Ytcejbandeikdjaa
namespace Go.Proofs.Ytcejbandeikdjaa
open Go Go.Conc Go.RowKit Go.Proofs
open Go.ChangeShapes Go.WideShapes Go.ChangeAt
theorem bulk_one {H : Type} (d : DataW H) : 1 ≤ Rows.uptoBulk d := by
  cases d with
  | lit l => cases l <;> simp [Rows.uptoBulk]
  | nil => simp [Rows.uptoBulk]
  | ptr d => simp [Rows.uptoBulk]
  | slice elems spare => simp [Rows.uptoBulk]
  | agg parts => simp [Rows.uptoBulk]
  | iface t d => simp [Rows.uptoBulk]
  | map entries => simp [Rows.uptoBulk]
  | held h => simp [Rows.uptoBulk]
theorem bulk_part {H : Type} {d : DataW H} {l : List (DataW H)} (h : d ∈ l) : Rows.uptoBulk d ≤ Rows.uptoBulkAll l := by
  induction l with
  | nil => cases h
  | cons x r ih =>
    simp only [Rows.uptoBulkAll]
    cases List.mem_cons.1 h with
    | inl e => subst e; omega
    | inr e => have := ih e; omega
theorem bulk_length {H : Type} (l : List (DataW H)) : l.length ≤ Rows.uptoBulkAll l := by
  induction l with
  | nil => simp [Rows.uptoBulkAll]
  | cons x r ih => have := bulk_one x; simp only [Rows.uptoBulkAll, List.length_cons]; omega
theorem bulk_slice {H : Type} (elems spare : List (DataW H)) : elems.length ≤ Rows.uptoBulk (.slice elems spare) ∧ ∀ d ∈ elems, Rows.uptoBulk d ≤ Rows.uptoBulk (.slice elems spare) := by
  have h1 := bulk_length elems
  simp only [Rows.uptoBulk]
  exact ⟨by omega, fun d hd => by have := bulk_part hd; omega⟩
section
variable {H : Type} {enc : TypeId × Value → H} {W : World}
theorem cell_in {a : Addr} {v : Value} (h : W.cell? a = some v) : ∃ c e z, W.heap[a.block]? = some (.cells c e z) ∧ c[a.off]? = some v := by
  unfold World.cell? at h
  split at h
  · rename_i c e z ho
    split at h
    · cases h
    · exact ⟨c, e, z, ho, h⟩
  · cases h
theorem frozen_in {b o : Nat} {c : Array Value} {e : TypeId} {z : Nat × Nat} (h : W.heap[b]? = some (.cells c e z)) (hf : W.frozen? ⟨b, o, none⟩ = false) : (decide (z.1 ≤ o) && decide (o < z.2)) = false := by
  simpa [World.frozen?, h] using hf
set_option maxRecDepth 100000 in
theorem ints_in {t e : TypeId} (ht : Try.prog.underlying t = some (.slice e)) (he : Try.prog.underlying e = some (.int .i64)) (hc : Try.prog.cellsOf e = 1) {v : Value} {d : DataW H} {p : List MemPlace} (hv : Value.okWide Try.prog W .any W.heap.size t v)
    (h : DataW.Trod enc Try.prog W 0 (fun _ => true) true t v d p) (hz : W.noneFrozen p) (hl : ∀ x ∈ p, x.block < W.heap.size) :
    ∃ (a : Option Addr) (vs : List Int) (c b o : Nat), v = .slice a vs.length c ∧ vs.length ≤ Rows.uptoBulk d ∧ (0 < vs.length → a = some ⟨b, o, none⟩ ∧ b < W.heap.size ∧ ∃ c e z, W.heap[b]? = some (.cells c e z) ∧ ∀ (k : Nat) (u : Int), vs[k]? = some u →
      c[o + k]? = some (.int .i64 u) ∧ (decide (z.1 ≤ o + k) && decide (o + k < z.2)) = false ∧ W.cell? ⟨b, o + k, none⟩ = some (.int .i64 u) ∧ W.frozen? ⟨b, o + k, none⟩ = false) := by
  obtain ⟨fuel, hf⟩ := h
  obtain ⟨a0, l0, c0, rfl⟩ := okWide_slice ht hv
  rcases open_ints ht he hc hf with ⟨h1, h2⟩ | ⟨a, len, cap, zs, h1, hb, hlc, _, hzl, h2, h3, _⟩
  · simp [Value.cells] at h1
    obtain ⟨rfl, rfl, rfl⟩ := h1
    exact ⟨none, [], 0, 0, 0, rfl, Nat.zero_le _, fun h => by simp at h⟩
  · simp only [if_true] at hzl
    simp [Value.cells] at h1
    obtain ⟨rfl, rfl, rfl⟩ := h1
    simp only [Prod.mk.injEq] at h2
    obtain ⟨rfl, rfl⟩ := h2
    have el : (zs.take l0).length = l0 := by simp; omega
    refine ⟨some a, zs.take l0, c0, a.block, a.off, by rw [el], ?_, fun hp => ?_⟩
    · have := (bulk_slice (H := H) (lits .i64 (zs.take l0)) (lits .i64 (zs.drop l0))).1
      simpa [lits] using this
    · rw [el] at hp
      obtain ⟨b, o, spot⟩ := a
      have hs : spot = none := by
        have := World.cell?_spot (h3 0 (by omega))
        simpa [Addr.add] using this
      subst hs
      have hc0 := h3 0 (by omega)
      rw [add_plain] at hc0
      obtain ⟨c, e', z, ho, _⟩ := cell_in hc0
      have hfr : ∀ k, k < zs.length → W.frozen? ⟨b, o + k, none⟩ = false := fun k hk => hz b (o + k) (by simp only [MemPlace.row, List.mem_map, List.mem_range]; exact ⟨k, hk, rfl⟩)
      refine ⟨rfl, (Array.getElem?_eq_some_iff.1 ho).1, c, e', z, ho, fun k u hk => ?_⟩
      have hkl := (List.getElem?_eq_some_iff.1 hk).1
      rw [el] at hkl
      have hu : zs.getD k 0 = u := by
        rw [List.getElem?_take_of_lt hkl] at hk
        simp [List.getD, hk]
      have hck := h3 k (by omega)
      rw [add_plain, hu] at hck
      obtain ⟨c', e2, z', ho', hcc⟩ := cell_in hck
      rw [ho] at ho'
      cases ho'
      exact ⟨hcc, frozen_in ho (hfr k (by omega)), hck, hfr k (by omega)⟩
theorem cells44 : Try.prog.cellsOf 44 = 4 := by kernel_rfl
theorem cells32 : Try.prog.cellsOf 32 = 1 := by kernel_rfl
theorem cells2 : Try.prog.cellsOf 2 = 1 := by kernel_rfl
theorem cells3 : Try.prog.cellsOf 3 = 1 := by kernel_rfl
structure OpLies (W : World) (b o : Nat) (x : Op4) : Prop where
  f0 : W.cell? ⟨b, o, none⟩ = some (.int .i64 x.kd)
  f1 : W.cell? ⟨b, o + 1, none⟩ = some (.int .i64 x.a)
  f2 : W.cell? ⟨b, o + 2, none⟩ = some (.int .i64 x.b)
  f3 : W.cell? ⟨b, o + 3, none⟩ = some (.int .i64 x.c)
  g0 : W.frozen? ⟨b, o, none⟩ = false
  g1 : W.frozen? ⟨b, o + 1, none⟩ = false
  g2 : W.frozen? ⟨b, o + 2, none⟩ = false
  g3 : W.frozen? ⟨b, o + 3, none⟩ = false
instance : Inhabited Op4 := ⟨⟨0, 0, 0, 0⟩⟩
set_option maxRecDepth 100000 in
theorem ops_in {v : Value} {fuel : Nat} {d : DataW H} {p : List MemPlace} (h : DataW.trod enc Try.prog W 0 (fun _ => true) true fuel 32 [v] = some (d, p)) (hz : W.noneFrozen p) :
    ∃ (a : Option Addr) (l c b o : Nat) (X : Nat → Op4), v = .slice a l c ∧ l ≤ c ∧ l ≤ Rows.uptoBulk d ∧ ∀ k, k < l → a = some ⟨b, o, none⟩ ∧ OpLies W b (o + k * 4) (X k) := by
  rcases Deep.open_slice Try.underlying32 h with ⟨h1, h2⟩ | ⟨a, len, cap, m, n, D, Pl, h1, hb, hlc, _, hm, h2, hx⟩
  · cases h1
    exact ⟨none, 0, 0, 0, 0, fun _ => default, rfl, Nat.le_refl _, Nat.zero_le _, fun k hk => by omega⟩
  · simp only [if_true] at hm
    subst hm
    cases h1
    simp only [Prod.mk.injEq] at h2
    obtain ⟨rfl, rfl⟩ := h2
    rw [cells44] at hx hz
    have hsp : 0 < len → a.spot = none := fun hp => by
      obtain ⟨cs', e1, _⟩ := hx 0 (by omega)
      obtain ⟨_, _, hcell⟩ := World.cells?_some e1
      have h0 := hcell 0 (by omega)
      rw [List.getElem?_eq_getElem (by omega)] at h0
      have := World.cell?_spot h0
      simpa [Addr.add] using this
    have each : ∀ k, k < len → ∃ x : Op4, ∃ b o, a = ⟨b, o, none⟩ ∧ OpLies W b (o + k * 4) x := fun k hk => by
      obtain ⟨cs', e1, e2⟩ := hx k (by omega)
      obtain ⟨_, hlen, hcell⟩ := World.cells?_some e1
      obtain ⟨xs, n', hk', hxy, _, hxl, hf⟩ := DataW.trod_struct Try.underlying44 e2
      match xs, hxl, cs', hlen with
      | [y0, y1, y2, y3], _, [v0, v1, v2, v3], _ =>
        have q0 := hf 0 _ rfl
        have q1 := hf 1 _ rfl
        have q2 := hf 2 _ rfl
        have q3 := hf 3 _ rfl
        simp [cells2, cells3] at q0 q1 q2 q3
        obtain ⟨n0, r0, _, _⟩ := DataW.trod_int Try.underlying3 q0
        obtain ⟨n1, r1, _, _⟩ := DataW.trod_int Try.underlying2 q1
        obtain ⟨n2, r2, _, _⟩ := DataW.trod_int Try.underlying2 q2
        obtain ⟨n3, r3, _, _⟩ := DataW.trod_int Try.underlying2 q3
        cases r0
        cases r1
        cases r2
        cases r3
        obtain ⟨b, o, spot⟩ := a
        have c0 := hcell 0 (by omega)
        have c1 := hcell 1 (by omega)
        have c2 := hcell 2 (by omega)
        have c3 := hcell 3 (by omega)
        have hs : spot = none := hsp (by omega)
        subst hs
        rw [add_plain, add_plain] at c0 c1 c2 c3
        have hfr : ∀ j, j < m * 4 → W.frozen? ⟨b, o + j, none⟩ = false := fun j hj => hz b (o + j) (List.mem_append_left _ (by simp only [MemPlace.row, List.mem_map, List.mem_range]; exact ⟨j, hj, rfl⟩))
        exact ⟨⟨n0, n1, n2, n3⟩, b, o, rfl, c0, c1, c2, c3, hfr _ (by omega), by rw [Nat.add_assoc]; exact hfr _ (by omega), by rw [Nat.add_assoc]; exact hfr _ (by omega), by rw [Nat.add_assoc]; exact hfr _ (by omega)⟩
    obtain ⟨X, hX⟩ := Deep.choose_lt each
    refine ⟨some a, len, m, a.block, a.off, X, rfl, hlc, ?_, fun k hk => ?_⟩
    · have := (bulk_slice (H := H) ((List.range len).map D) ((List.range (m - len)).map fun j => D (len + j))).1
      simpa using this
    · obtain ⟨b, o, rfl, hh⟩ := hX k hk
      exact ⟨rfl, hh⟩
set_option maxRecDepth 100000 in
theorem threads_in {v : Value} {d : DataW H} {p : List MemPlace} (hv : Value.okWide Try.prog W .any W.heap.size 23 v) (h : DataW.Trod enc Try.prog W 0 (fun _ => true) true 23 v d p) (hz : W.noneFrozen p) :
    ∃ (a : Option Addr) (tl tc b o : Nat) (oa : Nat → Option Addr) (ol oc : Nat → Nat) (ops : Nat → List Op4), v = .slice a tl tc ∧ tl ≤ Rows.uptoBulk d ∧ (∀ j, j < tl → ol j ≤ Rows.uptoBulk d) ∧
      ∀ (S : List Int) (sa : Option Addr), S.length < 9223372036854775808 → (0 < S.length → ∃ sb so c e z, sa = some ⟨sb, so, none⟩ ∧ W.heap[sb]? = some (.cells c e z) ∧ ∀ (k : Nat) (u : Value), (S.map fun i : Int => Value.int .i64 i)[k]? = some u → c[so + k]? = some u ∧ (decide (z.1 ≤ so + k) && decide (so + k < z.2)) = false) →
        OpsIn W (fun _ => False) (min tl 64) b o tl a oa ol oc ops S sa := by
  obtain ⟨fuel, hf⟩ := h
  obtain ⟨a0, l0, c0, rfl⟩ := okWide_slice Try.underlying23 hv
  rcases Deep.open_slice1 Try.underlying23 cells32 hf with ⟨h1, h2⟩ | ⟨a, len, cap, m, n, V, D, Pl, h1, hb, hlc, _, hm, h2, hx⟩
  · simp [Value.cells] at h1
    obtain ⟨rfl, rfl, rfl⟩ := h1
    refine ⟨none, 0, 0, 0, 0, fun _ => none, fun _ => 0, fun _ => 0, fun _ => [], rfl, Nat.zero_le _, fun j hj => by omega, fun S sa hl hS => ⟨rfl, fun h => by simp at h, fun h => by simp at h, fun j hj => by simp at hj, fun j hj => by simp at hj, fun j hj => by simp at hj, hl, fun hp => ?_⟩⟩
    obtain ⟨sb, so, c, e, z, e1, e2, e3⟩ := hS hp
    exact ⟨sb, so, c, e, z, e1, fun h => h, e2, e3⟩
  · simp only [if_true] at hm
    subst hm
    simp [Value.cells] at h1
    obtain ⟨rfl, rfl, rfl⟩ := h1
    simp only [Prod.mk.injEq] at h2
    obtain ⟨rfl, rfl⟩ := h2
    have each : ∀ j, j < l0 → ∃ q : Option Addr × Nat × Nat × Nat × Nat × (Nat → Op4), V j = .slice q.1 q.2.1 q.2.2.1 ∧ q.2.1 ≤ q.2.2.1 ∧ q.2.1 ≤ Rows.uptoBulk (D j) ∧ ∀ k, k < q.2.1 → q.1 = some ⟨q.2.2.2.1, q.2.2.2.2.1, none⟩ ∧ OpLies W q.2.2.2.1 (q.2.2.2.2.1 + k * 4) (q.2.2.2.2.2 k) := fun j hj => by
      obtain ⟨x1, x2, x3, x4, x5, x6, e1, e2, e3, e4⟩ := ops_in (hx j (by omega)).2 (fun b o hm => hz b o (List.mem_append_right _ (List.mem_flatMap.2 ⟨j, List.mem_range.2 (by omega), hm⟩)))
      exact ⟨⟨x1, x2, x3, x4, x5, x6⟩, e1, e2, e3, e4⟩
    obtain ⟨q, hq⟩ := Deep.choose_lt each
    have hbs := bulk_slice (H := H) ((List.range l0).map D) ((List.range (c0 - l0)).map fun j => D (l0 + j))
    refine ⟨some a, l0, c0, a.block, a.off, fun j => (q j).1, fun j => (q j).2.1, fun j => (q j).2.2.1, fun j => (List.range (min (q j).2.1 65536)).map (q j).2.2.2.2.2, rfl, by simpa using hbs.1, fun j hj => Nat.le_trans (hq j hj).2.2.1 (hbs.2 _ (List.mem_map.2 ⟨j, List.mem_range.2 hj, rfl⟩)), fun S sa hl hS => ?_⟩
    have hsp : 0 < l0 → a = ⟨a.block, a.off, none⟩ := fun hp => by
      obtain ⟨b, o, spot⟩ := a
      have hs : spot = none := by
        have := World.cell?_spot (hx 0 (by omega)).1
        simpa [Addr.add] using this
      subst hs
      rfl
    have hcell : ∀ j, j < l0 → W.cell? ⟨a.block, a.off + j, none⟩ = some (.slice (q j).1 (q j).2.1 (q j).2.2.1) := fun j hj => by
      have := (hx j (by omega)).1
      rw [hsp (by omega), add_plain, (hq j hj).1] at this
      exact this
    refine ⟨rfl, fun hp => by rw [← hsp (by omega)], fun hp => ?_, fun j hj => ⟨hcell j (by omega), ?_, (hq j (by omega)).2.1⟩, fun j hj => by simp, fun j hj k x hk => ?_, hl, fun hp => ?_⟩
    · obtain ⟨c, e, z, ho, _⟩ := cell_in (hcell 0 (by omega))
      exact (Array.getElem?_eq_some_iff.1 ho).1
    · exact hz a.block (a.off + j) (List.mem_append_left _ (by simp only [MemPlace.row, List.mem_map, List.mem_range]; exact ⟨j, by omega, rfl⟩))
    · have hkl := (List.getElem?_eq_some_iff.1 hk).1
      simp only [List.length_map, List.length_range] at hkl
      have hx' : (q j).2.2.2.2.2 k = x := by
        rw [List.getElem?_map, List.getElem?_range hkl] at hk
        simpa using hk
      obtain ⟨e1, e2⟩ := (hq j (by omega)).2.2.2 k (by omega)
      rw [hx'] at e2
      exact ⟨_, _, e1, fun h => h, e2.f0, e2.f1, e2.f2, e2.f3, e2.g0, e2.g1, e2.g2, e2.g3⟩
    · obtain ⟨sb, so, c, e, z, e1, e2, e3⟩ := hS hp
      exact ⟨sb, so, c, e, z, e1, fun h => h, e2, e3⟩
end
end Go.Proofs.Ytcejbandeikdjaa
