/-
  The law QueueKeeps holds of the given program: whatever the schedule, what was put into a queue is taken once or is there still, and each maker's numbers are taken in order (QueueKeepsSaid; no condition).
  Part 3 of 6.
-/
import Derived.Test.YtcejbandeikdjaaZB
import Derived.WalkKit
import Derived.OwnWalk
import Derived.Maps.AppendAt
import Derived.IntWalk
import Derived.Conc.AppendWalk
import Derived.Conc.AppendEvents3
set_option linter.unusedSimpArgs false
set_option linter.unusedVariables false
namespace Go.Proofs.Ytcejbandeikdjaa
open Go Go.Conc Go.RowKit Go.Proofs
open Go.ConcN (sumTo upd sumTo_upd upd_ne upd_same)
variable {g : Gate} {F : Fz} {w : World}
structure Mine where
  mo : Nat
  od : Nat
  n : Nat
  lf : Nat
noncomputable def step1Body : Code := Try.f71.body.getD .skip
theorem enter_step1 (args : Array Value) : Frame.enter Try.prog 71 args .normal = (base 71).at { tmps := args ++ Array.replicate (51 - args.size) undef, defers := [] } [.code step1Body] :=
  enter_at args Try.func71 rfl
def step1Args (g : Gate) (v : Mine) (i : Int) : Array Value := #[.int .i64 i, .pointer (some ⟨v.n, 0, none⟩), .pointer (some ⟨g.tv, 0, none⟩), .pointer (some ⟨v.od, 0, none⟩), .pointer (some ⟨v.mo, 0, none⟩), .pointer (some ⟨v.lf, 0, none⟩)]
set_option maxRecDepth 100000 in
theorem step1_neg {v : Mine} {i : Int} (hi : i < 0) {c : Frame} {cs : List Frame} {main : Bool} {Stop : Goroutine → World → Prop} (h : Own Try.prog main F Stop (G (c.finish (.tuple #[])) cs) w) :
    Own Try.prog main F Stop (G (Frame.enter Try.prog 71 (step1Args g v i) .normal) (c :: cs)) w := by
  have hd : decide (i < 0) = true := by simpa using hi
  unfold step1Args
  rw [enter_step1]
  simp only [step1Body, Try.f71, Option.getD_some]
  walk_nrm
  refine ogS ?_
  refine ogS ?_
  (refine ogR ?_; simp only [List.size_toArray, List.length_cons, List.length_nil, Nat.reduceAdd, Nat.zero_add, List.range, List.range.loop])
  (refine oW fun dd K hK => ?_; go_simp; refine qT hK ?_; clear hK K)
  (refine oW fun dd K hK => ?_; go_simp; refine qT hK ?_; clear hK K)
  (refine oW fun dd K hK => ?_; go_simp; refine qT hK ?_; clear hK K)
  refine ogU rfl rfl ?_
  refine ogU rfl rfl ?_
  walk_nrm
  refine ogU rfl rfl ?_
  walk_nrm
  (refine oW fun dd K hK => ?_; go_simp; refine qT hK ?_; clear hK K)
  (refine oW fun dd K hK => ?_; go_simp; refine qT hK ?_; clear hK K)
  refine ogU rfl rfl ?_
  refine ogU rfl rfl ?_
  walk_nrm
  refine ogU rfl rfl ?_
  refine ogU rfl rfl ?_
  walk_nrm
  refine ogU rfl rfl ?_
  refine ogU rfl rfl ?_
  walk_nrm
  refine ogU rfl rfl ?_
  refine ogU rfl rfl ?_
  walk_nrm
  refine ogU rfl rfl ?_
  refine ogU rfl rfl ?_
  walk_nrm
  (refine oW fun dd K hK => ?_; go_simp; refine qT hK ?_; clear hK K)
  (refine oW fun dd K hK => ?_; go_simp; refine qT hK ?_; clear hK K)
  refine ogU rfl rfl ?_
  refine ogU rfl rfl ?_
  walk_nrm
  refine ogU rfl rfl ?_
  refine ogU rfl rfl ?_
  walk_nrm
  (refine oW fun dd K hK => ?_; go_simp; refine qT hK ?_; clear hK K)
  refine ogE ?_
  refine ogT ?_
  simp only [if_true]
  refine ogX ?_
  refine own_go rfl (fun d => stepG_leave (fn := Try.f71) (v := .tuple #[]) rfl rfl Try.func71 (by simp [results, Try.f71]) (by simp [results, Try.f71, go_sem])) ?_
  exact h
set_option maxRecDepth 100000 in
theorem step1_high {v : Mine} {i : Int} (hi : 0 ≤ i) (hn : (g.n : Int) ≤ i) (hl : Lies w ⟨v.n, 0, none⟩ (.int .i64 g.n)) {c : Frame} {cs : List Frame} {main : Bool} {Stop : Goroutine → World → Prop} (h : Own Try.prog main F Stop (G (c.finish (.tuple #[])) cs) w) :
    Own Try.prog main F Stop (G (Frame.enter Try.prog 71 (step1Args g v i) .normal) (c :: cs)) w := by
  have hd : decide (i < 0) = false := by simpa using hi
  have hd2 : decide ((g.n : Int) ≤ i) = true := by simpa using hn
  have c1 := hl.c
  have z1 := hl.z
  unfold step1Args
  rw [enter_step1]
  simp only [step1Body, Try.f71, Option.getD_some]
  walk_nrm
  refine ogS ?_
  refine ogS ?_
  (refine ogR ?_; simp only [List.size_toArray, List.length_cons, List.length_nil, Nat.reduceAdd, Nat.zero_add, List.range, List.range.loop])
  (refine oW fun dd K hK => ?_; go_simp; refine qT hK ?_; clear hK K)
  (refine oW fun dd K hK => ?_; go_simp; refine qT hK ?_; clear hK K)
  (refine oW fun dd K hK => ?_; go_simp; refine qT hK ?_; clear hK K)
  (refine oW fun dd K hK => ?_; go_simp; refine qT hK ?_; clear hK K)
  (refine oW fun dd K hK => ?_; go_simp; refine qL hK ?_; clear hK K)
  (refine oW fun dd K hK => ?_; go_simp; refine qT hK ?_; clear hK K)
  (refine oW fun dd K hK => ?_; go_simp; refine qT hK ?_; clear hK K)
  (refine oW fun dd K hK => ?_; go_simp; refine qT hK ?_; clear hK K)
  refine ogU rfl rfl ?_
  refine ogU rfl rfl ?_
  walk_nrm
  refine ogU rfl rfl ?_
  refine ogU rfl rfl ?_
  walk_nrm
  refine ogU rfl rfl ?_
  refine ogU rfl rfl ?_
  walk_nrm
  refine ogU rfl rfl ?_
  refine ogU rfl rfl ?_
  walk_nrm
  refine ogU rfl rfl ?_
  refine ogU rfl rfl ?_
  walk_nrm
  (refine oW fun dd K hK => ?_; go_simp; refine qT hK ?_; clear hK K)
  (refine oW fun dd K hK => ?_; go_simp; refine qT hK ?_; clear hK K)
  refine ogU rfl rfl ?_
  refine ogU rfl rfl ?_
  walk_nrm
  refine ogU rfl rfl ?_
  refine ogU rfl rfl ?_
  walk_nrm
  (refine oW fun dd K hK => ?_; go_simp; refine qT hK ?_; clear hK K)
  refine ogE ?_
  refine ogT ?_
  simp only [if_true]
  refine ogX ?_
  refine own_go rfl (fun d => stepG_leave (fn := Try.f71) (v := .tuple #[]) rfl rfl Try.func71 (by simp [results, Try.f71]) (by simp [results, Try.f71, go_sem])) ?_
  exact h
set_option maxRecDepth 100000 in
set_option maxHeartbeats 1000000 in
theorem step1_over [ok : Fits g] {v : Mine} {i : Nat} [hi : Has g i] (hK : g.K w) (hl : Lies w ⟨v.n, 0, none⟩ (.int .i64 g.n)) (ho : Lies w ⟨g.st i, 2, none⟩ (.bool true)) {c : Frame} {cs : List Frame} {main : Bool} {Stop : Goroutine → World → Prop} (h : Own Try.prog main F Stop (G (c.finish (.tuple #[])) cs) w) :
    Own Try.prog main F Stop (G (Frame.enter Try.prog 71 (step1Args g v i) .normal) (c :: cs)) w := by
  have hin := hi.lt
  have hd : decide ((i : Int) < 0) = false := by simp
  have hd2 : decide ((g.n : Int) ≤ (i : Int)) = false := by simp; omega
  have hd3 : decide (g.n ≤ i) = false := by simp; omega
  have hsl := ok.ok.sl (Nat.lt_of_le_of_lt (Nat.zero_le _) hin)
  have c1 := hl.c
  have z1 := hl.z
  have c2 := (hK _ _ .tv).c
  have z2 := (hK _ _ .tv).z
  have c3 := (hK _ _ .stands).c
  have z3 := (hK _ _ .stands).z
  have c4 := (hK _ _ (.stand i hin)).c
  have z4 := (hK _ _ (.stand i hin)).z
  have c5 := ho.c
  have z5 := ho.z
  rw [hsl] at c3
  unfold step1Args
  rw [enter_step1]
  simp only [step1Body, Try.f71, Option.getD_some]
  walk_nrm
  refine ogS ?_
  refine ogS ?_
  (refine ogR ?_; simp only [List.size_toArray, List.length_cons, List.length_nil, Nat.reduceAdd, Nat.zero_add, List.range, List.range.loop])
  (refine oW fun dd K hK => ?_; go_simp; refine qT hK ?_; clear hK K)
  (refine oW fun dd K hK => ?_; go_simp; refine qT hK ?_; clear hK K)
  (refine oW fun dd K hK => ?_; go_simp; refine qT hK ?_; clear hK K)
  (refine oW fun dd K hK => ?_; go_simp; refine qT hK ?_; clear hK K)
  (refine oW fun dd K hK => ?_; go_simp; refine qL hK ?_; clear hK K)
  (refine oW fun dd K hK => ?_; go_simp; refine qT hK ?_; clear hK K)
  (refine oW fun dd K hK => ?_; go_simp; refine qT hK ?_; clear hK K)
  (refine oW fun dd K hK => ?_; go_simp; refine qT hK ?_; clear hK K)
  (refine oW fun dd K hK => ?_; go_simp; refine qL hK ?_; clear hK K)
  (refine oW fun dd K hK => ?_; go_simp; refine qT hK ?_; clear hK K)
  (refine oW fun dd K hK => ?_; go_simp; refine qT hK ?_; clear hK K)
  (refine oW fun dd K hK => ?_; go_simp; refine qL hK ?_; clear hK K)
  (refine oW fun dd K hK => ?_; go_simp; refine qT hK ?_; clear hK K)
  (refine oW fun dd K hK => ?_; go_simp; refine hK _ _ ⟨⟨⟨0, Grew.refl _ _⟩, fun e he => by (have hm := mem_listed he; simp [go_sem, *] at hm)⟩, Own.at ?_ dd⟩; clear hK K)
  (refine oW fun dd K hK => ?_; go_simp; refine qL hK ?_; clear hK K)
  (refine oW fun dd K hK => ?_; go_simp; refine qT hK ?_; clear hK K)
  (refine oW fun dd K hK => ?_; go_simp; refine qT hK ?_; clear hK K)
  (refine oW fun dd K hK => ?_; go_simp; refine qL hK ?_; clear hK K)
  (refine oW fun dd K hK => ?_; go_simp; refine qT hK ?_; clear hK K)
  (refine oW fun dd K hK => ?_; go_simp; refine qT hK ?_; clear hK K)
  refine ogU rfl rfl ?_
  refine ogU rfl rfl ?_
  walk_nrm
  refine ogU rfl rfl ?_
  refine ogU rfl rfl ?_
  walk_nrm
  (refine oW fun dd K hK => ?_; go_simp; refine qT hK ?_; clear hK K)
  refine ogE ?_
  refine ogT ?_
  simp only [if_true]
  refine ogX ?_
  refine own_go rfl (fun d => stepG_leave (fn := Try.f71) (v := .tuple #[]) rfl rfl Try.func71 (by simp [results, Try.f71]) (by simp [results, Try.f71, go_sem])) ?_
  exact h
set_option maxRecDepth 100000 in
set_option maxHeartbeats 1000000 in
theorem step1_full [ok : Fits g] {v : Mine} {i : Nat} [hi : Has g i] (hK : g.K w) (hl : Lies w ⟨v.n, 0, none⟩ (.int .i64 g.n)) (ho : Lies w ⟨g.st i, 2, none⟩ (.bool false)) {oa : Option Addr} {ol oc M : Nat} (lo : Lies w ⟨v.od, 0, none⟩ (.slice oa ol oc)) (lm : Lies w ⟨v.mo, 0, none⟩ (.int .i64 M)) (hM : ol = M)
    {c : Frame} {cs : List Frame} {main : Bool} {Stop : Goroutine → World → Prop} (h : Own Try.prog main F Stop (G (c.finish (.tuple #[])) cs) w) :
    Own Try.prog main F Stop (G (Frame.enter Try.prog 71 (step1Args g v i) .normal) (c :: cs)) w := by
  subst hM
  have hin := hi.lt
  have hd : decide ((i : Int) < 0) = false := by simp
  have hd2 : decide ((g.n : Int) ≤ (i : Int)) = false := by simp; omega
  have hd3 : decide (g.n ≤ i) = false := by simp; omega
  have hsl := ok.ok.sl (Nat.lt_of_le_of_lt (Nat.zero_le _) hin)
  have c1 := hl.c
  have z1 := hl.z
  have c2 := (hK _ _ .tv).c
  have z2 := (hK _ _ .tv).z
  have c3 := (hK _ _ .stands).c
  have z3 := (hK _ _ .stands).z
  have c4 := (hK _ _ (.stand i hin)).c
  have z4 := (hK _ _ (.stand i hin)).z
  have c5 := ho.c
  have z5 := ho.z
  rw [hsl] at c3
  have c6 := lo.c
  have z6 := lo.z
  have c7 := lm.c
  have z7 := lm.z
  unfold step1Args
  rw [enter_step1]
  simp only [step1Body, Try.f71, Option.getD_some]
  walk_nrm
  refine ogS ?_
  refine ogS ?_
  (refine ogR ?_; simp only [List.size_toArray, List.length_cons, List.length_nil, Nat.reduceAdd, Nat.zero_add, List.range, List.range.loop])
  (refine oW fun dd K hK => ?_; go_simp; refine qT hK ?_; clear hK K)
  (refine oW fun dd K hK => ?_; go_simp; refine qT hK ?_; clear hK K)
  (refine oW fun dd K hK => ?_; go_simp; refine qT hK ?_; clear hK K)
  (refine oW fun dd K hK => ?_; go_simp; refine qT hK ?_; clear hK K)
  (refine oW fun dd K hK => ?_; go_simp; refine qL hK ?_; clear hK K)
  (refine oW fun dd K hK => ?_; go_simp; refine qT hK ?_; clear hK K)
  (refine oW fun dd K hK => ?_; go_simp; refine qT hK ?_; clear hK K)
  (refine oW fun dd K hK => ?_; go_simp; refine qT hK ?_; clear hK K)
  (refine oW fun dd K hK => ?_; go_simp; refine qL hK ?_; clear hK K)
  (refine oW fun dd K hK => ?_; go_simp; refine qT hK ?_; clear hK K)
  (refine oW fun dd K hK => ?_; go_simp; refine qT hK ?_; clear hK K)
  (refine oW fun dd K hK => ?_; go_simp; refine qL hK ?_; clear hK K)
  (refine oW fun dd K hK => ?_; go_simp; refine qT hK ?_; clear hK K)
  (refine oW fun dd K hK => ?_; go_simp; refine hK _ _ ⟨⟨⟨0, Grew.refl _ _⟩, fun e he => by (have hm := mem_listed he; simp [go_sem, *] at hm)⟩, Own.at ?_ dd⟩; clear hK K)
  (refine oW fun dd K hK => ?_; go_simp; refine qL hK ?_; clear hK K)
  (refine oW fun dd K hK => ?_; go_simp; refine qT hK ?_; clear hK K)
  (refine oW fun dd K hK => ?_; go_simp; refine qT hK ?_; clear hK K)
  (refine oW fun dd K hK => ?_; go_simp; refine qL hK ?_; clear hK K)
  (refine oW fun dd K hK => ?_; go_simp; refine qT hK ?_; clear hK K)
  (refine oW fun dd K hK => ?_; go_simp; refine qT hK ?_; clear hK K)
  (refine oW fun dd K hK => ?_; go_simp; refine qL hK ?_; clear hK K)
  (refine oW fun dd K hK => ?_; go_simp; refine qT hK ?_; clear hK K)
  (refine oW fun dd K hK => ?_; go_simp; refine qL hK ?_; clear hK K)
  (refine oW fun dd K hK => ?_; go_simp; refine qT hK ?_; clear hK K)
  (refine oW fun dd K hK => ?_; go_simp; refine qT hK ?_; clear hK K)
  refine ogE ?_
  refine ogT ?_
  simp only [if_true]
  refine ogX ?_
  refine own_go rfl (fun d => stepG_leave (fn := Try.f71) (v := .tuple #[]) rfl rfl Try.func71 (by simp [results, Try.f71]) (by simp [results, Try.f71, go_sem])) ?_
  exact h
noncomputable def step1App : Code := match step1Body with | .seq _ (.seq a _) => a | _ => .skip
noncomputable def step1Rest : Code := match step1Body with | .seq _ (.seq _ a) => a | _ => .skip
noncomputable def step1At (g : Gate) (v : Mine) (i : Nat) (oa : Option Addr) (ol oc M : Nat) : Act :=
  ⟨#[.int .i64 i, .pointer (some ⟨v.n, 0, none⟩), .pointer (some ⟨g.tv, 0, none⟩), .pointer (some ⟨v.od, 0, none⟩), .pointer (some ⟨v.mo, 0, none⟩), .pointer (some ⟨v.lf, 0, none⟩), undef, .int .i64 i, .bool false, .bool false, .int .i64 i, .int .i64 g.n, .bool false, .bool false, .bool false,
    .pointer (some ⟨g.tb, 0, none⟩), .pointer (some ⟨g.tb, 0, none⟩), .pointer (some ⟨g.tb, 1, none⟩), .slice (some ⟨g.sa, 0, none⟩) g.n g.sc, .int .i64 i, .pointer (some ⟨g.sa, i, none⟩), .pointer (some ⟨g.st i, 0, none⟩), .pointer (some ⟨g.st i, 0, none⟩), .pointer (some ⟨g.st i, 2, none⟩), .bool false, .bool false, .bool false,
    .slice oa ol oc, .int .i64 ol, .int .i64 M, .bool false, .bool false, undef, undef, undef, undef, undef, undef, undef, undef, undef, undef, undef, undef, undef, undef, undef, undef, undef, undef, undef], []⟩
set_option maxRecDepth 100000 in
set_option maxHeartbeats 1000000 in
theorem step1_go [ok : Fits g] {v : Mine} {i : Nat} [hi : Has g i] (hK : g.K w) (hl : Lies w ⟨v.n, 0, none⟩ (.int .i64 g.n)) (ho : Lies w ⟨g.st i, 2, none⟩ (.bool false)) {oa : Option Addr} {ol oc M : Nat} (lo : Lies w ⟨v.od, 0, none⟩ (.slice oa ol oc)) (lm : Lies w ⟨v.mo, 0, none⟩ (.int .i64 M)) (hM : ol ≠ M)
    {cs : List Frame} {main : Bool} {Stop : Goroutine → World → Prop} (h : Own Try.prog main F Stop (G ((base 71).at (step1At g v i oa ol oc M) [.code step1App, .code step1Rest]) cs) w) :
    Own Try.prog main F Stop (G (Frame.enter Try.prog 71 (step1Args g v i) .normal) cs) w := by
  have hM2 : ((ol : Int) == (M : Int)) = false := by simp; omega
  have hM3 : (ol == M) = false := by simp; omega
  have hin := hi.lt
  have hd : decide ((i : Int) < 0) = false := by simp
  have hd2 : decide ((g.n : Int) ≤ (i : Int)) = false := by simp; omega
  have hd3 : decide (g.n ≤ i) = false := by simp; omega
  have hsl := ok.ok.sl (Nat.lt_of_le_of_lt (Nat.zero_le _) hin)
  have c1 := hl.c
  have z1 := hl.z
  have c2 := (hK _ _ .tv).c
  have z2 := (hK _ _ .tv).z
  have c3 := (hK _ _ .stands).c
  have z3 := (hK _ _ .stands).z
  have c4 := (hK _ _ (.stand i hin)).c
  have z4 := (hK _ _ (.stand i hin)).z
  have c5 := ho.c
  have z5 := ho.z
  rw [hsl] at c3
  have c6 := lo.c
  have z6 := lo.z
  have c7 := lm.c
  have z7 := lm.z
  unfold step1Args
  rw [enter_step1]
  simp only [step1Body, Try.f71, Option.getD_some]
  walk_nrm
  refine ogS ?_
  refine ogS ?_
  (refine ogR ?_; simp only [List.size_toArray, List.length_cons, List.length_nil, Nat.reduceAdd, Nat.zero_add, List.range, List.range.loop])
  (refine oW fun dd K hK => ?_; go_simp; refine qT hK ?_; clear hK K)
  (refine oW fun dd K hK => ?_; go_simp; refine qT hK ?_; clear hK K)
  (refine oW fun dd K hK => ?_; go_simp; refine qT hK ?_; clear hK K)
  (refine oW fun dd K hK => ?_; go_simp; refine qT hK ?_; clear hK K)
  (refine oW fun dd K hK => ?_; go_simp; refine qL hK ?_; clear hK K)
  (refine oW fun dd K hK => ?_; go_simp; refine qT hK ?_; clear hK K)
  (refine oW fun dd K hK => ?_; go_simp; refine qT hK ?_; clear hK K)
  (refine oW fun dd K hK => ?_; go_simp; refine qT hK ?_; clear hK K)
  (refine oW fun dd K hK => ?_; go_simp; refine qL hK ?_; clear hK K)
  (refine oW fun dd K hK => ?_; go_simp; refine qT hK ?_; clear hK K)
  (refine oW fun dd K hK => ?_; go_simp; refine qT hK ?_; clear hK K)
  (refine oW fun dd K hK => ?_; go_simp; refine qL hK ?_; clear hK K)
  (refine oW fun dd K hK => ?_; go_simp; refine qT hK ?_; clear hK K)
  (refine oW fun dd K hK => ?_; go_simp; refine hK _ _ ⟨⟨⟨0, Grew.refl _ _⟩, fun e he => by (have hm := mem_listed he; simp [go_sem, *] at hm)⟩, Own.at ?_ dd⟩; clear hK K)
  (refine oW fun dd K hK => ?_; go_simp; refine qL hK ?_; clear hK K)
  (refine oW fun dd K hK => ?_; go_simp; refine qT hK ?_; clear hK K)
  (refine oW fun dd K hK => ?_; go_simp; refine qT hK ?_; clear hK K)
  (refine oW fun dd K hK => ?_; go_simp; refine qL hK ?_; clear hK K)
  (refine oW fun dd K hK => ?_; go_simp; refine qT hK ?_; clear hK K)
  (refine oW fun dd K hK => ?_; go_simp; refine qT hK ?_; clear hK K)
  (refine oW fun dd K hK => ?_; go_simp; refine qL hK ?_; clear hK K)
  (refine oW fun dd K hK => ?_; go_simp; refine qT hK ?_; clear hK K)
  (refine oW fun dd K hK => ?_; go_simp; refine qL hK ?_; clear hK K)
  (refine oW fun dd K hK => ?_; go_simp; refine qT hK ?_; clear hK K)
  (refine oW fun dd K hK => ?_; go_simp; refine qT hK ?_; clear hK K)
  refine ogE ?_
  refine ogF ?_
  simp only [Bool.false_eq_true, if_false]
  refine ogK ?_
  refine ogS ?_
  exact h
end Go.Proofs.Ytcejbandeikdjaa
namespace Go.Proofs.Ytcejbandeikdjaa
open Go Go.Conc Go.RowKit Go.Proofs
theorem prog_ahead : Try.prog.follows .staticDataAhead = true := by kernel_rfl
theorem prog_noReady : Try.prog.funcs.all (fun f => ((f.body.map readies).map (fun l => l.isEmpty)).getD true) = true := by kernel_rfl
theorem prog_noStep (g : Nat) : Try.prog.stepOf g = none := by
  unfold Program.stepOf
  rw [Array.findIdx?_eq_none_iff]
  intro f hf
  have h := Array.all_eq_true_iff_forall_mem.1 prog_noReady f hf
  cases hb : f.body with
  | none => rfl
  | some c =>
    rw [hb] at h
    simp only [Option.map_some, Option.getD_some, List.isEmpty_iff] at h
    simp [h]
theorem prog_late : NoEarly Try.prog := noEarly_of prog_ahead prog_noStep
theorem ready0 : Ready Try.prog (fun _ => false) := ⟨fun px f hf => (by cases hf), prog_late⟩
end Go.Proofs.Ytcejbandeikdjaa
namespace Go.Proofs.Ytcejbandeikdjaa
open Go Go.Conc Go.RowKit Go.Proofs
variable {g : Gate}
theorem info3 : ∃ i, Try.prog.info? 3 = some i ∧ i.zero = some (.int .i64 0) ∧ i.size = 1 ∧ i.bytes = 8 := by
  have h : (Try.prog.info? 3).map (fun i => (i.zero.map (·.cells), i.size, i.bytes)) = some (some #[.int .i64 0], 1, 8) := by kernel_rfl
  have h0 : (Try.prog.info? 3).bind (·.zero) = some (.int .i64 0) := by kernel_rfl
  obtain ⟨i, hi, h1⟩ := Option.map_eq_some_iff.1 h
  rw [hi] at h0
  simp only [Prod.mk.injEq] at h1
  exact ⟨i, hi, h0, h1.2.1, h1.2.2⟩
noncomputable def step1At2 (g : Gate) (v : Mine) (i : Nat) (oa : Option Addr) (ol oc M : Nat) (b nv : Value) : Act :=
  ⟨((((step1At g v i oa ol oc M).tmps.setIfInBounds 32 (.slice oa ol oc)).setIfInBounds 33 (.int .i64 i)).setIfInBounds 34 b).setIfInBounds 35 nv, []⟩
def AppPost (g : Gate) (v : Mine) (i : Nat) (oa : Option Addr) (ol oc M base : Nat) (xs : List Value) (W : World) (e : Exit) (a : Act) (w : World) : Prop :=
  e = .normal ∧ ∃ nv w1, a = step1At2 g v i oa ol oc M (.slice (some ⟨W.heap.size, 0, none⟩) 1 1) nv ∧ w1.ownsRow base 3 1 nv (ol + 1) (xs ++ [.int .i64 i]) ∧ (W.alloc (.cells #[.int .i64 i] 3)).grownBy w1 (Value.ownBlock (.slice oa ol oc)) ∧ w = w1.setCell ⟨v.od, 0, none⟩ nv
theorem own_ne {w : World} {base : Nat} {a : Option Addr} {n c : Nat} {xs : List Value} (h : w.ownsRow base 3 1 (.slice a n c) n xs) {b : Nat} (hb : ∀ x, a = some x → x.block ≠ b) : Value.ownBlock (.slice a n c) ≠ some b := by
  cases a with
  | none => simp [Value.ownBlock]
  | some x => simp only [Value.ownBlock, ne_eq, Option.some.injEq]; exact hb x rfl
theorem slice_form {w : World} {base n : Nat} {v : Value} {xs : List Value} (h : w.ownsRow base 3 1 v (n + 1) xs) : ∃ g cap, v = .slice (some ⟨g, 0, none⟩) (n + 1) cap := by
  rcases h.2 with ⟨_, h⟩ | ⟨g, cap, _, h, _⟩
  · omega
  · exact ⟨g, cap, h⟩
theorem grown_cell {W w1 : World} {base b : Nat} {oa : Option Addr} {ol oc : Nat} {xs : List Value} {o : Obj} (hlt : b < W.heap.size) (hown : W.ownsRow base 3 1 (.slice oa ol oc) ol xs) (hne : ∀ x, oa = some x → x.block ≠ b) (hg : (W.alloc o).grownBy w1 (Value.ownBlock (.slice oa ol oc))) :
    w1.cell? ⟨b, 0, none⟩ = W.cell? ⟨b, 0, none⟩ ∧ w1.frozen? ⟨b, 0, none⟩ = W.frozen? ⟨b, 0, none⟩ := by
  have hb : w1.heap[b]? = W.heap[b]? := (hg.block b (by simp; omega) (fun e => own_ne hown hne e.symm)).trans (heap_alloc_lt W _ hlt)
  exact ⟨by unfold World.cell?; simp only [hb], by unfold World.frozen?; simp only [hb]⟩
set_option maxRecDepth 100000 in
theorem app_wp (v : Mine) (i : Nat) (oa : Option Addr) (ol oc M : Nat) (W : World) (xs : List Value) (base : Nat) (hbase : base ≤ W.heap.size)
    (hc : W.cell? ⟨v.od, 0, none⟩ = some (.slice oa ol oc)) (hz : W.frozen? ⟨v.od, 0, none⟩ = false) (hown : W.ownsRow base 3 1 (.slice oa ol oc) ol xs) (hne : ∀ x, oa = some x → x.block ≠ v.od) (hol : ol < 2000000) :
    step1App.wp Try.prog (AppPost g v i oa ol oc M base xs W) (step1At g v i oa ol oc M) W := by
  obtain ⟨i0, hi, hz0, hz1, hz2⟩ := info3
  have hlt : v.od < W.heap.size := by
    unfold World.cell? at hc
    rcases Nat.lt_or_ge v.od W.heap.size with h | h
    · exact h
    · simp [Array.getElem?_eq_none h] at hc
  simp only [step1App, step1Body, Try.f71, Option.getD_some, step1At]
  go_wp2_with (at_builtin; refine wpList_append_own _ rfl _ _ 24 rfl base 3 i0 (.int .i64 0) 1 8 Try.underlying24 hi hz0 hz1 hz2 rfl (by decide) _ _ _ rfl (hown.alloc _) ⟨W.heap.size, 0, none⟩ 1 1 [.int .i64 i] rfl rfl (cell_one_new _ _ _) (fun x hx => by simp at hx; subst hx; rfl) (by unfold maxLen; omega) (by omega) (by simp; omega) ?_; intro nv w1 ho1 hg1 _; obtain ⟨g3, cap3, hg3⟩ := slice_form ho1; subst hg3; have hc1 := (grown_cell hlt hown hne hg1).1.trans hc; have hz1 := (grown_cell hlt hown hne hg1).2.trans hz; clear hz2)
  exact ⟨rfl, _, w1, rfl, ho1, hg1, rfl⟩
end Go.Proofs.Ytcejbandeikdjaa
namespace Go.Proofs.Ytcejbandeikdjaa
open Go Go.Conc Go.RowKit Go.Proofs
variable {g : Gate} {F : Fz} {N : Nat → Prop} {w w' : World}
theorem mask_at_none {r : Nat} (h : F r = none) : (mask F w).heap[r]? = w.heap[r]? := by
  rw [mask_get]
  cases ho : w.heap[r]? with
  | none => rfl
  | some o => cases o <;> simp [maskObj, h]
theorem mask_at_cell (a : Addr) : (mask F w).cell? a = w.cell? a := by
  unfold World.cell?
  rw [mask_get]
  cases ho : w.heap[a.block]? with
  | none => rfl
  | some o => cases o <;> rfl
theorem mask_at_frozen {a : Addr} (h : F a.block = none) : (mask F w).frozen? a = w.frozen? a := by
  unfold World.frozen?
  rw [mask_at_none h]
theorem mask_free (hg : Gd (FT N w) w w') {r : Nat} {cur : Array Value} {e : TypeId} (h : (mask (FT N w) w').heap[r]? = some (.cells cur e (0, 0))) (hc : 0 < cur.size) : FT N w r = none := by
  cases hF : FT N w r with
  | none => rfl
  | some z =>
    exfalso
    have h0 := hF
    unfold FT at h0
    split at h0
    · rename_i c e1 z0 heq
      split at h0
      · cases h0
        rcases hg.objs r _ heq with ⟨c1, e2, z1, c', h1, h2, h3⟩ | h2
        · cases h1
          rw [mask_get, h2] at h
          simp only [Option.map_some, maskObj, hF, Option.getD_some, Option.some.injEq, Obj.cells.injEq, Prod.mk.injEq] at h
          obtain ⟨rfl, _, _, h4⟩ := h
          omega
        · rw [mask_get, h2] at h
          simp only [Option.map_some, maskObj, hF, Option.getD_some, Option.some.injEq, Obj.cells.injEq, Prod.mk.injEq] at h
          obtain ⟨rfl, _, _, h4⟩ := h
          omega
      · cases h0
    · cases h0
theorem mask_inv (hg : Gd (FT N w) w w') {r : Nat} {cur : Array Value} {e : TypeId} (h : (mask (FT N w) w').heap[r]? = some (.cells cur e (0, 0))) (hc : 0 < cur.size) : w'.heap[r]? = some (.cells cur e (0, 0)) := by
  rw [mask_at_none (mask_free hg h hc)] at h
  exact h
theorem ft_none_ne {r : Nat} (h : FT N w r = none) {a : Addr} {v : Value} (hl : Lies w a v) (hN : N a.block) : a.block ≠ r := by
  rintro rfl
  obtain ⟨z, hz, _⟩ := ft_held hl hN
  rw [h] at hz
  cases hz
theorem ownsRow_same {W W' : World} {base n : Nat} {v : Value} {xs : List Value} (h : W.ownsRow base 3 1 v n xs) (hb : ∀ b, Value.ownBlock v = some b → W'.heap[b]? = W.heap[b]?) : W'.ownsRow base 3 1 v n xs := by
  refine ⟨h.1, ?_⟩
  rcases h.2 with h2 | ⟨b, cap, cur, rfl, h3, h4, h5⟩
  · exact .inl h2
  · exact .inr ⟨b, cap, cur, rfl, h3, (hb b rfl).trans h4, h5⟩
theorem ownsRow_unmask (hg : Gd (FT N w) w w') {base n : Nat} {v : Value} {xs : List Value} (h : (mask (FT N w) w').ownsRow base 3 1 v (n + 1) xs) : w'.ownsRow base 3 1 v (n + 1) xs ∧ ∀ b, Value.ownBlock v = some b → FT N w b = none := by
  rcases h.2 with h2 | ⟨b, cap, cur, rfl, h3, h4, h5, h6, h7, h8⟩
  · omega
  · refine ⟨⟨h.1, .inr ⟨b, cap, cur, rfl, h3, mask_inv hg h4 (by omega), h5, h6, h7, h8⟩⟩, fun b' hb => ?_⟩
    simp only [Value.ownBlock, Option.some.injEq] at hb
    subst hb
    exact mask_free hg h4 (by omega)
end Go.Proofs.Ytcejbandeikdjaa
namespace Go.Proofs.Ytcejbandeikdjaa
open Go Go.Conc Go.RowKit Go.Proofs
variable {g : Gate} {w w' : World}
def butOrder (v : Mine) (oa : Option Addr) : Nat → Prop := fun r => r ≠ v.od ∧ ∀ x, oa = some x → x.block ≠ r
def Noted (g : Gate) (v : Mine) (i : Nat) (oa : Option Addr) (ol oc M base : Nat) (xs : List Value) (cs : List Frame) (w : World) (a : Goroutine) (w' : World) : Prop :=
  Gd (FT (butOrder v oa) w) w w' ∧ ∃ b nv, a = G ((Go.Conc.base 71).at (step1At2 g v i oa ol oc M b nv) [.code step1Rest]) cs ∧ (w'.ownsRow base 3 1 nv (ol + 1) (xs ++ [.int .i64 i]) ∧ ∀ b, Value.ownBlock nv = some b → FT (butOrder v oa) w b = none) ∧ (∃ c, w'.heap[v.od]? = some (.cells c 24 (0, 0)) ∧ c[0]? = some nv)
theorem app_ok : codeOk Try.prog (fun _ => false) false step1App = true := by kernel_rfl
theorem own_app {v : Mine} {i : Nat} {oa : Option Addr} {ol oc M base : Nat} {xs : List Value} (hbase : base ≤ w.heap.size) (hod : ∃ c, w.heap[v.od]? = some (.cells c 24 (0, 0)) ∧ c[0]? = some (.slice oa ol oc)) (hown : w.ownsRow base 3 1 (.slice oa ol oc) ol xs) (hol : ol < 2000000) {cs : List Frame} :
    Own Try.prog true (FT (butOrder v oa) w) (Noted g v i oa ol oc M base xs cs w) (G ((Go.Conc.base 71).at (step1At g v i oa ol oc M) [.code step1App, .code step1Rest]) cs) w := by
  obtain ⟨c, ho1, ho2⟩ := hod
  have hne : ∀ x, oa = some x → x.block ≠ v.od := by
    rintro x rfl e
    rcases hown.2 with ⟨h, _⟩ | ⟨b, cap, cur, h, _, h4, _⟩
    · cases h
    · cases h
      simp only at e
      rw [e, ho1] at h4
      cases h4
  have hFo : FT (butOrder v oa) w v.od = none := ft_none fun h => h.1 rfl
  have hFr : ∀ x, oa = some x → FT (butOrder v oa) w x.block = none := fun x hx => ft_none fun h => h.2 x hx rfl
  refine own_mono (own_lift (Q := fun e a' W' => ∃ W, W.heap = (mask (FT (butOrder v oa) w) w).heap ∧ AppPost g v i oa ol oc M base xs W e a' W') ready0 false (by simp) app_ok (ft_wf w) rfl (fun e a w h => by obtain ⟨_, _, h, _⟩ := h; exact .inl h) (fun τ e => ?_) (by decide)) fun a' w' hE => ?_
  · refine Code.wp_mono (fun e1 a1 w1 h => ⟨retape (mask (FT (butOrder v oa) w) w) τ e, rfl, h⟩) (app_wp v i oa ol oc M _ xs base (by simpa [retape] using hbase) ?_ ?_ (ownsRow_same hown fun b hb => ?_) hne hol)
    · have := mask_at_cell (F := FT (butOrder v oa) w) (w := w) ⟨v.od, 0, none⟩
      refine (show _ = _ from this).trans ?_
      simp [World.cell?, ho1, ho2]
    · refine (show _ = _ from mask_at_frozen (F := FT (butOrder v oa) w) (w := w) (a := ⟨v.od, 0, none⟩) hFo).trans ?_
      simp [World.frozen?, ho1]
    · cases oa with
      | none => cases hb
      | some x => cases hb; exact mask_at_none (hFr x rfl)
  · obtain ⟨hwf, hg, ⟨a1, τ, e, rfl, W, hW, h0, nv, w1, h1, h2, h3, h4⟩ | ⟨_, _, _, _, _, _, _, h0, _⟩⟩ := hE
    · refine ⟨hg, _, nv, by rw [h1], ?_, ?_⟩
      · refine ownsRow_unmask hg ?_
        have : (retape (mask (FT (butOrder v oa) w) w') τ e).ownsRow base 3 1 nv (ol + 1) (xs ++ [.int .i64 i]) := by
          rw [h4]
          refine ownsRow_same h2 fun b hb => heap_setCell_ne _ _ _ ?_
          rintro rfl
          have e1 : w1.heap[v.od]? = some (.cells c 24 (0, 0)) := by
            have hlt : v.od < W.heap.size := by rw [hW, mask_size]; exact (Array.getElem?_eq_some_iff.1 ho1).1
            rw [h3.block v.od (by simp; omega) (fun e => by
              cases oa with
              | none => cases e
              | some x => simp only [Value.ownBlock, Option.some.injEq] at e; exact hne x rfl e.symm), heap_alloc_lt _ _ hlt, hW, mask_at_none hFo]
            exact ho1
          rcases h2.2 with ⟨_, h⟩ | ⟨b, cap, cur, hv, _, h5, _⟩
          · omega
          · subst hv
            simp only [Value.ownBlock, Option.some.injEq] at hb
            rw [hb, e1] at h5
            cases h5
        exact this
      · have hlt : v.od < W.heap.size := by rw [hW, mask_size]; exact (Array.getElem?_eq_some_iff.1 ho1).1
        have e1 : w1.heap[v.od]? = some (.cells c 24 (0, 0)) := by
          rw [h3.block v.od (by simp; omega) (fun e => by
            cases oa with
            | none => cases e
            | some x => simp only [Value.ownBlock, Option.some.injEq] at e; exact hne x rfl e.symm), heap_alloc_lt _ _ hlt, hW, mask_at_none hFo]
          exact ho1
        have e2 : (retape (mask (FT (butOrder v oa) w) w') τ e).heap[v.od]? = w'.heap[v.od]? := mask_at_none hFo
        rw [h4] at e2
        have hc0 : 0 < c.size := (Array.getElem?_eq_some_iff.1 ho2).1
        exact ⟨c.setIfInBounds 0 nv, by rw [← e2]; simp [World.setCell, Array.getElem?_modify, e1], by simp [hc0]⟩
    · cases h0
end Go.Proofs.Ytcejbandeikdjaa
namespace Go.Proofs.Ytcejbandeikdjaa
open Go Go.Conc Go.RowKit Go.Proofs
variable {g : Gate} {F : Fz} {w w' : World}
noncomputable def step1Call : Code := match step1Rest with | .seq c _ => c | _ => .skip
noncomputable def step1CallOps : Array Oper := match step1Call with | .region _ o _ => o | _ => #[]
noncomputable def step1Tail : Code := match step1Rest with | .seq _ c => c | _ => .skip
noncomputable def step1Fr (g : Gate) (v : Mine) (i : Nat) (oa : Option Addr) (ol oc M : Nat) (b nv : Value) : Frame :=
  (Go.Conc.base 71).at ⟨#[.int .i64 i, .pointer (some ⟨v.n, 0, none⟩), .pointer (some ⟨g.tv, 0, none⟩), .pointer (some ⟨v.od, 0, none⟩), .pointer (some ⟨v.mo, 0, none⟩), .pointer (some ⟨v.lf, 0, none⟩), undef, .int .i64 i, .bool false, .bool false, .int .i64 i, .int .i64 g.n, .bool false, .bool false, .bool false,
    .pointer (some ⟨g.tb, 0, none⟩), .pointer (some ⟨g.tb, 0, none⟩), .pointer (some ⟨g.tb, 1, none⟩), .slice (some ⟨g.sa, 0, none⟩) g.n g.sc, .int .i64 i, .pointer (some ⟨g.sa, i, none⟩), .pointer (some ⟨g.st i, 0, none⟩), .pointer (some ⟨g.st i, 0, none⟩), .pointer (some ⟨g.st i, 2, none⟩), .bool false, .bool false, .bool false,
    .slice oa ol oc, .int .i64 ol, .int .i64 M, .bool false, .bool false, .slice oa ol oc, .int .i64 i, b, nv, .pointer (some ⟨g.tb, 0, none⟩), .int .i64 i, undef, undef, undef, undef, undef, undef, undef, undef, undef, undef, undef, undef, undef], []⟩ [.inRegion step1CallOps [2], .code step1Tail]
theorem callable72 : Callable 72 := callable Try.func72 rfl rfl
set_option maxRecDepth 100000 in
theorem step1_call {v : Mine} {i : Nat} {oa : Option Addr} {ol oc M : Nat} {b nv : Value} (hK : g.K w) {cs : List Frame} {main : Bool} {Stop : Goroutine → World → Prop}
    (h : Own Try.prog main F Stop (G (Frame.enter Try.prog 72 #[.pointer (some ⟨g.tb, 0, none⟩), .int .i64 i, .bool true] .normal) (step1Fr g v i oa ol oc M b nv :: cs)) w) :
    Own Try.prog main F Stop (G ((Go.Conc.base 71).at (step1At2 g v i oa ol oc M b nv) [.code step1Rest]) cs) w := by
  have c1 := (hK _ _ .tv).c
  have z1 := (hK _ _ .tv).z
  have hc := callable72
  simp only [step1Rest, step1Body, Try.f71, Option.getD_some, step1At2, step1At]
  walk_nrm
  refine ogS ?_
  (refine ogR ?_; simp only [List.size_toArray, List.length_cons, List.length_nil, Nat.reduceAdd, Nat.zero_add, List.range, List.range.loop])
  (refine oW fun dd K hK => ?_; go_simp; refine qL hK ?_; clear hK K)
  (refine oW fun dd K hK => ?_; go_simp; refine qT hK ?_; clear hK K)
  refine own_call (f := 72) (args := #[.pointer (some ⟨g.tb, 0, none⟩), .int .i64 i, .bool true]) rfl rfl (by decide) (fun w => by simp [execOp, Act.eval, resolve, invoke, Deferred.ofValue, hc.run]) (fun w => by simp [execOp, Act.eval, resolve, invoke, Deferred.ofValue, hc.run, hc.quiet]) ?_
  exact h
set_option maxRecDepth 100000 in
theorem step1_more [ok : Fits g] {v : Mine} {i : Nat} [hi : Has g i] {oa : Option Addr} {ol oc M : Nat} {b nv : Value} (hK : g.K w) (ho : Lies w ⟨g.st i, 2, none⟩ (.bool false)) {c : Frame} {cs : List Frame} {main : Bool} {Stop : Goroutine → World → Prop}
    (h : Own Try.prog main F Stop (G (c.finish (.tuple #[])) cs) w) :
    Own Try.prog main F Stop (G ((step1Fr g v i oa ol oc M b nv).finish (.tuple #[])) (c :: cs)) w := by
  have hin := hi.lt
  have hsl := ok.ok.sl (Nat.lt_of_le_of_lt (Nat.zero_le _) hin)
  have c2 := (hK _ _ .tv).c
  have z2 := (hK _ _ .tv).z
  have c3 := (hK _ _ .stands).c
  have z3 := (hK _ _ .stands).z
  have c4 := (hK _ _ (.stand i hin)).c
  have z4 := (hK _ _ (.stand i hin)).z
  have c5 := ho.c
  have z5 := ho.z
  rw [hsl] at c3
  unfold step1Fr
  rw [Frame.finish_at]
  simp only [step1CallOps, step1Call, step1Tail, step1Rest, step1Body, Try.f71, Option.getD_some]
  walk_nrm
  refine ogE ?_
  refine ogS ?_
  (refine ogR ?_; simp only [List.size_toArray, List.length_cons, List.length_nil, Nat.reduceAdd, Nat.zero_add, List.range, List.range.loop])
  (refine oW fun dd K hK => ?_; go_simp; refine qL hK ?_; clear hK K)
  (refine oW fun dd K hK => ?_; go_simp; refine qT hK ?_; clear hK K)
  (refine oW fun dd K hK => ?_; go_simp; refine qT hK ?_; clear hK K)
  (refine oW fun dd K hK => ?_; go_simp; refine qL hK ?_; clear hK K)
  (refine oW fun dd K hK => ?_; go_simp; refine qT hK ?_; clear hK K)
  (refine oW fun dd K hK => ?_; go_simp; refine qX hK ?_; clear hK K)
  (refine oW fun dd K hK => ?_; go_simp; refine qL hK ?_; clear hK K)
  (refine oW fun dd K hK => ?_; go_simp; refine qT hK ?_; clear hK K)
  (refine oW fun dd K hK => ?_; go_simp; refine qT hK ?_; clear hK K)
  (refine oW fun dd K hK => ?_; go_simp; refine qL hK ?_; clear hK K)
  refine ogE ?_
  refine ogF ?_
  simp only [Bool.false_eq_true, if_false]
  refine ogK ?_
  refine own_go rfl (fun d => stepG_end) ?_
  refine own_go rfl (fun d => stepG_leave (fn := Try.f71) (v := .tuple #[]) rfl rfl Try.func71 (by simp [results, Try.f71]) (by simp [results, Try.f71, go_sem])) ?_
  exact h
set_option maxRecDepth 100000 in
theorem step1_less [ok : Fits g] {v : Mine} {i : Nat} [hi : Has g i] {oa : Option Addr} {ol oc M : Nat} {b nv : Value} (hK : g.K w) (ho : Lies w ⟨g.st i, 2, none⟩ (.bool true)) {lf : Nat} (hl : Lies w ⟨v.lf, 0, none⟩ (.int .i64 (lf + 1 : Nat))) (hlf : lf < 1000000) (hnh : ¬ held F ⟨v.lf, 0, none⟩) {c : Frame} {cs : List Frame} {main : Bool} {Stop : Goroutine → World → Prop}
    (h : Own Try.prog main F Stop (G (c.finish (.tuple #[])) cs) (w.setCell ⟨v.lf, 0, none⟩ (.int .i64 lf))) :
    Own Try.prog main F Stop (G ((step1Fr g v i oa ol oc M b nv).finish (.tuple #[])) (c :: cs)) w := by
  have hin := hi.lt
  have hsl := ok.ok.sl (Nat.lt_of_le_of_lt (Nat.zero_le _) hin)
  have c2 := (hK _ _ .tv).c
  have z2 := (hK _ _ .tv).z
  have c3 := (hK _ _ .stands).c
  have z3 := (hK _ _ .stands).z
  have c4 := (hK _ _ (.stand i hin)).c
  have z4 := (hK _ _ (.stand i hin)).z
  have c5 := ho.c
  have z5 := ho.z
  have c6 := hl.c
  have z6 := hl.z
  rw [hsl] at c3
  have hw : IntKind.i64.wrap (((lf + 1 : Nat) : Int) - 1) = (lf : Int) := by
    rw [show (((lf + 1 : Nat) : Int) - 1) = (lf : Int) by omega]
    exact IntWalk.i64_in _ (by omega)
  have hw2 : IntKind.i64.wrap ((lf : Int) + 1 - 1) = (lf : Int) := by
    rw [show ((lf : Int) + 1 - 1) = (lf : Int) by omega]
    exact IntWalk.i64_in _ (by omega)
  unfold step1Fr
  rw [Frame.finish_at]
  simp only [step1CallOps, step1Call, step1Tail, step1Rest, step1Body, Try.f71, Option.getD_some]
  walk_nrm
  refine ogE ?_
  refine ogS ?_
  (refine ogR ?_; simp only [List.size_toArray, List.length_cons, List.length_nil, Nat.reduceAdd, Nat.zero_add, List.range, List.range.loop])
  (refine oW fun dd K hK => ?_; go_simp; refine qL hK ?_; clear hK K)
  (refine oW fun dd K hK => ?_; go_simp; refine qT hK ?_; clear hK K)
  (refine oW fun dd K hK => ?_; go_simp; refine qT hK ?_; clear hK K)
  (refine oW fun dd K hK => ?_; go_simp; refine qL hK ?_; clear hK K)
  (refine oW fun dd K hK => ?_; go_simp; refine qT hK ?_; clear hK K)
  (refine oW fun dd K hK => ?_; go_simp; refine qX hK ?_; clear hK K)
  (refine oW fun dd K hK => ?_; go_simp; refine qL hK ?_; clear hK K)
  (refine oW fun dd K hK => ?_; go_simp; refine qT hK ?_; clear hK K)
  (refine oW fun dd K hK => ?_; go_simp; refine qT hK ?_; clear hK K)
  (refine oW fun dd K hK => ?_; go_simp; refine qL hK ?_; clear hK K)
  refine ogE ?_
  refine ogT ?_
  simp only [if_true]
  (refine ogR ?_; simp only [List.size_toArray, List.length_cons, List.length_nil, Nat.reduceAdd, Nat.zero_add, List.range, List.range.loop])
  (refine oW fun dd K hK => ?_; go_simp; refine qL hK ?_; clear hK K)
  (refine oW fun dd K hK => ?_; go_simp; refine qT hK ?_; clear hK K)
  refine Own.of_goes rfl (fun dd => ?_); refine goes_oper_k rfl rfl (by decide) (fun K hK => ?_)
  go_simp
  refine hK _ _ ⟨⟨⟨0, grew_setCell rfl hnh _⟩, fun e he => by (have hm := mem_listed he; clear he hK; simp [go_sem, storedEv, c6, z6] at hm; subst hm; exact evT_write _ _ hnh)⟩, ?_⟩; clear hK K; rw [setCell_at']; refine Own.at ?_ dd
  refine ogE ?_
  refine own_go rfl (fun d => stepG_end) ?_
  refine own_go rfl (fun d => stepG_leave (fn := Try.f71) (v := .tuple #[]) rfl rfl Try.func71 (by simp [results, Try.f71]) (by simp [results, Try.f71, go_sem])) ?_
  rw [IntWalk.i64_in (lf : Int) (by omega)]
  exact h
end Go.Proofs.Ytcejbandeikdjaa
namespace Go.Proofs.Ytcejbandeikdjaa
open Go Go.Conc Go.RowKit Go.Proofs
variable {g : Gate} {F : Fz} {Z : Users} {vs : Nat → Vars} {N : Nat → Prop} {ov : Nat → Bool} {x : Z.X} {w w' : World}
structure Alone (Z : Users) (g : Gate) (vs : Nat → Vars) (Al N : Nat → Prop) (b : Nat) : Prop where
  n : N b
  st : ∀ j, j < g.n → b ≠ g.st j
  br : b ≠ g.br
  place : ∀ a u, g.Place a u → b ≠ a.block
  vars : ∀ j, Al j → b ≠ (vs j).x ∧ b ≠ (vs j).i ∧ b ≠ (vs j).e
  inp : Z.I b = none
theorem Alone.mono {Al Al' N : Nat → Prop} {b : Nat} (h : Alone Z g vs Al N b) (hA : ∀ j, Al' j → Al j) : Alone Z g vs Al' N b := ⟨h.n, h.st, h.br, h.place, fun j hj => h.vars j (hA j hj), h.inp⟩
structure MI (Z : Users) (g : Gate) (vs : Nat → Vars) (Al N : Nat → Prop) (v : Mine) (base M : Nat) (oa : Option Addr) (ol oc : Nat) (xs : List Value) (lf : Nat) (w : World) : Prop where
  n : Lies w ⟨v.n, 0, none⟩ (.int .i64 g.n)
  mo : Lies w ⟨v.mo, 0, none⟩ (.int .i64 M)
  lf : Lies w ⟨v.lf, 0, none⟩ (.int .i64 lf)
  od : ∃ c, w.heap[v.od]? = some (.cells c 24 (0, 0)) ∧ c[0]? = some (.slice oa ol oc)
  row : w.ownsRow base 3 1 (.slice oa ol oc) ol xs
  an : Alone Z g vs Al N v.n
  amo : Alone Z g vs Al N v.mo
  alf : Alone Z g vs Al N v.lf
  aod : Alone Z g vs Al N v.od
  arow : ∀ y, oa = some y → Alone Z g vs Al N y.block
  dn : v.n ≠ v.od ∧ v.mo ≠ v.od ∧ v.lf ≠ v.od ∧ v.lf ≠ v.n ∧ v.lf ≠ v.mo
  drow : ∀ y, oa = some y → y.block ≠ v.n ∧ y.block ≠ v.mo ∧ y.block ≠ v.lf
  base : base ≤ w.heap.size
variable {Al Al' : Nat → Prop} {v : Mine} {base M : Nat} {oa : Option Addr} {ol oc : Nat} {xs : List Value} {lf : Nat}
theorem MI.mono (h : MI Z g vs Al N v base M oa ol oc xs lf w) (hA : ∀ j, Al' j → Al j) : MI Z g vs Al' N v base M oa ol oc xs lf w :=
  ⟨h.n, h.mo, h.lf, h.od, h.row, h.an.mono hA, h.amo.mono hA, h.alf.mono hA, h.aod.mono hA, fun y hy => (h.arow y hy).mono hA, h.dn, h.drow, h.base⟩
theorem MI.kept (h : MI Z g vs Al N v base M oa ol oc xs lf w) {i : Nat} (hi : i < g.n) (hA : Al i) (k : Kept g N vs i w w') : MI Z g vs Al N v base M oa ol oc xs lf w' := by
  have lk : ∀ b u, Lies w ⟨b, 0, none⟩ u → Alone Z g vs Al N b → Lies w' ⟨b, 0, none⟩ u := fun b u hl ha => k.lies _ _ hl ha.n (.inl (ha.st i hi)) (ha.vars i hA).2.2 (.inl ha.br)
  obtain ⟨c, h1, h2⟩ := h.od
  have hs : ∀ b c e, w.heap[b]? = some (.cells c e (0, 0)) → Alone Z g vs Al N b → w'.heap[b]? = w.heap[b]? := fun b c e hb ha => k.same b c e _ hb ha.n (ha.st i hi) (ha.vars i hA).2.2 ha.br
  refine ⟨lk _ _ h.n h.an, lk _ _ h.mo h.amo, lk _ _ h.lf h.alf, ⟨c, (hs _ _ _ h1 h.aod).trans h1, h2⟩, ownsRow_same h.row fun b hb => ?_, h.an, h.amo, h.alf, h.aod, h.arow, h.dn, h.drow, Nat.le_trans h.base k.size⟩
  cases oa with
  | none => cases hb
  | some y =>
    simp only [Value.ownBlock, Option.some.injEq] at hb
    subst hb
    rcases h.row.2 with ⟨h3, _⟩ | ⟨b, cap, cur, h3, _, h4, _⟩
    · cases h3
    · cases h3
      exact hs _ _ _ h4 (h.arow _ rfl)
end Go.Proofs.Ytcejbandeikdjaa
namespace Go.Proofs.Ytcejbandeikdjaa
open Go Go.Conc Go.RowKit Go.Proofs
variable {g : Gate} {F : Fz} {Z : Users} {vs : Nat → Vars} {N : Nat → Prop} {ov : Nat → Bool} {x : Z.X} {w w' : World} {Al Al' : Nat → Prop} {v : Mine} {base M : Nat} {oa : Option Addr} {ol oc : Nat} {xs : List Value} {lf : Nat}
theorem row_where (hg : Gd (FT (butOrder v oa) w) w w') {b : Nat} {cur : Array Value} (h : w'.heap[b]? = some (.cells cur 3 (0, 0))) (hf : FT (butOrder v oa) w b = none) (hod : ∃ c, w.heap[v.od]? = some (.cells c 24 (0, 0))) : (∃ y, oa = some y ∧ y.block = b) ∨ w.heap.size ≤ b := by
  rcases Nat.lt_or_ge b w.heap.size with hlt | hge
  · refine .inl (Classical.byContradiction fun hno => ?_)
    have hne : ∀ y, oa = some y → y.block ≠ b := fun y hy e => hno ⟨y, hy, e⟩
    obtain ⟨o, ho⟩ : ∃ o, w.heap[b]? = some o := ⟨_, Array.getElem?_eq_getElem hlt⟩
    rcases hg.objs b o ho with ⟨c1, e1, z1, c', rfl, h2, _⟩ | h2
    · rw [h] at h2
      cases h2
      by_cases e : b = v.od
      · subst e
        obtain ⟨c, hc⟩ := hod
        rw [hc] at ho
        cases ho
      · unfold FT at hf
        rw [ho] at hf
        simp only at hf
        rw [if_pos ⟨e, hne⟩] at hf
        cases hf
    · rw [h] at h2
      cases h2
      by_cases e : b = v.od
      · subst e
        obtain ⟨c, hc⟩ := hod
        rw [hc] at ho
        cases ho
      · unfold FT at hf
        rw [ho] at hf
        simp only at hf
        rw [if_pos ⟨e, hne⟩] at hf
        cases hf
  · exact .inr hge
def grownN (N : Nat → Prop) (w w' : World) : Nat → Prop := fun r => N r ∨ (w.heap.size ≤ r ∧ r < w'.heap.size)
theorem TI.grown (zok : Z.Ok g) (H0 : TI Z g Al vs N ov x w) (H : TI Z g Al vs N ov x w') : TI Z g Al vs (grownN N w w') ov x w' :=
  ⟨H.u, H.over, H.brk, H.vars, H.chans, fun r hr hn => by
    rcases hn with hn | hn
    · exact H.apart r hr hn
    · have := zok.low x w r H0.u hr; omega,
    fun r hr => by rcases hr with hr | hr; exact H.nlow r hr; exact hr.2, fun a u p => .inl (H.nplace a u p), fun j hj => .inl (H.nst j hj), fun h => .inl (H.nbr h), fun j hj => by obtain ⟨h1, h2, h3⟩ := H.nvars j hj; exact ⟨.inl h1, .inl h2, .inl h3⟩, fun c hc => .inl (H.nchan c hc), H.vsep, fun r hr => by obtain ⟨h1, h2⟩ := H.inp r hr; exact ⟨.inl h1, h2⟩⟩
theorem Alone.grown {b : Nat} (h : Alone Z g vs Al N b) (w w' : World) : Alone Z g vs Al (grownN N w w') b := ⟨.inl h.n, h.st, h.br, h.place, h.vars, h.inp⟩
theorem MI.noted (zok : Z.Ok g) (H : TI Z g Al vs N ov x w) (hn : 0 < g.n) (hK : g.K w) (h : MI Z g vs Al N v base M oa ol oc xs lf w) {i : Nat} {cs : List Frame} {a : Goroutine} (hN : Noted g v i oa ol oc M base xs cs w a w') :
    ∃ b nv oa' oc', nv = .slice oa' (ol + 1) oc' ∧ a = G ((Go.Conc.base 71).at (step1At2 g v i oa ol oc M b nv) [.code step1Rest]) cs ∧ MI Z g vs Al (grownN N w w') v base M oa' (ol + 1) oc' (xs ++ [.int .i64 i]) lf w' := by
  obtain ⟨hg, b, nv, rfl, ⟨hrow, hfree⟩, c', hod1, hod2⟩ := hN
  obtain ⟨b1, oc', hnv⟩ := slice_form hrow
  subst hnv
  refine ⟨b, _, some ⟨b1, 0, none⟩, oc', rfl, rfl, ?_⟩
  obtain ⟨cod, hod, _⟩ := h.od
  have hf : FT (butOrder v oa) w b1 = none := hfree b1 rfl
  have hb1 : ∃ cur, w'.heap[b1]? = some (.cells cur 3 (0, 0)) := by
    rcases hrow.2 with ⟨h3, _⟩ | ⟨b2, cap, cur, h3, _, h4, _⟩
    · cases h3
    · cases h3; exact ⟨cur, h4⟩
  obtain ⟨cur, hb1⟩ := hb1
  have hwh := row_where hg hb1 hf ⟨cod, hod⟩
  have hkeep : ∀ {a u}, Lies w a u → a.block ≠ v.od → (∀ y, oa = some y → y.block ≠ a.block) → Lies w' a u := fun hl h1 h2 => ft_keep hg hl ⟨h1, h2⟩
  have hsep : ∀ {a u}, Lies w a u → a.block ≠ v.od → (∀ y, oa = some y → y.block ≠ a.block) → b1 ≠ a.block := fun hl h1 h2 => (ft_none_ne hf hl ⟨h1, h2⟩).symm
  obtain ⟨d1, d2, d3, d4, d5⟩ := h.dn
  have r1 := fun y hy => (h.drow y hy).1
  have r2 := fun y hy => (h.drow y hy).2.1
  have r3 := fun y hy => (h.drow y hy).2.2
  refine ⟨hkeep h.n d1 r1, hkeep h.mo d2 r2, hkeep h.lf d3 r3, ⟨c', hod1, hod2⟩, hrow, h.an.grown _ _, h.amo.grown _ _, h.alf.grown _ _, h.aod.grown _ _, fun y hy => ?_, h.dn, fun y hy => ?_, Nat.le_trans h.base hg.size⟩
  · cases hy
    have hb1lt : b1 < w'.heap.size := (Array.getElem?_eq_some_iff.1 hb1).1
    rcases hwh with ⟨y, hy, e⟩ | hge
    · have := (h.arow y hy).grown w w'
      rw [e] at this
      exact this
    · refine ⟨.inr ⟨hge, hb1lt⟩, fun j hj e => ?_, fun e => ?_, fun a u p e => ?_, fun j hj => ?_, ?_⟩
      · have := (H.over j hj).lt; simp only at this e; omega
      · obtain ⟨bb, hbb⟩ := H.brk 0 hn; have := hbb.lt; simp only at this e; omega
      · have := (hK a u p).lt; simp only at e; omega
      · have q1 := (H.vars j hj).x.lt
        have q2 := (H.vars j hj).i.lt
        have q3 := (H.vars j hj).e.lt
        simp only at q1 q2 q3 ⊢
        omega
      · cases e : Z.I b1 with
        | none => rfl
        | some o => have := H.ilow zok (r := b1) (by rw [e]; simp); omega
  · cases hy
    exact ⟨hsep h.n d1 r1, hsep h.mo d2 r2, hsep h.lf d3 r3⟩
end Go.Proofs.Ytcejbandeikdjaa
namespace Go.Proofs.Ytcejbandeikdjaa
open Go Go.Conc Go.RowKit Go.Proofs
variable {g : Gate} {F : Fz} {Z : Users} {vs : Nat → Vars} {N B : Nat → Prop} {ov : Nat → Bool} {x : Z.X} {w w' : World} {Al Al' : Nat → Prop} {v : Mine} {base M : Nat} {oa : Option Addr} {ol oc : Nat} {xs : List Value} {lf : Nat}
theorem TI.gd (zok : Z.Ok g) (H : TI Z g Al vs N ov x w) (hg : Gd (FT B w) w w') (hst : ∀ j, j < g.n → B (g.st j)) (hbr : 0 < g.n → B g.br) (hvars : ∀ j, Al j → B (vs j).x ∧ B (vs j).i ∧ B (vs j).e) (hR : ∀ r, Z.R x r ∨ Z.I r ≠ none → B r) : TI Z g Al vs N ov x w' :=
  ⟨zok.stable x w w' H.u hg.size fun r hr => ft_same hg (hR r hr) (hr.elim (zok.low x w r H.u) (H.ilow zok)), fun j hj => ft_keep hg (H.over j hj) (hst j hj), fun j hj => (H.brk j hj).imp fun b h => ft_keep hg h (hbr (by omega)), fun j hj => (H.vars j hj).of fun a u h e => ft_keep hg h (by
    obtain ⟨h1, h2, h3⟩ := hvars j hj
    rcases e with e | e | e <;> rw [e] <;> assumption), fun c hc => by obtain ⟨cap, k, h⟩ := H.chans c hc; exact ⟨cap, k, chan_gd hg h⟩,
    H.apart, fun r h => Nat.lt_of_lt_of_le (H.nlow r h) hg.size, H.nplace, H.nst, H.nbr, H.nvars, H.nchan, H.vsep, H.inp⟩
theorem bo_of (ha : Alone Z g vs Al N v.od) (hr : ∀ y, oa = some y → Alone Z g vs Al N y.block) {r : Nat} (h : r ≠ v.od) (h2 : ∀ y, oa = some y → y.block ≠ r) : butOrder v oa r := ⟨h, h2⟩
theorem TI.noted (zok : Z.Ok g) (H : TI Z g Al vs N ov x w) (h : MI Z g vs Al N v base M oa ol oc xs lf w) {i : Nat} {cs : List Frame} {a : Goroutine} (hN : Noted g v i oa ol oc M base xs cs w a w') :
    TI Z g Al vs (grownN N w w') ov x w' := by
  have hR : ∀ r, Z.R x r ∨ Z.I r ≠ none → butOrder v oa r := fun r hr => hr.elim (fun hr => ⟨fun e => H.apart r hr (e ▸ h.aod.n), fun y hy e => H.apart r hr (e ▸ (h.arow y hy).n)⟩) fun hr => ⟨fun e => hr (e ▸ h.aod.inp), fun y hy e => hr (e ▸ (h.arow y hy).inp)⟩
  have h1 := H.gd zok hN.1 (fun j hj => ⟨(h.aod.st j hj).symm, fun y hy => (h.arow y hy).st j hj⟩) (fun hn => ⟨h.aod.br.symm, fun y hy => (h.arow y hy).br⟩)
    (fun j hj => ⟨⟨(h.aod.vars j hj).1.symm, fun y hy => ((h.arow y hy).vars j hj).1⟩, ⟨(h.aod.vars j hj).2.1.symm, fun y hy => ((h.arow y hy).vars j hj).2.1⟩, ⟨(h.aod.vars j hj).2.2.symm, fun y hy => ((h.arow y hy).vars j hj).2.2⟩⟩) hR
  exact H.grown zok h1
theorem K_noted (H : TI Z g Al vs N ov x w) (hK : g.K w) (h : MI Z g vs Al N v base M oa ol oc xs lf w) (hg : Gd (FT (butOrder v oa) w) w w') : g.K w' :=
  ⟨fun a u p => ft_keep hg (hK a u p) ⟨(h.aod.place a u p).symm, fun y hy => (h.arow y hy).place a u p⟩, hK.an.gd hg⟩
theorem bo_held (hK : g.K w) (h : MI Z g vs Al N v base M oa ol oc xs lf w) : ∀ a u, g.Place a u → held (FT (butOrder v oa) w) a :=
  fun a u p => ft_held (hK a u p) ⟨(h.aod.place a u p).symm, fun y hy => (h.arow y hy).place a u p⟩
end Go.Proofs.Ytcejbandeikdjaa
namespace Go.Proofs.Ytcejbandeikdjaa
open Go Go.Conc Go.RowKit Go.Proofs
open Go.ConcN (sumTo upd sumTo_upd upd_ne upd_same)
variable {g : Gate} {F : Fz} {Z : Users} {A : Nat → Bool} {vs : Nat → Vars} {N B : Nat → Prop} {ov : Nat → Bool} {x : Z.X} {w w' : World} {s0 nn : Nat} {Gl : Machine → Trace → Prop} {v : Mine} {base M : Nat} {oa : Option Addr} {ol oc : Nat} {xs : List Value} {lf : Nat}
theorem MI.at {Al : Nat → Prop} (h : MI Z g vs Al N v base M oa ol oc xs lf w) (d : Nat) : MI Z g vs Al N v base M oa ol oc xs lf (w.at d) :=
  ⟨h.n.at d, h.mo.at d, h.lf.at d, h.od, h.row, h.an, h.amo, h.alf, h.aod, h.arow, h.dn, h.drow, h.base⟩
theorem TI.setLf {Al : Nat → Prop} {b : Nat} {u : Value} (zok : Z.Ok g) (H : TI Z g Al vs N ov x w) (ha : Alone Z g vs Al N b) : TI Z g Al vs N ov x (w.setCell ⟨b, 0, none⟩ u) := by
  have hL : ∀ a v, Lies w a v → a.block ≠ b → Lies (w.setCell ⟨b, 0, none⟩ u) a v := fun a v h h1 => h.setCell (.inl (Ne.symm h1)) rfl
  refine ⟨zok.stable x w _ H.u (by simp) (fun r hr => heap_setCell_ne _ _ _ (hr.elim (fun hr e => H.apart r hr (e ▸ ha.n)) fun hr e => hr (e ▸ ha.inp))), fun j hj => hL _ _ (H.over j hj) (ha.st j hj).symm, fun j hj => (H.brk j hj).imp fun _ h => hL _ _ h (Ne.symm ha.br), fun j hj => (H.vars j hj).of fun a u h e => hL a u h ?_,
    fun c hc => ?_, H.apart, fun r h => by simpa using H.nlow r h, H.nplace, H.nst, H.nbr, H.nvars, H.nchan, H.vsep, H.inp⟩
  · obtain ⟨h1, h2, h3⟩ := ha.vars j hj
    rcases e with e | e | e <;> rw [e] <;> first | exact Ne.symm h1 | exact Ne.symm h2 | exact Ne.symm h3
  · obtain ⟨cap, k, h⟩ := H.chans c hc
    by_cases e : c = b
    · subst e
      exact ⟨cap, k, by simp [World.setCell, Array.getElem?_modify, h]⟩
    · exact ⟨cap, k, (heap_setCell_ne _ _ _ e).trans h⟩
theorem MI.setLf {Al : Nat → Prop} {l1 : Nat} (h : MI Z g vs Al N v base M oa ol oc xs lf w) : MI Z g vs Al N v base M oa ol oc xs l1 (w.setCell ⟨v.lf, 0, none⟩ (.int .i64 l1)) := by
  obtain ⟨d1, d2, d3, d4, d5⟩ := h.dn
  obtain ⟨c, h1, h2⟩ := h.od
  refine ⟨h.n.setCell (.inl d4) rfl, h.mo.setCell (.inl d5) rfl, h.lf.put, ⟨c, (heap_setCell_ne _ _ _ (Ne.symm d3)).trans h1, h2⟩, ownsRow_same h.row fun b hb => heap_setCell_ne _ _ _ ?_, h.an, h.amo, h.alf, h.aod, h.arow, h.dn, h.drow, by simpa using h.base⟩
  cases oa with
  | none => cases hb
  | some y =>
    simp only [Value.ownBlock, Option.some.injEq] at hb
    subst hb
    exact (h.drow _ rfl).2.2
theorem tok_step [ok : Fits g] (zok : Z.Ok g) (hs0 : 0 < s0) (hAn : ∀ j, A j = true → j < g.n ∧ s0 + j < nn) {i : Nat} (hA : A i = true) (hl : Z.liv x i = true) (H : TI Z g (fun j => A j = true) vs N ov x w) (hov : ov i = false)
    (HM : MI Z g vs (fun j => A j = true) N v base M oa ol oc xs lf w) (hM : ol ≠ M) (hol : ol < 2000000) (hlf : 0 < lf) (hlf2 : lf < 1000000) {ms : Option Seat} {c : Frame} {cs : List Frame}
    (hk : ∀ y w' N' oa' oc' ms', Z.stp x i y → TI Z g (fun j => (A j && (j != i || Z.liv y i)) = true) vs N' (fun j => if j = i then !Z.liv y i else ov j) y w' →
      MI Z g vs (fun j => (A j && (j != i || Z.liv y i)) = true) N' v base M oa' (ol + 1) oc' (xs ++ [.int .i64 i]) (if Z.liv y i then lf else lf - 1) w' →
      Tok Try.prog g.K g.Still g.top Gl (inb Z g s0 (fun j => A j && (j != i || Z.liv y i)) vs ms' y) 0 nn (G (c.finish (.tuple #[])) cs) w') :
    Tok Try.prog g.K g.Still g.top Gl (inb Z g s0 A vs ms x) 0 nn (G (Frame.enter Try.prog 71 (step1Args g v i) .normal) (c :: cs)) w := by
  obtain ⟨hin, hnn⟩ := hAn i hA
  have hiH : Has g i := ⟨hin⟩
  have hn0 : 0 < g.n := by omega
  refine tok_intro fun _ hK _ => ?_
  have ho := H.over i hin
  rw [hov] at ho
  obtain ⟨cod, hod1, hod2⟩ := HM.od
  refine tok_own (F := FK g) (Stop := fun a u => a = G ((Go.Conc.base 71).at (step1At g v i oa ol oc M) [.code step1App, .code step1Rest]) (c :: cs) ∧ ∃ d, u = w.at d) K_at fk_covers fk_K
    (step1_go hK HM.n ho ⟨⟨cod, _, hod1, hod2⟩, rfl⟩ HM.mo hM (.stop fun d => ⟨rfl, d, rfl⟩)) fun g' w0 d hS => ?_
  obtain ⟨rfl, d', e⟩ := hS d
  rw [e]
  have H0 := H.at zok d'
  have HM0 : MI Z g vs (fun j => A j = true) N v base M oa ol oc xs lf (w.at d') := HM.kept hin hA (Kept.at w d')
  have hK0 := hK.at d'
  clear e hK ho H HM hod1 hod2 hS
  generalize w.at d' = w at *
  refine tok_own (F := FT (butOrder v oa) w) K_at (Gate.covers (bo_held hK0 HM0)) (fun w1 w2 hg h => h.gd (bo_held hK0 HM0) hg) (own_app HM0.base HM0.od HM0.row hol (cs := c :: cs)) fun g' w0 d hS => ?_
  have hN := hS d
  generalize w0.at d = w1 at *
  obtain ⟨b, nv, oa', oc', rfl, rfl, HM1⟩ := MI.noted zok H0 hn0 hK0 HM0 hN
  have H1 := H0.noted zok HM0 hN
  have hK1 := K_noted H0 hK0 HM0 hN.1
  clear hS hN H0 HM0 hK0
  generalize grownN N w w1 = N1 at *
  refine tok_silent (b := G (Frame.enter Try.prog 72 #[.pointer (some ⟨g.tb, 0, none⟩), .int .i64 i, .bool true] .normal) (step1Fr g v i oa ol oc M b (.slice oa' (ol + 1) oc') :: c :: cs)) (step1_call hK1 (.stop fun d => ⟨rfl, d, rfl⟩)) fun d => ?_
  have H2 := H1.at zok d
  have HM2 := HM1.kept hin hA (Kept.at w1 d)
  clear H1 HM1 hK1
  generalize w1.at d = w2 at *
  refine tok_let zok hs0 hAn hA hl H2 hov fun y w3 hy H3 k3 => ?_
  have HM3 := (HM2.kept hin hA k3).mono (Al' := fun j => (A j && (j != i || Z.liv y i)) = true) fun j hj => by
    simp only [Bool.and_eq_true] at hj; exact hj.1
  refine tok_intro fun _ hK3 _ => ?_
  have ho3 := H3.over i hin
  rw [if_pos rfl] at ho3
  rcases Bool.eq_false_or_eq_true (Z.liv y i) with hlv | hlv
  · skip
    rw [hlv] at ho3
    refine tok_silent (b := G (c.finish (.tuple #[])) cs) (step1_more hK3 ho3 (.stop fun d => ⟨rfl, d, rfl⟩)) fun d => ?_
    have := hk y (w3.at d) N1 oa' oc' (some (backSeat g (letAt g i true (step1Fr g v i oa ol oc M b (.slice oa' (ol + 1) oc') :: c :: cs)))) hy (H3.at zok d)
    refine this ?_
    rw [if_pos hlv]
    exact HM3.at d
  · rw [hlv] at ho3
    obtain ⟨l1, rfl⟩ : ∃ l1, lf = l1 + 1 := ⟨lf - 1, by omega⟩
    have hnh : ¬ held (FK g) ⟨v.lf, 0, none⟩ := not_held' (fk_none (fun j hj => HM3.alf.st j hj) fun a u p => HM3.alf.place a u p)
    refine tok_own (F := FK g) (Stop := fun a u => a = G (c.finish (.tuple #[])) cs ∧ ∃ d, u = (w3.setCell ⟨v.lf, 0, none⟩ (.int .i64 l1)).at d) K_at fk_covers fk_K
      (step1_less hK3 ho3 HM3.lf (by omega) hnh (.stop fun d => ⟨rfl, d, rfl⟩)) fun g' w0 d hS => ?_
    obtain ⟨rfl, d', e⟩ := hS d
    rw [e]
    have := hk y ((w3.setCell ⟨v.lf, 0, none⟩ (.int .i64 l1)).at d') N1 oa' oc' (some (backSeat g (letAt g i true (step1Fr g v i oa ol oc M b (.slice oa' (ol + 1) oc') :: c :: cs)))) hy ((H3.setLf zok HM3.alf).at zok d')
    refine this ?_
    rw [if_neg (by simp [hlv])]
    exact HM3.setLf.at d'
end Go.Proofs.Ytcejbandeikdjaa
namespace Go.Proofs.Ytcejbandeikdjaa
open Go Go.Conc Go.RowKit Go.Proofs
section
variable {P : Program} (w : World) (es : Array Event)
@[go_sem] theorem ev_max_int2 (ts : Array TypeId) (t : TypeId) (k k' : IntKind) (x y : Int) : (Builtin.max_ ts t #[.int k x, .int k' y]).events P w es = es := by simp [Builtin.max_, Builtin.max2]
@[go_sem] theorem ev_min_int2 (ts : Array TypeId) (t : TypeId) (k k' : IntKind) (x y : Int) : (Builtin.min_ ts t #[.int k x, .int k' y]).events P w es = es := by simp [Builtin.min_, Builtin.min2]
end
end Go.Proofs.Ytcejbandeikdjaa
namespace Go.Proofs.Ytcejbandeikdjaa
open Go Go.Conc Go.RowKit Go.Proofs
noncomputable def ovBody : Code := Try.f62.body.getD .skip
noncomputable def ovs0 : Code := Code.piece [] ovBody
noncomputable def ovr0 : Code := Code.piece [true] ovBody
noncomputable def ovo0 : Array Oper := Code.opsOf ovr0
noncomputable def ovs1 : Code := Code.piece [false] ovBody
noncomputable def ovr1 : Code := Code.piece [false, true] ovBody
noncomputable def ovo1 : Array Oper := Code.opsOf ovr1
noncomputable def ovs2 : Code := Code.piece [false, false] ovBody
noncomputable def ovr2 : Code := Code.piece [false, false, true] ovBody
noncomputable def ovo2 : Array Oper := Code.opsOf ovr2
noncomputable def ovs3 : Code := Code.piece [false, false, false] ovBody
noncomputable def ovr3 : Code := Code.piece [false, false, false, true] ovBody
noncomputable def ovo3 : Array Oper := Code.opsOf ovr3
noncomputable def ovs4 : Code := Code.piece [false, false, false, false] ovBody
noncomputable def ovs5 : Code := Code.piece [false, false, false, false, true] ovBody
noncomputable def ovr4 : Code := Code.piece [false, false, false, false, true, true] ovBody
noncomputable def ovo4 : Array Oper := Code.opsOf ovr4
noncomputable def ovb0 : Code := Code.piece [false, false, false, false, true, false] ovBody
noncomputable def ovl6 : Code := Code.piece [false, false, false, false, true, false, true] ovBody
noncomputable def ovs7 : Code := Code.piece [false, false, false, false, true, false, true, true] ovBody
noncomputable def ovr5 : Code := Code.piece [false, false, false, false, true, false, true, true, true] ovBody
noncomputable def ovo5 : Array Oper := Code.opsOf ovr5
noncomputable def ovs8 : Code := Code.piece [false, false, false, false, true, false, true, true, false] ovBody
noncomputable def ovc31 : Code := Code.piece [false, false, false, false, true, false, true, true, false, true] ovBody
noncomputable def ovs9 : Code := Code.piece [false, false, false, false, true, false, true, true, false, false] ovBody
noncomputable def ovb1 : Code := Code.piece [false, false, false, false, true, false, true, true, false, false, true] ovBody
noncomputable def ovr6 : Code := Code.piece [false, false, false, false, true, false, true, true, false, false, true, true] ovBody
noncomputable def ovo6 : Array Oper := Code.opsOf ovr6
noncomputable def ovr7 : Code := Code.piece [false, false, false, false, true, false, true, true, false, false, false] ovBody
noncomputable def ovo7 : Array Oper := Code.opsOf ovr7
noncomputable def ovs10 : Code := Code.piece [false, false, false, false, false] ovBody
noncomputable def ovr8 : Code := Code.piece [false, false, false, false, false, true] ovBody
noncomputable def ovo8 : Array Oper := Code.opsOf ovr8
noncomputable def ovs11 : Code := Code.piece [false, false, false, false, false, false] ovBody
noncomputable def ovs12 : Code := Code.piece [false, false, false, false, false, false, true] ovBody
noncomputable def ovr9 : Code := Code.piece [false, false, false, false, false, false, true, true] ovBody
noncomputable def ovo9 : Array Oper := Code.opsOf ovr9
noncomputable def ovb2 : Code := Code.piece [false, false, false, false, false, false, true, false] ovBody
noncomputable def ovl13 : Code := Code.piece [false, false, false, false, false, false, true, false, true] ovBody
noncomputable def ovs14 : Code := Code.piece [false, false, false, false, false, false, true, false, true, true] ovBody
noncomputable def ovr10 : Code := Code.piece [false, false, false, false, false, false, true, false, true, true, true] ovBody
noncomputable def ovo10 : Array Oper := Code.opsOf ovr10
noncomputable def ovs15 : Code := Code.piece [false, false, false, false, false, false, true, false, true, true, false] ovBody
noncomputable def ovc48 : Code := Code.piece [false, false, false, false, false, false, true, false, true, true, false, true] ovBody
noncomputable def ovs16 : Code := Code.piece [false, false, false, false, false, false, true, false, true, true, false, false] ovBody
noncomputable def ovb3 : Code := Code.piece [false, false, false, false, false, false, true, false, true, true, false, false, true] ovBody
noncomputable def ovs17 : Code := Code.piece [false, false, false, false, false, false, true, false, true, true, false, false, true, true] ovBody
noncomputable def ovr11 : Code := Code.piece [false, false, false, false, false, false, true, false, true, true, false, false, true, true, true] ovBody
noncomputable def ovo11 : Array Oper := Code.opsOf ovr11
noncomputable def ovs18 : Code := Code.piece [false, false, false, false, false, false, true, false, true, true, false, false, true, true, false] ovBody
noncomputable def ovr12 : Code := Code.piece [false, false, false, false, false, false, true, false, true, true, false, false, true, true, false, true] ovBody
noncomputable def ovo12 : Array Oper := Code.opsOf ovr12
noncomputable def ovs19 : Code := Code.piece [false, false, false, false, false, false, true, false, true, true, false, false, true, true, false, false] ovBody
noncomputable def ovr13 : Code := Code.piece [false, false, false, false, false, false, true, false, true, true, false, false, true, true, false, false, true] ovBody
noncomputable def ovo13 : Array Oper := Code.opsOf ovr13
noncomputable def ovs20 : Code := Code.piece [false, false, false, false, false, false, true, false, true, true, false, false, true, true, false, false, false] ovBody
noncomputable def ovr14 : Code := Code.piece [false, false, false, false, false, false, true, false, true, true, false, false, true, true, false, false, false, true] ovBody
noncomputable def ovo14 : Array Oper := Code.opsOf ovr14
noncomputable def ovc71 : Code := Code.piece [false, false, false, false, false, false, true, false, true, true, false, false, true, true, false, false, false, false] ovBody
noncomputable def ovr15 : Code := Code.piece [false, false, false, false, false, false, true, false, true, true, false, false, true, true, false, false, false, false, true] ovBody
noncomputable def ovo15 : Array Oper := Code.opsOf ovr15
noncomputable def ovr16 : Code := Code.piece [false, false, false, false, false, false, true, false, true, true, false, false, false] ovBody
noncomputable def ovo16 : Array Oper := Code.opsOf ovr16
noncomputable def ovs21 : Code := Code.piece [false, false, false, false, false, false, false] ovBody
noncomputable def ovr17 : Code := Code.piece [false, false, false, false, false, false, false, true] ovBody
noncomputable def ovo17 : Array Oper := Code.opsOf ovr17
noncomputable def ovs22 : Code := Code.piece [false, false, false, false, false, false, false, false] ovBody
noncomputable def ovs23 : Code := Code.piece [false, false, false, false, false, false, false, false, true] ovBody
noncomputable def ovr18 : Code := Code.piece [false, false, false, false, false, false, false, false, true, true] ovBody
noncomputable def ovo18 : Array Oper := Code.opsOf ovr18
noncomputable def ovb4 : Code := Code.piece [false, false, false, false, false, false, false, false, true, false] ovBody
noncomputable def ovl24 : Code := Code.piece [false, false, false, false, false, false, false, false, true, false, true] ovBody
noncomputable def ovs25 : Code := Code.piece [false, false, false, false, false, false, false, false, true, false, true, true] ovBody
noncomputable def ovr19 : Code := Code.piece [false, false, false, false, false, false, false, false, true, false, true, true, true] ovBody
noncomputable def ovo19 : Array Oper := Code.opsOf ovr19
noncomputable def ovs26 : Code := Code.piece [false, false, false, false, false, false, false, false, true, false, true, true, false] ovBody
noncomputable def ovc79 : Code := Code.piece [false, false, false, false, false, false, false, false, true, false, true, true, false, true] ovBody
noncomputable def ovs27 : Code := Code.piece [false, false, false, false, false, false, false, false, true, false, true, true, false, false] ovBody
noncomputable def ovb5 : Code := Code.piece [false, false, false, false, false, false, false, false, true, false, true, true, false, false, true] ovBody
noncomputable def ovs28 : Code := Code.piece [false, false, false, false, false, false, false, false, true, false, true, true, false, false, true, true] ovBody
noncomputable def ovr20 : Code := Code.piece [false, false, false, false, false, false, false, false, true, false, true, true, false, false, true, true, true] ovBody
noncomputable def ovo20 : Array Oper := Code.opsOf ovr20
noncomputable def ovr21 : Code := Code.piece [false, false, false, false, false, false, false, false, true, false, true, true, false, false, true, true, false] ovBody
noncomputable def ovo21 : Array Oper := Code.opsOf ovr21
noncomputable def ovr22 : Code := Code.piece [false, false, false, false, false, false, false, false, true, false, true, true, false, false, false] ovBody
noncomputable def ovo22 : Array Oper := Code.opsOf ovr22
noncomputable def ovs29 : Code := Code.piece [false, false, false, false, false, false, false, false, false] ovBody
noncomputable def ovb6 : Code := Code.piece [false, false, false, false, false, false, false, false, false, true] ovBody
noncomputable def ovl30 : Code := Code.piece [false, false, false, false, false, false, false, false, false, true, true] ovBody
noncomputable def ovs31 : Code := Code.piece [false, false, false, false, false, false, false, false, false, true, true, true] ovBody
noncomputable def ovs32 : Code := Code.piece [false, false, false, false, false, false, false, false, false, true, true, true, true] ovBody
noncomputable def ovr23 : Code := Code.piece [false, false, false, false, false, false, false, false, false, true, true, true, true, true] ovBody
noncomputable def ovo23 : Array Oper := Code.opsOf ovr23
noncomputable def ovc93 : Code := Code.piece [false, false, false, false, false, false, false, false, false, true, true, true, true, false] ovBody
noncomputable def ovb7 : Code := Code.piece [false, false, false, false, false, false, false, false, false, true, true, true, false] ovBody
noncomputable def ovs33 : Code := Code.piece [false, false, false, false, false, false, false, false, false, true, true, true, false, true] ovBody
noncomputable def ovr24 : Code := Code.piece [false, false, false, false, false, false, false, false, false, true, true, true, false, true, true] ovBody
noncomputable def ovo24 : Array Oper := Code.opsOf ovr24
noncomputable def ovb8 : Code := Code.piece [false, false, false, false, false, false, false, false, false, true, true, true, false, true, false] ovBody
noncomputable def ovl34 : Code := Code.piece [false, false, false, false, false, false, false, false, false, true, true, true, false, true, false, true] ovBody
noncomputable def ovs35 : Code := Code.piece [false, false, false, false, false, false, false, false, false, true, true, true, false, true, false, true, true] ovBody
noncomputable def ovr25 : Code := Code.piece [false, false, false, false, false, false, false, false, false, true, true, true, false, true, false, true, true, true] ovBody
noncomputable def ovo25 : Array Oper := Code.opsOf ovr25
noncomputable def ovs36 : Code := Code.piece [false, false, false, false, false, false, false, false, false, true, true, true, false, true, false, true, true, false] ovBody
noncomputable def ovc96 : Code := Code.piece [false, false, false, false, false, false, false, false, false, true, true, true, false, true, false, true, true, false, true] ovBody
noncomputable def ovs37 : Code := Code.piece [false, false, false, false, false, false, false, false, false, true, true, true, false, true, false, true, true, false, false] ovBody
noncomputable def ovb9 : Code := Code.piece [false, false, false, false, false, false, false, false, false, true, true, true, false, true, false, true, true, false, false, true] ovBody
noncomputable def ovs38 : Code := Code.piece [false, false, false, false, false, false, false, false, false, true, true, true, false, true, false, true, true, false, false, true, true] ovBody
noncomputable def ovr26 : Code := Code.piece [false, false, false, false, false, false, false, false, false, true, true, true, false, true, false, true, true, false, false, true, true, true] ovBody
noncomputable def ovo26 : Array Oper := Code.opsOf ovr26
noncomputable def ovr27 : Code := Code.piece [false, false, false, false, false, false, false, false, false, true, true, true, false, true, false, true, true, false, false, true, true, false] ovBody
noncomputable def ovo27 : Array Oper := Code.opsOf ovr27
noncomputable def ovr28 : Code := Code.piece [false, false, false, false, false, false, false, false, false, true, true, true, false, true, false, true, true, false, false, false] ovBody
noncomputable def ovo28 : Array Oper := Code.opsOf ovr28
noncomputable def ovs39 : Code := Code.piece [false, false, false, false, false, false, false, false, false, false] ovBody
noncomputable def ovr29 : Code := Code.piece [false, false, false, false, false, false, false, false, false, false, true] ovBody
noncomputable def ovo29 : Array Oper := Code.opsOf ovr29
noncomputable def ovs40 : Code := Code.piece [false, false, false, false, false, false, false, false, false, false, false] ovBody
noncomputable def ovs41 : Code := Code.piece [false, false, false, false, false, false, false, false, false, false, false, true] ovBody
noncomputable def ovr30 : Code := Code.piece [false, false, false, false, false, false, false, false, false, false, false, true, true] ovBody
noncomputable def ovo30 : Array Oper := Code.opsOf ovr30
noncomputable def ovb10 : Code := Code.piece [false, false, false, false, false, false, false, false, false, false, false, true, false] ovBody
noncomputable def ovl42 : Code := Code.piece [false, false, false, false, false, false, false, false, false, false, false, true, false, true] ovBody
noncomputable def ovs43 : Code := Code.piece [false, false, false, false, false, false, false, false, false, false, false, true, false, true, true] ovBody
noncomputable def ovr31 : Code := Code.piece [false, false, false, false, false, false, false, false, false, false, false, true, false, true, true, true] ovBody
noncomputable def ovo31 : Array Oper := Code.opsOf ovr31
noncomputable def ovs44 : Code := Code.piece [false, false, false, false, false, false, false, false, false, false, false, true, false, true, true, false] ovBody
noncomputable def ovc110 : Code := Code.piece [false, false, false, false, false, false, false, false, false, false, false, true, false, true, true, false, true] ovBody
noncomputable def ovs45 : Code := Code.piece [false, false, false, false, false, false, false, false, false, false, false, true, false, true, true, false, false] ovBody
noncomputable def ovb11 : Code := Code.piece [false, false, false, false, false, false, false, false, false, false, false, true, false, true, true, false, false, true] ovBody
noncomputable def ovs46 : Code := Code.piece [false, false, false, false, false, false, false, false, false, false, false, true, false, true, true, false, false, true, true] ovBody
noncomputable def ovr32 : Code := Code.piece [false, false, false, false, false, false, false, false, false, false, false, true, false, true, true, false, false, true, true, true] ovBody
noncomputable def ovo32 : Array Oper := Code.opsOf ovr32
noncomputable def ovs47 : Code := Code.piece [false, false, false, false, false, false, false, false, false, false, false, true, false, true, true, false, false, true, true, false] ovBody
noncomputable def ovr33 : Code := Code.piece [false, false, false, false, false, false, false, false, false, false, false, true, false, true, true, false, false, true, true, false, true] ovBody
noncomputable def ovo33 : Array Oper := Code.opsOf ovr33
noncomputable def ovc118 : Code := Code.piece [false, false, false, false, false, false, false, false, false, false, false, true, false, true, true, false, false, true, true, false, false] ovBody
noncomputable def ovr34 : Code := Code.piece [false, false, false, false, false, false, false, false, false, false, false, true, false, true, true, false, false, true, true, false, false, true] ovBody
noncomputable def ovo34 : Array Oper := Code.opsOf ovr34
noncomputable def ovr35 : Code := Code.piece [false, false, false, false, false, false, false, false, false, false, false, true, false, true, true, false, false, false] ovBody
noncomputable def ovo35 : Array Oper := Code.opsOf ovr35
noncomputable def ovs48 : Code := Code.piece [false, false, false, false, false, false, false, false, false, false, false, false] ovBody
noncomputable def ovr36 : Code := Code.piece [false, false, false, false, false, false, false, false, false, false, false, false, true] ovBody
noncomputable def ovo36 : Array Oper := Code.opsOf ovr36
theorem ovs0_eq : ovs0 = .seq ovr0 ovs1 := by kernel_rfl
theorem ovr0_eq : ovr0 = .region 0 ovo0 false := by kernel_rfl
theorem ovs1_eq : ovs1 = .seq ovr1 ovs2 := by kernel_rfl
theorem ovr1_eq : ovr1 = .region 1 ovo1 false := by kernel_rfl
theorem ovs2_eq : ovs2 = .seq ovr2 ovs3 := by kernel_rfl
theorem ovr2_eq : ovr2 = .region 2 ovo2 false := by kernel_rfl
theorem ovs3_eq : ovs3 = .seq ovr3 ovs4 := by kernel_rfl
theorem ovr3_eq : ovr3 = .region 3 ovo3 true := by kernel_rfl
theorem ovs4_eq : ovs4 = .seq ovs5 ovs10 := by kernel_rfl
theorem ovs5_eq : ovs5 = .seq ovr4 ovb0 := by kernel_rfl
theorem ovr4_eq : ovr4 = .region 4 ovo4 false := by kernel_rfl
theorem ovb0_eq : ovb0 = .block 0 ovl6 := by kernel_rfl
theorem ovl6_eq : ovl6 = .loop ovs7 := by kernel_rfl
theorem ovs7_eq : ovs7 = .seq ovr5 ovs8 := by kernel_rfl
theorem ovr5_eq : ovr5 = .region 5 ovo5 false := by kernel_rfl
theorem ovs8_eq : ovs8 = .seq ovc31 ovs9 := by kernel_rfl
theorem ovc31_eq : ovc31 = .cond (.tmp 31) .skip (.exit 0) := by kernel_rfl
theorem ovs9_eq : ovs9 = .seq ovb1 ovr7 := by kernel_rfl
theorem ovb1_eq : ovb1 = .block 1 ovr6 := by kernel_rfl
theorem ovr6_eq : ovr6 = .region 6 ovo6 true := by kernel_rfl
theorem ovr7_eq : ovr7 = .region 7 ovo7 false := by kernel_rfl
theorem ovs10_eq : ovs10 = .seq ovr8 ovs11 := by kernel_rfl
theorem ovr8_eq : ovr8 = .region 8 ovo8 false := by kernel_rfl
theorem ovs11_eq : ovs11 = .seq ovs12 ovs21 := by kernel_rfl
theorem ovs12_eq : ovs12 = .seq ovr9 ovb2 := by kernel_rfl
theorem ovr9_eq : ovr9 = .region 9 ovo9 false := by kernel_rfl
theorem ovb2_eq : ovb2 = .block 2 ovl13 := by kernel_rfl
theorem ovl13_eq : ovl13 = .loop ovs14 := by kernel_rfl
theorem ovs14_eq : ovs14 = .seq ovr10 ovs15 := by kernel_rfl
theorem ovr10_eq : ovr10 = .region 10 ovo10 false := by kernel_rfl
theorem ovs15_eq : ovs15 = .seq ovc48 ovs16 := by kernel_rfl
theorem ovc48_eq : ovc48 = .cond (.tmp 48) .skip (.exit 2) := by kernel_rfl
theorem ovs16_eq : ovs16 = .seq ovb3 ovr16 := by kernel_rfl
theorem ovb3_eq : ovb3 = .block 3 ovs17 := by kernel_rfl
theorem ovs17_eq : ovs17 = .seq ovr11 ovs18 := by kernel_rfl
theorem ovr11_eq : ovr11 = .region 11 ovo11 false := by kernel_rfl
theorem ovs18_eq : ovs18 = .seq ovr12 ovs19 := by kernel_rfl
theorem ovr12_eq : ovr12 = .region 12 ovo12 true := by kernel_rfl
theorem ovs19_eq : ovs19 = .seq ovr13 ovs20 := by kernel_rfl
theorem ovr13_eq : ovr13 = .region 13 ovo13 false := by kernel_rfl
theorem ovs20_eq : ovs20 = .seq ovr14 ovc71 := by kernel_rfl
theorem ovr14_eq : ovr14 = .region 14 ovo14 false := by kernel_rfl
theorem ovc71_eq : ovc71 = .cond (.tmp 71) ovr15 .skip := by kernel_rfl
theorem ovr15_eq : ovr15 = .region 15 ovo15 false := by kernel_rfl
theorem ovr16_eq : ovr16 = .region 16 ovo16 false := by kernel_rfl
theorem ovs21_eq : ovs21 = .seq ovr17 ovs22 := by kernel_rfl
theorem ovr17_eq : ovr17 = .region 17 ovo17 false := by kernel_rfl
theorem ovs22_eq : ovs22 = .seq ovs23 ovs29 := by kernel_rfl
theorem ovs23_eq : ovs23 = .seq ovr18 ovb4 := by kernel_rfl
theorem ovr18_eq : ovr18 = .region 18 ovo18 false := by kernel_rfl
theorem ovb4_eq : ovb4 = .block 4 ovl24 := by kernel_rfl
theorem ovl24_eq : ovl24 = .loop ovs25 := by kernel_rfl
theorem ovs25_eq : ovs25 = .seq ovr19 ovs26 := by kernel_rfl
theorem ovr19_eq : ovr19 = .region 19 ovo19 false := by kernel_rfl
theorem ovs26_eq : ovs26 = .seq ovc79 ovs27 := by kernel_rfl
theorem ovc79_eq : ovc79 = .cond (.tmp 79) .skip (.exit 4) := by kernel_rfl
theorem ovs27_eq : ovs27 = .seq ovb5 ovr22 := by kernel_rfl
theorem ovb5_eq : ovb5 = .block 5 ovs28 := by kernel_rfl
theorem ovs28_eq : ovs28 = .seq ovr20 ovr21 := by kernel_rfl
theorem ovr20_eq : ovr20 = .region 20 ovo20 false := by kernel_rfl
theorem ovr21_eq : ovr21 = .region 21 ovo21 false := by kernel_rfl
theorem ovr22_eq : ovr22 = .region 22 ovo22 false := by kernel_rfl
theorem ovs29_eq : ovs29 = .seq ovb6 ovs39 := by kernel_rfl
theorem ovb6_eq : ovb6 = .block 6 ovl30 := by kernel_rfl
theorem ovl30_eq : ovl30 = .loop ovs31 := by kernel_rfl
theorem ovs31_eq : ovs31 = .seq ovs32 ovb7 := by kernel_rfl
theorem ovs32_eq : ovs32 = .seq ovr23 ovc93 := by kernel_rfl
theorem ovr23_eq : ovr23 = .region 23 ovo23 false := by kernel_rfl
theorem ovc93_eq : ovc93 = .cond (.tmp 93) .skip (.exit 6) := by kernel_rfl
theorem ovb7_eq : ovb7 = .block 7 ovs33 := by kernel_rfl
theorem ovs33_eq : ovs33 = .seq ovr24 ovb8 := by kernel_rfl
theorem ovr24_eq : ovr24 = .region 24 ovo24 false := by kernel_rfl
theorem ovb8_eq : ovb8 = .block 8 ovl34 := by kernel_rfl
theorem ovl34_eq : ovl34 = .loop ovs35 := by kernel_rfl
theorem ovs35_eq : ovs35 = .seq ovr25 ovs36 := by kernel_rfl
theorem ovr25_eq : ovr25 = .region 25 ovo25 false := by kernel_rfl
theorem ovs36_eq : ovs36 = .seq ovc96 ovs37 := by kernel_rfl
theorem ovc96_eq : ovc96 = .cond (.tmp 96) .skip (.exit 8) := by kernel_rfl
theorem ovs37_eq : ovs37 = .seq ovb9 ovr28 := by kernel_rfl
theorem ovb9_eq : ovb9 = .block 9 ovs38 := by kernel_rfl
theorem ovs38_eq : ovs38 = .seq ovr26 ovr27 := by kernel_rfl
theorem ovr26_eq : ovr26 = .region 26 ovo26 false := by kernel_rfl
theorem ovr27_eq : ovr27 = .region 27 ovo27 false := by kernel_rfl
theorem ovr28_eq : ovr28 = .region 28 ovo28 false := by kernel_rfl
theorem ovs39_eq : ovs39 = .seq ovr29 ovs40 := by kernel_rfl
theorem ovr29_eq : ovr29 = .region 29 ovo29 false := by kernel_rfl
theorem ovs40_eq : ovs40 = .seq ovs41 ovs48 := by kernel_rfl
theorem ovs41_eq : ovs41 = .seq ovr30 ovb10 := by kernel_rfl
theorem ovr30_eq : ovr30 = .region 30 ovo30 false := by kernel_rfl
theorem ovb10_eq : ovb10 = .block 10 ovl42 := by kernel_rfl
theorem ovl42_eq : ovl42 = .loop ovs43 := by kernel_rfl
theorem ovs43_eq : ovs43 = .seq ovr31 ovs44 := by kernel_rfl
theorem ovr31_eq : ovr31 = .region 31 ovo31 false := by kernel_rfl
theorem ovs44_eq : ovs44 = .seq ovc110 ovs45 := by kernel_rfl
theorem ovc110_eq : ovc110 = .cond (.tmp 110) .skip (.exit 10) := by kernel_rfl
theorem ovs45_eq : ovs45 = .seq ovb11 ovr35 := by kernel_rfl
theorem ovb11_eq : ovb11 = .block 11 ovs46 := by kernel_rfl
theorem ovs46_eq : ovs46 = .seq ovr32 ovs47 := by kernel_rfl
theorem ovr32_eq : ovr32 = .region 32 ovo32 false := by kernel_rfl
theorem ovs47_eq : ovs47 = .seq ovr33 ovc118 := by kernel_rfl
theorem ovr33_eq : ovr33 = .region 33 ovo33 false := by kernel_rfl
theorem ovc118_eq : ovc118 = .cond (.tmp 118) ovr34 .skip := by kernel_rfl
theorem ovr34_eq : ovr34 = .region 34 ovo34 false := by kernel_rfl
theorem ovr35_eq : ovr35 = .region 35 ovo35 false := by kernel_rfl
theorem ovs48_eq : ovs48 = .seq ovr36 .ret := by kernel_rfl
theorem ovr36_eq : ovr36 = .region 36 ovo36 true := by kernel_rfl
end Go.Proofs.Ytcejbandeikdjaa
namespace Go.Proofs.Ytcejbandeikdjaa
open Go Go.Conc Go.RowKit Go.Proofs
open Go.ConcN (sumTo upd sumTo_upd upd_ne upd_same)
variable {g : Gate} {F : Fz} {w w' : World}
def ovT (s : Nat → Value) : Array Value := #[s 0, s 1, s 2, s 3, s 4, s 5, s 6, s 7, s 8, s 9, s 10, s 11, s 12, s 13, s 14, s 15, s 16, s 17, s 18, s 19, s 20, s 21, s 22, s 23, s 24, s 25, s 26, s 27, s 28, s 29, s 30, s 31, s 32, s 33, s 34, s 35, s 36, s 37, s 38, s 39, s 40, s 41, s 42, s 43, s 44, s 45, s 46, s 47, s 48, s 49, s 50, s 51, s 52, s 53, s 54, s 55, s 56, s 57, s 58, s 59, s 60, s 61, s 62, s 63, s 64, s 65, s 66, s 67, s 68, s 69, s 70, s 71, s 72, s 73, s 74, s 75, s 76, s 77, s 78, s 79, s 80, s 81, s 82, s 83, s 84, s 85, s 86, s 87, s 88, s 89, s 90, s 91, s 92, s 93, s 94, s 95, s 96, s 97, s 98, s 99, s 100, s 101, s 102, s 103, s 104, s 105, s 106, s 107, s 108, s 109, s 110, s 111, s 112, s 113, s 114, s 115, s 116, s 117, s 118, s 119, s 120, s 121, s 122, s 123, s 124, s 125, s 126, s 127, s 128]
theorem ovT_of {A : Array Value} (h : A.size = 129) : ∃ s, A = ovT s := by
  obtain ⟨s, hs, _⟩ := arr_lit A h
  exact ⟨s, hs⟩
def ovBase (g : Gate) (v : Mine) : List (Nat × Value) := [(5, .pointer (some ⟨v.mo, 0, none⟩)), (6, .pointer (some ⟨v.od, 0, none⟩)), (8, .slice none 0 0), (9, .pointer (some ⟨v.n, 0, none⟩)), (10, .pointer (some ⟨g.tv, 0, none⟩)), (11, .pointer (some ⟨v.lf, 0, none⟩))]
def ovBirth (g : Gate) (v : Mine) (thr sch : Value) (i : Nat) : List (Nat × Value) := (0, thr) :: (1, sch) :: (7, .bool false) :: (46, .int .i64 g.n) :: (47, .int .i64 i) :: ovBase g v
set_option maxRecDepth 100000 in
set_option maxHeartbeats 2000000 in
theorem ov_b1 [ok : Fits g] {v : Mine} {tb tl tc : Nat} {sch fv : Value} {i : Nat} (hi : i < g.n) (htl : i < tl) (hK : g.K w) (hf : w.cell? ⟨tb, i, none⟩ = some fv) (hfz : w.frozen? ⟨tb, i, none⟩ = false) {A : Array Value} (hA : Slots 129 A (ovBirth g v (.slice (some ⟨tb, 0, none⟩) tl tc) sch i)) {cs : List Frame} {main : Bool} {Stop : Goroutine → World → Prop}
    (h : ∀ A, Slots 129 A ((12, .int .i64 i) :: (50, .pointer (some ⟨g.tb, 0, none⟩)) :: (51, .int .i64 i) :: (55, fv) :: ovBirth g v (.slice (some ⟨tb, 0, none⟩) tl tc) sch i) → Own Try.prog main F Stop (G ((Go.Conc.base 62).at ⟨A, []⟩ [.inRegion ovo12 [6], .code ovs19, .inBlock 3, .code ovr16, .inLoop ovs14, .inBlock 2, .code ovs21]) cs) w) :
    Own Try.prog main F Stop (G ((Go.Conc.base 62).at ⟨A, []⟩ [.code ovs14, .inLoop ovs14, .inBlock 2, .code ovs21]) cs) w := by
  obtain ⟨hsz, h0, h1, h7, h46, h47, h5, h6, h8, h9, h10, h11, _⟩ := hA
  obtain ⟨s, rfl⟩ := ovT_of hsz
  change s 0 = _ at h0
  change s 1 = _ at h1
  change s 7 = _ at h7
  change s 46 = _ at h46
  change s 47 = _ at h47
  change s 5 = _ at h5
  change s 6 = _ at h6
  change s 8 = _ at h8
  change s 9 = _ at h9
  change s 10 = _ at h10
  change s 11 = _ at h11
  clear hsz
  simp only [ovT, h0, h1, h7, h46, h47, h5, h6, h8, h9, h10, h11]
  clear h0 h1 h7 h46 h47 h5 h6 h8 h9 h10 h11
  have hlt : decide ((i : Int) < (g.n : Int)) = true := by simp; omega
  have hlt2 : decide (i < g.n) = true := by simp; omega
  have ct := (hK _ _ .tv).c
  have zt := (hK _ _ .tv).z
  rw [ovs14_eq]
  refine ogS ?_
  rw [ovr10_eq]
  refine ogR ?_
  simp only [ovo10, Code.opsOf, ovr10, Code.piece, ovBody, Try.f62, Option.getD_some, List.size_toArray, List.length_cons, List.length_nil, Nat.reduceAdd, Nat.zero_add, List.range, List.range.loop]
  (refine oW fun dd K hK => ?_; go_simp; refine qT hK ?_; clear hK K)
  refine ogE ?_
  rw [ovs15_eq]
  refine ogS ?_
  rw [ovc48_eq]
  refine ogT ?_
  simp only [if_true]
  refine ogK ?_
  rw [ovs16_eq]
  refine ogS ?_
  rw [ovb3_eq]
  refine ogB ?_
  rw [ovs17_eq]
  refine ogS ?_
  rw [ovr11_eq]
  refine ogR ?_
  simp only [ovo11, Code.opsOf, ovr11, Code.piece, ovBody, Try.f62, Option.getD_some, List.size_toArray, List.length_cons, List.length_nil, Nat.reduceAdd, Nat.zero_add, List.range, List.range.loop]
  (refine oW fun dd K hK => ?_; go_simp; refine qT hK ?_; clear hK K)
  (refine oW fun dd K hK => ?_; go_simp; refine qT hK ?_; clear hK K)
  refine ogE ?_
  rw [ovs18_eq]
  refine ogS ?_
  rw [ovr12_eq]
  refine own_drawn (last := 6) run_mixed (ll_of (by kernel_rfl)) (by decide) ?_
  simp only [ovo12, Code.opsOf, ovr12, Code.piece, ovBody, Try.f62, Option.getD_some, List.size_toArray, List.length_cons, List.length_nil, Nat.reduceAdd, Nat.zero_add, List.range, List.range.loop]
  refine anyL_take (i := 0) (v := .pointer (some ⟨g.tb, 0, none⟩)) rfl rfl (by kernel_rfl) (by kernel_rfl) (by kernel_rfl) (.inl ⟨rfl, fun d => ⟨by simp [go_sem, execOp, Act.eval, *], fun e he => by have hm := mem_listed he; simp [go_sem, execOp, Act.eval, *] at hm; subst hm; exact evT_read _ _⟩⟩) ?_
  walk_nrm
  refine anyL_take (i := 1) (v := .int .i64 i) rfl rfl (by kernel_rfl) (by kernel_rfl) (by kernel_rfl) (.inl ⟨rfl, fun d => ⟨by simp [go_sem, execOp, Act.eval, *], fun e he => by have hm := mem_listed he; simp [go_sem, execOp, Act.eval, *] at hm⟩⟩) ?_
  walk_nrm
  refine anyL_take (i := 2) (v := .slice (some ⟨tb, 0, none⟩) tl tc) rfl rfl (by kernel_rfl) (by kernel_rfl) (by kernel_rfl) (.inl ⟨rfl, fun d => ⟨by simp [go_sem, execOp, Act.eval, *], fun e he => by have hm := mem_listed he; simp [go_sem, execOp, Act.eval, *] at hm⟩⟩) ?_
  walk_nrm
  refine anyL_take (i := 3) (v := .int .i64 i) rfl rfl (by kernel_rfl) (by kernel_rfl) (by kernel_rfl) (.inl ⟨rfl, fun d => ⟨by simp [go_sem, execOp, Act.eval, *], fun e he => by have hm := mem_listed he; simp [go_sem, execOp, Act.eval, *] at hm⟩⟩) ?_
  walk_nrm
  refine anyL_take (i := 4) (v := .pointer (some ⟨tb, i, none⟩)) rfl rfl (by kernel_rfl) (by kernel_rfl) (by kernel_rfl) (.inl ⟨rfl, fun d => ⟨by simp [go_sem, execOp, Act.eval, *], fun e he => by have hm := mem_listed he; simp [go_sem, execOp, Act.eval, *] at hm⟩⟩) ?_
  walk_nrm
  refine anyL_take (i := 5) (v := fv) rfl rfl (by kernel_rfl) (by kernel_rfl) (by kernel_rfl) (.inl ⟨rfl, fun d => ⟨by simp [go_sem, execOp, Act.eval, *], fun e he => by have hm := mem_listed he; simp [go_sem, execOp, Act.eval, *] at hm; subst hm; exact evT_read _ _⟩⟩) ?_
  walk_nrm
  refine anyL_end' (by kernel_rfl) ?_ _
  exact h _ ⟨rfl, rfl, rfl, rfl, rfl, rfl, rfl, rfl, rfl, rfl, rfl, rfl, rfl, rfl, rfl, rfl, trivial⟩
noncomputable def ovGm (cs : List Frame) (A : Array Value) : Goroutine := G ((Go.Conc.base 62).at ⟨A, []⟩ [.inRegion ovo13 [4], .code ovs20, .inBlock 3, .code ovr16, .inLoop ovs14, .inBlock 2, .code ovs21]) cs
set_option maxRecDepth 100000 in
theorem ov_b2 [ok : Fits g] {v : Mine} {thr sch : Value} {i : Nat} {A : Array Value} (hA : Slots 129 A ((12, .int .i64 i) :: ovBirth g v thr sch i)) {cs : List Frame} (w : World) :
    ∃ A2, Slots 129 A2 ((12, .int .i64 i) :: ovBirth g v thr sch i) ∧ Sits Try.prog true g.K g.Still g.top (backSeat g (ovGm cs A2)) 8 (G ((Go.Conc.base 62).at ⟨A, []⟩ [.inRegion ovo12 [], .code ovs19, .inBlock 3, .code ovr16, .inLoop ovs14, .inBlock 2, .code ovs21]) cs) := by
  obtain ⟨hsz, h12, h0, h1, h7, h46, h47, h5, h6, h8, h9, h10, h11, _⟩ := hA
  obtain ⟨s, rfl⟩ := ovT_of hsz
  change s 12 = _ at h12
  change s 0 = _ at h0
  change s 1 = _ at h1
  change s 7 = _ at h7
  change s 46 = _ at h46
  change s 47 = _ at h47
  change s 5 = _ at h5
  change s 6 = _ at h6
  change s 8 = _ at h8
  change s 9 = _ at h9
  change s 10 = _ at h10
  change s 11 = _ at h11
  clear hsz
  simp only [ovT, h12, h0, h1, h7, h46, h47, h5, h6, h8, h9, h10, h11]
  clear h12 h0 h1 h7 h46 h47 h5 h6 h8 h9 h10 h11
  refine ⟨#[thr, sch, s 2, s 3, s 4, .pointer (some ⟨v.mo, 0, none⟩), .pointer (some ⟨v.od, 0, none⟩), .bool false, .slice none 0 0, .pointer (some ⟨v.n, 0, none⟩), .pointer (some ⟨g.tv, 0, none⟩), .pointer (some ⟨v.lf, 0, none⟩), .int .i64 i, s 13, s 14, s 15, s 16, s 17, s 18, s 19, s 20, s 21, s 22, s 23, s 24, s 25, s 26, s 27, s 28, s 29, s 30, s 31, s 32, s 33, s 34, s 35, s 36, s 37, s 38, s 39, s 40, s 41, s 42, s 43, s 44, s 45, .int .i64 g.n, .int .i64 i, s 48, s 49, s 50, s 51, s 52, s 53, s 54, s 55, .pointer (some ⟨g.tb, 0, none⟩), .pointer (some ⟨g.tb, 0, none⟩), .pointer (some ⟨g.tb, 0, none⟩), .chan (some g.bk), s 60, s 61, s 62, s 63, s 64, s 65, s 66, s 67, s 68, s 69, s 70, s 71, s 72, s 73, s 74, s 75, s 76, s 77, s 78, s 79, s 80, s 81, s 82, s 83, s 84, s 85, s 86, s 87, s 88, s 89, s 90, s 91, s 92, s 93, s 94, s 95, s 96, s 97, s 98, s 99, s 100, s 101, s 102, s 103, s 104, s 105, s 106, s 107, s 108, s 109, s 110, s 111, s 112, s 113, s 114, s 115, s 116, s 117, s 118, s 119, s 120, s 121, s 122, s 123, s 124, s 125, s 126, s 127, s 128], ⟨rfl, rfl, rfl, rfl, rfl, rfl, rfl, rfl, rfl, rfl, rfl, rfl, rfl, trivial⟩, .inl ⟨7, w, rfl, ?_⟩⟩
  k_c stepG_region_end
  rw [ovs19_eq]
  k_c stepG_seq
  rw [ovr13_eq]
  simp only [ovo13, Code.opsOf, ovr13, Code.piece, ovBody, Try.f62, Option.getD_some, List.size_toArray, List.length_cons, List.length_nil, Nat.reduceAdd, Nat.zero_add, List.range, List.range.loop]
  k_reg
  k_ld [(Gate.K.lies h₁ _ _ .tv).c, (Gate.K.lies h₁ _ _ .tv).z] (Gate.still .tv)
  (k_in; refine goes_oper_k rfl rfl (by decide) (fun K hK => ?_); go_simp; refine hK _ _ ⟨⟨rfl, fun e he => by (have hm := mem_listed he; simp [go_sem] at hm)⟩, ?_⟩; clear hK K)
  (k_in; refine goes_oper_k rfl rfl (by decide) (fun K hK => ?_); go_simp; refine hK _ _ ⟨⟨rfl, fun e he => by (have hm := mem_listed he; simp [go_sem] at hm)⟩, ?_⟩; clear hK K)
  k_ld [(Gate.K.lies h₁ _ _ .back).c, (Gate.K.lies h₁ _ _ .back).z] (Gate.still .back)
  refine fun _ _ => ⟨_, atIn_of (s := backSeat g (ovGm cs #[thr, sch, s 2, s 3, s 4, .pointer (some ⟨v.mo, 0, none⟩), .pointer (some ⟨v.od, 0, none⟩), .bool false, .slice none 0 0, .pointer (some ⟨v.n, 0, none⟩), .pointer (some ⟨g.tv, 0, none⟩), .pointer (some ⟨v.lf, 0, none⟩), .int .i64 i, s 13, s 14, s 15, s 16, s 17, s 18, s 19, s 20, s 21, s 22, s 23, s 24, s 25, s 26, s 27, s 28, s 29, s 30, s 31, s 32, s 33, s 34, s 35, s 36, s 37, s 38, s 39, s 40, s 41, s 42, s 43, s 44, s 45, .int .i64 g.n, .int .i64 i, s 48, s 49, s 50, s 51, s 52, s 53, s 54, s 55, .pointer (some ⟨g.tb, 0, none⟩), .pointer (some ⟨g.tb, 0, none⟩), .pointer (some ⟨g.tb, 0, none⟩), .chan (some g.bk), s 60, s 61, s 62, s 63, s 64, s 65, s 66, s 67, s 68, s 69, s 70, s 71, s 72, s 73, s 74, s 75, s 76, s 77, s 78, s 79, s 80, s 81, s 82, s 83, s 84, s 85, s 86, s 87, s 88, s 89, s 90, s 91, s 92, s 93, s 94, s 95, s 96, s 97, s 98, s 99, s 100, s 101, s 102, s 103, s 104, s 105, s 106, s 107, s 108, s 109, s 110, s 111, s 112, s 113, s 114, s 115, s 116, s 117, s 118, s 119, s 120, s 121, s 122, s 123, s 124, s 125, s 126, s 127, s 128])) rfl rfl (by decide) (fun w => by simp [go_sem, execOp, rcase, Act.eval, backSeat, Seat.one]) (fun w => by simp [go_sem, execOp, Act.eval]) ?_⟩
  rfl
set_option maxRecDepth 100000 in
theorem ov_b3 [ok : Fits g] {v : Mine} {thr sch : Value} {i : Nat} [hi : Has g i] (hn64 : g.n ≤ 64) (hK : g.K w) (ho : Lies w ⟨g.st i, 2, none⟩ (.bool false)) {lf : Nat} (hl : Lies w ⟨v.lf, 0, none⟩ (.int .i64 lf)) (hlf : lf < 1000000) (hnh : ¬ held F ⟨v.lf, 0, none⟩) {A : Array Value} (hA : Slots 129 A ((12, .int .i64 i) :: ovBirth g v thr sch i)) {cs : List Frame} {main : Bool} {Stop : Goroutine → World → Prop}
    (h : ∀ A, Slots 129 A (ovBirth g v thr sch (i + 1)) → Own Try.prog main F Stop (G ((Go.Conc.base 62).at ⟨A, []⟩ [.code ovs14, .inLoop ovs14, .inBlock 2, .code ovs21]) cs) (w.setCell ⟨v.lf, 0, none⟩ (.int .i64 (lf + 1 : Nat)))) :
    Own Try.prog main F Stop (Go.Conc.served (ovGm cs A) (.agg #[])) w := by
  obtain ⟨hsz, h12, h0, h1, h7, h46, h47, h5, h6, h8, h9, h10, h11, _⟩ := hA
  obtain ⟨s, rfl⟩ := ovT_of hsz
  change s 12 = _ at h12
  change s 0 = _ at h0
  change s 1 = _ at h1
  change s 7 = _ at h7
  change s 46 = _ at h46
  change s 47 = _ at h47
  change s 5 = _ at h5
  change s 6 = _ at h6
  change s 8 = _ at h8
  change s 9 = _ at h9
  change s 10 = _ at h10
  change s 11 = _ at h11
  clear hsz
  simp only [ovT, h12, h0, h1, h7, h46, h47, h5, h6, h8, h9, h10, h11]
  clear h12 h0 h1 h7 h46 h47 h5 h6 h8 h9 h10 h11
  have hin := hi.lt
  have hi64 : (i : Int) < 100 := by have := hn64; omega
  have hsl := ok.ok.sl (Nat.lt_of_le_of_lt (Nat.zero_le _) hin)
  have ct := (hK _ _ .tv).c
  have zt := (hK _ _ .tv).z
  have c3 := (hK _ _ .stands).c
  have z3 := (hK _ _ .stands).z
  have c4 := (hK _ _ (.stand i hin)).c
  have z4 := (hK _ _ (.stand i hin)).z
  have c5 := ho.c
  have z5 := ho.z
  have hwi : IntKind.i64.wrap ((i : Int) + 1) = (i : Int) + 1 := IntWalk.i64_in _ (by omega)
  rw [hsl] at c3
  have c6 := hl.c
  have z6 := hl.z
  have hw : IntKind.i64.wrap ((lf : Int) + 1) = (lf : Int) + 1 := IntWalk.i64_in _ (by omega)
  unfold ovGm
  rw [served_fr, Frame.finish_at]
  simp only [ovo13, Code.opsOf, ovr13, Code.piece, ovBody, Try.f62, Option.getD_some, List.size_toArray, List.length_cons, List.length_nil, Nat.reduceAdd, Nat.zero_add, List.range, List.range.loop]
  walk_nrm
  refine ogE ?_
  rw [ovs20_eq]
  refine ogS ?_
  rw [ovr14_eq]
  refine ogR ?_
  simp only [ovo14, Code.opsOf, ovr14, Code.piece, ovBody, Try.f62, Option.getD_some, List.size_toArray, List.length_cons, List.length_nil, Nat.reduceAdd, Nat.zero_add, List.range, List.range.loop]
  (refine oW fun dd K hK => ?_; go_simp; refine qL hK ?_; clear hK K)
  (refine oW fun dd K hK => ?_; go_simp; refine qT hK ?_; clear hK K)
  (refine oW fun dd K hK => ?_; go_simp; refine qT hK ?_; clear hK K)
  (refine oW fun dd K hK => ?_; go_simp; refine qL hK ?_; clear hK K)
  (refine oW fun dd K hK => ?_; go_simp; refine qT hK ?_; clear hK K)
  (refine oW fun dd K hK => ?_; go_simp; refine qX hK ?_; clear hK K)
  (refine oW fun dd K hK => ?_; go_simp; refine qL hK ?_; clear hK K)
  (refine oW fun dd K hK => ?_; go_simp; refine qT hK ?_; clear hK K)
  (refine oW fun dd K hK => ?_; go_simp; refine qT hK ?_; clear hK K)
  (refine oW fun dd K hK => ?_; go_simp; refine qL hK ?_; clear hK K)
  (refine oW fun dd K hK => ?_; go_simp; refine qT hK ?_; clear hK K)
  refine ogE ?_
  rw [ovc71_eq]
  refine ogT ?_
  simp only [if_true]
  rw [ovr15_eq]
  refine ogR ?_
  simp only [ovo15, Code.opsOf, ovr15, Code.piece, ovBody, Try.f62, Option.getD_some, List.size_toArray, List.length_cons, List.length_nil, Nat.reduceAdd, Nat.zero_add, List.range, List.range.loop]
  (refine oW fun dd K hK => ?_; go_simp; refine qL hK ?_; clear hK K)
  (refine oW fun dd K hK => ?_; go_simp; refine qT hK ?_; clear hK K)
  (refine oW fun dd K hK => ?_; go_simp; refine hK _ _ ⟨⟨⟨0, grew_setCell rfl hnh _⟩, fun e he => by (have hm := mem_listed he; clear he hK; simp [go_sem, storedEv, c6, z6] at hm; subst hm; exact evT_write _ _ hnh)⟩, ?_⟩; clear hK K; rw [setCell_at']; refine Own.at ?_ dd)
  refine ogE ?_
  refine ogI ?_
  rw [ovr16_eq]
  refine ogR ?_
  simp only [ovo16, Code.opsOf, ovr16, Code.piece, ovBody, Try.f62, Option.getD_some, List.size_toArray, List.length_cons, List.length_nil, Nat.reduceAdd, Nat.zero_add, List.range, List.range.loop]
  (refine oW fun dd K hK => ?_; go_simp; refine qT hK ?_; clear hK K)
  (refine oW fun dd K hK => ?_; go_simp; refine qT hK ?_; clear hK K)
  refine ogE ?_
  refine ogL ?_
  exact h _ ⟨rfl, rfl, rfl, rfl, rfl, rfl, rfl, rfl, rfl, rfl, rfl, rfl, trivial⟩
set_option maxRecDepth 100000 in
theorem ov_b4 [ok : Fits g] {v : Mine} {thr sch : Value} {i : Nat} [hi : Has g i] (hn64 : g.n ≤ 64) (hK : g.K w) (ho : Lies w ⟨g.st i, 2, none⟩ (.bool true)) {A : Array Value} (hA : Slots 129 A ((12, .int .i64 i) :: ovBirth g v thr sch i)) {cs : List Frame} {main : Bool} {Stop : Goroutine → World → Prop}
    (h : ∀ A, Slots 129 A (ovBirth g v thr sch (i + 1)) → Own Try.prog main F Stop (G ((Go.Conc.base 62).at ⟨A, []⟩ [.code ovs14, .inLoop ovs14, .inBlock 2, .code ovs21]) cs) w) :
    Own Try.prog main F Stop (Go.Conc.served (ovGm cs A) (.agg #[])) w := by
  obtain ⟨hsz, h12, h0, h1, h7, h46, h47, h5, h6, h8, h9, h10, h11, _⟩ := hA
  obtain ⟨s, rfl⟩ := ovT_of hsz
  change s 12 = _ at h12
  change s 0 = _ at h0
  change s 1 = _ at h1
  change s 7 = _ at h7
  change s 46 = _ at h46
  change s 47 = _ at h47
  change s 5 = _ at h5
  change s 6 = _ at h6
  change s 8 = _ at h8
  change s 9 = _ at h9
  change s 10 = _ at h10
  change s 11 = _ at h11
  clear hsz
  simp only [ovT, h12, h0, h1, h7, h46, h47, h5, h6, h8, h9, h10, h11]
  clear h12 h0 h1 h7 h46 h47 h5 h6 h8 h9 h10 h11
  have hin := hi.lt
  have hi64 : (i : Int) < 100 := by have := hn64; omega
  have hsl := ok.ok.sl (Nat.lt_of_le_of_lt (Nat.zero_le _) hin)
  have ct := (hK _ _ .tv).c
  have zt := (hK _ _ .tv).z
  have c3 := (hK _ _ .stands).c
  have z3 := (hK _ _ .stands).z
  have c4 := (hK _ _ (.stand i hin)).c
  have z4 := (hK _ _ (.stand i hin)).z
  have c5 := ho.c
  have z5 := ho.z
  have hwi : IntKind.i64.wrap ((i : Int) + 1) = (i : Int) + 1 := IntWalk.i64_in _ (by omega)
  rw [hsl] at c3
  unfold ovGm
  rw [served_fr, Frame.finish_at]
  simp only [ovo13, Code.opsOf, ovr13, Code.piece, ovBody, Try.f62, Option.getD_some, List.size_toArray, List.length_cons, List.length_nil, Nat.reduceAdd, Nat.zero_add, List.range, List.range.loop]
  walk_nrm
  refine ogE ?_
  rw [ovs20_eq]
  refine ogS ?_
  rw [ovr14_eq]
  refine ogR ?_
  simp only [ovo14, Code.opsOf, ovr14, Code.piece, ovBody, Try.f62, Option.getD_some, List.size_toArray, List.length_cons, List.length_nil, Nat.reduceAdd, Nat.zero_add, List.range, List.range.loop]
  (refine oW fun dd K hK => ?_; go_simp; refine qL hK ?_; clear hK K)
  (refine oW fun dd K hK => ?_; go_simp; refine qT hK ?_; clear hK K)
  (refine oW fun dd K hK => ?_; go_simp; refine qT hK ?_; clear hK K)
  (refine oW fun dd K hK => ?_; go_simp; refine qL hK ?_; clear hK K)
  (refine oW fun dd K hK => ?_; go_simp; refine qT hK ?_; clear hK K)
  (refine oW fun dd K hK => ?_; go_simp; refine qX hK ?_; clear hK K)
  (refine oW fun dd K hK => ?_; go_simp; refine qL hK ?_; clear hK K)
  (refine oW fun dd K hK => ?_; go_simp; refine qT hK ?_; clear hK K)
  (refine oW fun dd K hK => ?_; go_simp; refine qT hK ?_; clear hK K)
  (refine oW fun dd K hK => ?_; go_simp; refine qL hK ?_; clear hK K)
  (refine oW fun dd K hK => ?_; go_simp; refine qT hK ?_; clear hK K)
  refine ogE ?_
  rw [ovc71_eq]
  refine ogF ?_
  simp only [Bool.false_eq_true, if_false]
  refine ogK ?_
  refine ogI ?_
  rw [ovr16_eq]
  refine ogR ?_
  simp only [ovo16, Code.opsOf, ovr16, Code.piece, ovBody, Try.f62, Option.getD_some, List.size_toArray, List.length_cons, List.length_nil, Nat.reduceAdd, Nat.zero_add, List.range, List.range.loop]
  (refine oW fun dd K hK => ?_; go_simp; refine qT hK ?_; clear hK K)
  (refine oW fun dd K hK => ?_; go_simp; refine qT hK ?_; clear hK K)
  refine ogE ?_
  refine ogL ?_
  exact h _ ⟨rfl, rfl, rfl, rfl, rfl, rfl, rfl, rfl, rfl, rfl, rfl, rfl, trivial⟩
end Go.Proofs.Ytcejbandeikdjaa
namespace Go.Proofs.Ytcejbandeikdjaa
open Go Go.Conc Go.RowKit Go.Proofs
open Go.ConcN (sumTo upd sumTo_upd upd_ne upd_same)
variable {g : Gate} {F : Fz} {Z : Users} {A : Nat → Bool} {vs : Nat → Vars} {N : Nat → Prop} {ov : Nat → Bool} {x y : Z.X} {w w' : World} {s0 nn : Nat} {Gl : Machine → Trace → Prop} {v : Mine} {base M : Nat}
def RowIs (Z : Users) (b off : Nat) (xs : List Value) : Prop := ∃ c e z, Z.I b = some (.cells c e z) ∧ ∀ k u, xs[k]? = some u → c[off + k]? = some u ∧ (decide (z.1 ≤ off + k) && decide (off + k < z.2)) = false
theorem RowIs.cell (zok : Z.Ok g) (hU : Z.U x w) {b off k : Nat} {xs : List Value} {u : Value} (h : RowIs Z b off xs) (hk : xs[k]? = some u) : w.cell? ⟨b, off + k, none⟩ = some u ∧ w.frozen? ⟨b, off + k, none⟩ = false := by
  obtain ⟨c, e, z, h1, h2⟩ := h
  obtain ⟨h3, _⟩ := zok.fix x w b _ hU h1
  obtain ⟨h4, h5⟩ := h2 k u hk
  exact ⟨by simp [World.cell?, h3, h4], by simpa [World.frozen?, h3] using h5⟩
def Borns (Z : Users) : Nat → Z.X → Z.X → Prop
  | 0, x, y => y = x
  | i + 1, x, z => ∃ y, Borns Z i x y ∧ Z.bor y i z
theorem borns_nw {Z : Users} {g : Gate} (zok : Z.Ok g) : ∀ (i : Nat) (x y : Z.X), Borns Z i x y → ∀ j, i ≤ j → Z.nw x j → Z.nw y j
  | 0, _, _, h, _, _, hn => by
    have h : _ = _ := h
    rw [h]; exact hn
  | i + 1, x, z, ⟨y, h1, h2⟩, j, hj, hn => zok.nwO y i z j h2 (by omega) (borns_nw zok i x y h1 j (by omega) hn)
theorem Alone.born {Al : Nat → Prop} {b : Nat} (h : Alone Z g vs Al N b) (hb : b < w.heap.size) (i : Nat) : Alone Z g (moreV vs i w) (fun j => Al j ∨ j = i) (moreN N w) b :=
  ⟨.inl h.n, h.st, h.br, h.place, fun j hj => by
    unfold moreV
    by_cases e : j = i
    · rw [if_pos e]; simp only; omega
    · rw [if_neg e]; exact h.vars j (hj.resolve_right e), h.inp⟩
theorem MI.born {Al : Nat → Prop} {lf : Nat} (h : MI Z g vs Al N v base M none 0 0 [] lf w) (i : Nat) : MI Z g (moreV vs i w) (fun j => Al j ∨ j = i) (moreN N w) v base M none 0 0 [] lf w := by
  obtain ⟨c, h1, h2⟩ := h.od
  exact ⟨h.n, h.mo, h.lf, h.od, h.row, h.an.born h.n.lt i, h.amo.born h.mo.lt i, h.alf.born h.lf.lt i, h.aod.born (Array.getElem?_eq_some_iff.1 h1).1 i, fun y hy => (by cases hy), h.dn, h.drow, h.base⟩
set_option maxRecDepth 100000 in
theorem ov_spawn {A : Array Value} {i : Nat} {f : Value} (h50 : A.getD 50 undef = .pointer (some ⟨g.tb, 0, none⟩)) (h51 : A.getD 51 undef = .int .i64 i) (h55 : A.getD 55 undef = f) {k : List Item} {cs : List Frame} {main : Bool} :
    stepG Try.prog main (G ((Go.Conc.base 62).at ⟨A, []⟩ (.inRegion ovo12 [6] :: k)) cs) w = .spawn (G ((Go.Conc.base 62).at ⟨A, []⟩ (.inRegion ovo12 [] :: k)) cs) (born Try.prog (callRun g i f)) w #[] := by
  simp only [ovo12, Code.opsOf, ovr12, Code.piece, ovBody, Try.f62, Option.getD_some]
  rw [stepG_spawn (d := callRun g i f) (f := .func 70) (c := #[]) (w' := w) rfl rfl (by decide) (by simp [go_sem, execOp, Act.eval, Deferred.ofValue, callRun, h50, h51, h55]) rfl, listed_none (by simp [go_sem, execOp, Act.eval, Deferred.ofValue, callRun, h50, h51, h55])]
  rfl
theorem tok_births [ok : Fits g] (zok : Z.Ok g) (hs0 : 0 < s0) (hn64 : g.n ≤ 64) {tb tl tc : Nat} {sch : Value} {x0 : Z.X} (hnw : ∀ j, j < g.n → Z.nw x0 j) (htl : g.n ≤ tl) (hth : RowIs Z tb 0 ((List.range g.n).map fun j => .func (.func Z.fid) #[] (Z.cap j))) {cs : List Frame}
    (hk : ∀ (x : Z.X) (w : World) (F : Array Value) (vs : Nat → Vars) (N : Nat → Prop) (ms : Option Seat), Borns Z g.n x0 x → TI Z g (fun j => (decide (j < g.n) && Z.liv x j) = true) vs N (fun j => decide (j < g.n) && !Z.liv x j) x w →
      MI Z g vs (fun j => (decide (j < g.n) && Z.liv x j) = true) N v base M none 0 0 [] (cnt (Z.liv x) g.n) w → g.top ≤ w.heap.size → Slots 129 F (ovBirth g v (.slice (some ⟨tb, 0, none⟩) tl tc) sch g.n) →
      Tok Try.prog g.K g.Still g.top Gl (inb Z g s0 (fun j => decide (j < g.n) && Z.liv x j) vs ms x) 0 (s0 + g.n) (G ((Go.Conc.base 62).at ⟨F, []⟩ [.code ovs14, .inLoop ovs14, .inBlock 2, .code ovs21]) cs) w) :
    ∀ (k i : Nat), i + k = g.n → ∀ (x : Z.X) (w : World) (F : Array Value) (vs : Nat → Vars) (N : Nat → Prop) (ms : Option Seat), Borns Z i x0 x → TI Z g (fun j => (decide (j < i) && Z.liv x j) = true) vs N (fun j => decide (j < i) && !Z.liv x j) x w →
      MI Z g vs (fun j => (decide (j < i) && Z.liv x j) = true) N v base M none 0 0 [] (cnt (Z.liv x) i) w → g.top ≤ w.heap.size → Slots 129 F (ovBirth g v (.slice (some ⟨tb, 0, none⟩) tl tc) sch i) →
      Tok Try.prog g.K g.Still g.top Gl (inb Z g s0 (fun j => decide (j < i) && Z.liv x j) vs ms x) 0 (s0 + i) (G ((Go.Conc.base 62).at ⟨F, []⟩ [.code ovs14, .inLoop ovs14, .inBlock 2, .code ovs21]) cs) w := by
  intro k
  induction k with
  | zero =>
    intro i hi
    obtain rfl : i = g.n := by omega
    exact hk
  | succ k ih =>
    intro i hi x w A vs N ms hB H HM ht hA
    have hin : i < g.n := by omega
    have hiH : Has g i := ⟨hin⟩
    refine tok_intro fun _ hK _ => ?_
    obtain ⟨hf, hfz⟩ := hth.cell (k := i) (u := .func (.func Z.fid) #[] (Z.cap i)) zok H.u (by simp [hin])
    simp only [Nat.zero_add] at hf hfz
    refine tok_own (F := FK g) (Stop := fun a u => ∃ A2, Slots 129 A2 ((12, .int .i64 i) :: (50, .pointer (some ⟨g.tb, 0, none⟩)) :: (51, .int .i64 i) :: (55, .func (.func Z.fid) #[] (Z.cap i)) :: ovBirth g v (.slice (some ⟨tb, 0, none⟩) tl tc) sch i) ∧
      a = G ((Go.Conc.base 62).at ⟨A2, []⟩ [.inRegion ovo12 [6], .code ovs19, .inBlock 3, .code ovr16, .inLoop ovs14, .inBlock 2, .code ovs21]) cs ∧ ∃ d, u = w.at d) K_at fk_covers fk_K
      (ov_b1 hin (by omega) hK hf hfz hA fun A2 hA2 => .stop fun d => ⟨A2, hA2, rfl, d, rfl⟩) fun g' w0 d hS => ?_
    obtain ⟨A2, hA2, rfl, d', e⟩ := hS d
    rw [e]
    obtain ⟨hsz2, q12, q50, q51, q55, q0, q1, q7, q46, q47, q5, q6, q8, q9, q10, q11, _⟩ := hA2
    obtain ⟨A3, hA3, hsit⟩ := ov_b2 (A := A2) (cs := cs) (v := v) (thr := .slice (some ⟨tb, 0, none⟩) tl tc) (sch := sch) (i := i) ⟨hsz2, q12, q0, q1, q7, q46, q47, q5, q6, q8, q9, q10, q11, trivial⟩ w
    refine tok_birth zok hs0 hin (borns_nw zok i x0 x hB i (Nat.le_refl i) (hnw i hin)) rfl (fun j hj => by simp at hj; exact hj.1) (H.at zok d') (by simp) ht rfl (fun d => ov_spawn q50 q51 q55) hsit fun y w1 hy H1 k1 => ?_
    have hyl : ∀ j, j < i → Z.liv y j = Z.liv x j := fun j hj => (zok.borO x i y j hy (by omega)).1
    have eA : (fun j => ((decide (j < i) && Z.liv x j) || j == i) && (j != i || Z.liv y i)) = fun j => decide (j < i + 1) && Z.liv y j := by
      funext j
      rcases Nat.lt_trichotomy j i with h | h | h
      · have e1 : (j == i) = false := by simp; omega
        have e2 : (j != i) = true := by simp; omega
        have e3 : decide (j < i) = true := by simpa using h
        have e4 : decide (j < i + 1) = true := by simp; omega
        rw [e1, e2, e3, e4, hyl j h]; simp
      · subst h; simp
      · have e1 : (j == i) = false := by simp; omega
        have e3 : decide (j < i) = false := by simp; omega
        have e4 : decide (j < i + 1) = false := by simp; omega
        rw [e1, e3, e4]; simp
    have eO : (fun j => if j = i then !Z.liv y i else decide (j < i) && !Z.liv x j) = fun j => decide (j < i + 1) && !Z.liv y j := by
      funext j
      rcases Nat.lt_trichotomy j i with h | h | h
      · have e3 : decide (j < i) = true := by simpa using h
        have e4 : decide (j < i + 1) = true := by simp; omega
        rw [if_neg (by omega), e3, e4, hyl j h]
      · subst h; simp
      · have e3 : decide (j < i) = false := by simp; omega
        have e4 : decide (j < i + 1) = false := by simp; omega
        rw [if_neg (by omega), e3, e4]; simp
    have eP : (fun j => (((decide (j < i) && Z.liv x j) || j == i) && (j != i || Z.liv y i)) = true) = fun j => (decide (j < i + 1) && Z.liv y j) = true := by
      funext j; rw [show (((decide (j < i) && Z.liv x j) || j == i) && (j != i || Z.liv y i)) = _ from congrFun eA j]
    rw [eP, eO] at H1
    rw [eA]
    have HM1 := ((HM.at d').born i).kept hin (.inr rfl) k1
    have HM2 : MI Z g (moreV vs i (w.at d')) (fun j => (decide (j < i + 1) && Z.liv y j) = true) (moreN N (w.at d')) v base M none 0 0 [] (cnt (Z.liv x) i) w1 := HM1.mono fun j hj => by
      simp only [Bool.and_eq_true, decide_eq_true_eq] at hj ⊢
      by_cases e : j = i
      · exact .inr e
      · have : j < i := by omega
        exact .inl ⟨this, by rw [← hyl j this]; exact hj.2⟩
    have hB1 : Borns Z (i + 1) x0 y := ⟨x, hB, hy⟩
    have ht1 : g.top ≤ w1.heap.size := Nat.le_trans ht k1.size
    have hcn : cnt (Z.liv x) i = cnt (Z.liv y) i := cnt_congr fun j hj => (hyl j hj).symm
    have hcl := cnt_le (Z.liv x) i
    refine tok_intro fun _ hK1 _ => ?_
    have ho := H1.over i hin
    have hlt : decide (i < i + 1) = true := by simp
    rw [hlt, Bool.true_and] at ho
    rcases Bool.eq_false_or_eq_true (Z.liv y i) with hl | hl
    · rw [hl] at ho
      have hnh : ¬ held (FK g) ⟨v.lf, 0, none⟩ := not_held' (fk_none (fun j hj => HM2.alf.st j hj) fun a u p => HM2.alf.place a u p)
      refine tok_own (F := FK g) (Stop := fun a u => ∃ A4, Slots 129 A4 (ovBirth g v (.slice (some ⟨tb, 0, none⟩) tl tc) sch (i + 1)) ∧
        a = G ((Go.Conc.base 62).at ⟨A4, []⟩ [.code ovs14, .inLoop ovs14, .inBlock 2, .code ovs21]) cs ∧ ∃ d, u = (w1.setCell ⟨v.lf, 0, none⟩ (.int .i64 (cnt (Z.liv x) i + 1 : Nat))).at d) K_at fk_covers fk_K
        (ov_b3 hn64 hK1 ho HM2.lf (by omega) hnh hA3 fun A4 hA4 => .stop fun d => ⟨A4, hA4, rfl, d, rfl⟩) fun g' w0 d hS => ?_
      obtain ⟨A4, hA4, rfl, d2, e2⟩ := hS d
      rw [e2]
      have hc : cnt (Z.liv x) i + 1 = cnt (Z.liv y) (i + 1) := by simp only [cnt, hcn, hl, if_true]
      have HM3 := (HM2.setLf (l1 := cnt (Z.liv x) i + 1)).at d2
      rw [hc] at HM3
      have := ih (i + 1) (by omega) y _ A4 _ _ (some (backSeat g (ovGm cs A3))) hB1 ((H1.setLf zok HM2.alf).at zok d2) (by rw [← hc] at HM3 ⊢; exact HM3) (by simpa [size_at'] using ht1) hA4
      exact this
    · rw [hl] at ho
      refine tok_own (F := FK g) (Stop := fun a u => ∃ A4, Slots 129 A4 (ovBirth g v (.slice (some ⟨tb, 0, none⟩) tl tc) sch (i + 1)) ∧
        a = G ((Go.Conc.base 62).at ⟨A4, []⟩ [.code ovs14, .inLoop ovs14, .inBlock 2, .code ovs21]) cs ∧ ∃ d, u = w1.at d) K_at fk_covers fk_K
        (ov_b4 hn64 hK1 ho hA3 fun A4 hA4 => .stop fun d => ⟨A4, hA4, rfl, d, rfl⟩) fun g' w0 d hS => ?_
      obtain ⟨A4, hA4, rfl, d2, e2⟩ := hS d
      rw [e2]
      have hc : cnt (Z.liv x) i = cnt (Z.liv y) (i + 1) := by simp [cnt, hcn, hl]
      have HM3 := HM2.at d2
      rw [hc] at HM3
      exact ih (i + 1) (by omega) y _ A4 _ _ (some (backSeat g (ovGm cs A3))) hB1 (H1.at zok d2) HM3 (by simpa [size_at'] using ht1) hA4
end Go.Proofs.Ytcejbandeikdjaa
namespace Go.Proofs.Ytcejbandeikdjaa
open Go Go.Conc Go.RowKit Go.Proofs
open Go.ConcN (sumTo upd sumTo_upd upd_ne upd_same)
variable {g : Gate} {F : Fz} {Z : Users} {x y : Z.X} {w w' : World} {s0 nn : Nat} {Gl : Machine → Trace → Prop} {v : Mine} {base M : Nat}
def Turn (Z : Users) (n M : Nat) (s : Z.X × List Nat) (i : Int) (t : Z.X × List Nat) : Prop :=
  if 0 ≤ i ∧ i < n ∧ Z.liv s.1 i.toNat = true ∧ s.2.length ≠ M then Z.stp s.1 i.toNat t.1 ∧ t.2 = s.2 ++ [i.toNat] else t = s
theorem turn_no {n : Nat} {s : Z.X × List Nat} {i : Int} (h : ¬ (0 ≤ i ∧ i < n ∧ Z.liv s.1 i.toNat = true ∧ s.2.length ≠ M)) : Turn Z n M s i s := by
  unfold Turn
  rw [if_neg h]
def Turns (Z : Users) (n M : Nat) : List Int → Z.X × List Nat → Z.X × List Nat → Prop
  | [], s, t => t = s
  | i :: l, s, t => ∃ u, Turn Z n M s i u ∧ Turns Z n M l u t
inductive Rounds (Z : Users) (n M : Nat) : Z.X × List Nat → Z.X × List Nat → Prop
  | done {s : Z.X × List Nat} : (cnt (Z.liv s.1) n = 0 ∨ M ≤ s.2.length) → Rounds Z n M s s
  | more {s u t : Z.X × List Nat} : 0 < cnt (Z.liv s.1) n → s.2.length < M → Turns Z n M ((List.range n).map fun j : Nat => (j : Int)) s u → Rounds Z n M u t → Rounds Z n M s t
def Under2 (Z : Users) (g : Gate) (v : Mine) (base M s0 : Nat) (s : Z.X × List Nat) (Inb : Nat → Option Seat) (w : World) : Prop :=
  s.2.length ≤ M ∧ ∃ vs N oa oc ms, Inb = inb Z g s0 (fun j => decide (j < g.n) && Z.liv s.1 j) vs ms s.1 ∧ TI Z g (fun j => (decide (j < g.n) && Z.liv s.1 j) = true) vs N (fun j => decide (j < g.n) && !Z.liv s.1 j) s.1 w ∧
    MI Z g vs (fun j => (decide (j < g.n) && Z.liv s.1 j) = true) N v base M oa s.2.length oc (s.2.map fun i : Nat => Value.int .i64 i) (cnt (Z.liv s.1) g.n) w
theorem Under2.at (zok : Z.Ok g) {s : Z.X × List Nat} {Inb : Nat → Option Seat} (h : Under2 Z g v base M s0 s Inb w) (d : Nat) : Under2 Z g v base M s0 s Inb (w.at d) := by
  obtain ⟨h1, vs, N, oa, oc, ms, h3, h4, h5⟩ := h
  exact ⟨h1, vs, N, oa, oc, ms, h3, h4.at zok d, h5.at d⟩
theorem tok_any [ok : Fits g] (zok : Z.Ok g) (hs0 : 0 < s0) (hM : M ≤ 1048576) (hn64 : g.n ≤ 64) {s : Z.X × List Nat} {Inb : Nat → Option Seat} (H : Under2 Z g v base M s0 s Inb w) {i : Int} {c : Frame} {cs : List Frame}
    (hk : ∀ t Inb' w', Turn Z g.n M s i t → Under2 Z g v base M s0 t Inb' w' → Tok Try.prog g.K g.Still g.top Gl Inb' 0 (s0 + g.n) (G (c.finish (.tuple #[])) cs) w') :
    Tok Try.prog g.K g.Still g.top Gl Inb 0 (s0 + g.n) (G (Frame.enter Try.prog 71 (step1Args g v i) .normal) (c :: cs)) w := by
  refine tok_intro fun _ hK _ => ?_
  have H' := H
  obtain ⟨hlen, vs, N, oa, oc, ms, rfl, HT, HM⟩ := H
  obtain ⟨cod, hod1, hod2⟩ := HM.od
  have hsame : ∀ {t : Z.X × List Nat}, t = s → Under2 Z g v base M s0 t (inb Z g s0 (fun j => decide (j < g.n) && Z.liv s.1 j) vs ms s.1) w := fun e => e ▸ H'
  by_cases h0 : i < 0
  · exact tok_silent (step1_neg h0 (.stop fun d => ⟨rfl, d, rfl⟩)) fun d => hk s _ _ (turn_no (by omega)) ((hsame rfl).at zok d)
  by_cases h1 : (g.n : Int) ≤ i
  · exact tok_silent (step1_high (by omega) h1 HM.n (.stop fun d => ⟨rfl, d, rfl⟩)) fun d => hk s _ _ (turn_no (by omega)) ((hsame rfl).at zok d)
  obtain ⟨i, rfl⟩ : ∃ k : Nat, i = k := ⟨i.toNat, by omega⟩
  have hin : i < g.n := by omega
  have hiH : Has g i := ⟨hin⟩
  have ho := HT.over i hin
  rw [decide_eq_true hin, Bool.true_and] at ho
  rcases Bool.eq_false_or_eq_true (Z.liv s.1 i) with hl | hl
  · rw [hl] at ho
    by_cases h2 : s.2.length = M
    · exact tok_silent (step1_full hK HM.n ho ⟨⟨cod, _, hod1, hod2⟩, rfl⟩ HM.mo h2 (.stop fun d => ⟨rfl, d, rfl⟩)) fun d => hk s _ _ (turn_no fun h => h.2.2.2 h2) ((hsame rfl).at zok d)
    · have hc0 : 0 < cnt (Z.liv s.1) g.n := by
        rcases Nat.eq_zero_or_pos (cnt (Z.liv s.1) g.n) with h | h
        · rw [cnt_zero.1 h i hin] at hl; cases hl
        · exact h
      have hcl := cnt_le (Z.liv s.1) g.n
      refine tok_step zok hs0 (fun j hj => ?_) (by simp [hin, hl]) hl HT (by simp [hl]) HM h2 (by omega) hc0 (by omega) fun y w1 N' oa' oc' ms' hy H1 HM1 => ?_
      · simp only [Bool.and_eq_true, decide_eq_true_eq] at hj
        exact ⟨hj.1, by omega⟩
      have hyl : ∀ j, j ≠ i → Z.liv y j = Z.liv s.1 j := fun j hj => (zok.stpO s.1 i y j hy hj).1
      have eA : (fun j => (decide (j < g.n) && Z.liv s.1 j) && (j != i || Z.liv y i)) = fun j => decide (j < g.n) && Z.liv y j := by
        funext j
        by_cases e : j = i
        · subst e; simp [hl]
        · have e2 : (j != i) = true := by simpa using e
          rw [e2, hyl j e]; simp
      have eO : (fun j => if j = i then !Z.liv y i else decide (j < g.n) && !Z.liv s.1 j) = fun j => decide (j < g.n) && !Z.liv y j := by
        funext j
        by_cases e : j = i
        · subst e; simp [hin]
        · rw [if_neg e, hyl j e]
      have eP : (fun j => ((decide (j < g.n) && Z.liv s.1 j) && (j != i || Z.liv y i)) = true) = fun j => (decide (j < g.n) && Z.liv y j) = true := by
        funext j; rw [show ((decide (j < g.n) && Z.liv s.1 j) && (j != i || Z.liv y i)) = _ from congrFun eA j]
      rw [eP, eO] at H1
      rw [eP] at HM1
      rw [eA]
      refine hk (y, s.2 ++ [i]) _ _ ?_ ⟨by simp; omega, vs, N', oa', oc', ms', rfl, H1, ?_⟩
      · unfold Turn
        rw [if_pos ⟨by omega, by omega, by simpa using hl, h2⟩]
        simpa using hy
      · rw [← cnt_upd hin hyl hl] at HM1
        simpa using HM1
  · rw [hl] at ho
    exact tok_silent (step1_over hK HM.n ho (.stop fun d => ⟨rfl, d, rfl⟩)) fun d => hk s _ _ (turn_no fun h => by rw [Int.toNat_natCast, hl] at h; exact absurd h.2.2.1 (by simp)) ((hsame rfl).at zok d)
end Go.Proofs.Ytcejbandeikdjaa
namespace Go.Proofs.Ytcejbandeikdjaa
open Go Go.Conc Go.RowKit Go.Proofs
variable {g : Gate} {F : Fz} {w : World}
theorem callable71 : Callable 71 := callable Try.func71 rfl rfl
def stepFn (g : Gate) (v : Mine) : Value := .func (.func 71) #[] #[.pointer (some ⟨v.n, 0, none⟩), .pointer (some ⟨g.tv, 0, none⟩), .pointer (some ⟨v.od, 0, none⟩), .pointer (some ⟨v.mo, 0, none⟩), .pointer (some ⟨v.lf, 0, none⟩)]
def ovRnd (g : Gate) (v : Mine) : List (Nat × Value) := (7, .bool false) :: (13, stepFn g v) :: ovBase g v
def ovSched (g : Gate) (v : Mine) (sch : Value) (sl k : Nat) : List (Nat × Value) := (7, .bool false) :: (13, stepFn g v) :: (76, sch) :: (77, .int .i64 sl) :: (78, .int .i64 k) :: ovBase g v
def ovRnd2 (g : Gate) (v : Mine) (i : Nat) : List (Nat × Value) := (94, .int .i64 g.n) :: (95, .int .i64 i) :: ovRnd g v
def ovEnds (g : Gate) (v : Mine) (st : Bool) (j : Nat) : List (Nat × Value) := (7, .bool st) :: (107, g.sl) :: (108, .int .i64 g.n) :: (109, .int .i64 j) :: ovBase g v
set_option maxRecDepth 100000 in
set_option maxHeartbeats 2000000 in
theorem ov_t1 {v : Mine} {thr : Value} {sa : Option Addr} {sl sc : Nat} {A : Array Value} (hA : Slots 129 A (ovBirth g v thr (.slice sa sl sc) g.n)) {cs : List Frame} {main : Bool} {Stop : Goroutine → World → Prop}
    (h : ∀ A, Slots 129 A (ovSched g v (.slice sa sl sc) sl 0) → Own Try.prog main F Stop (G ((Go.Conc.base 62).at ⟨A, []⟩ [.code ovs25, .inLoop ovs25, .inBlock 4, .code ovs29]) cs) w) : Own Try.prog main F Stop (G ((Go.Conc.base 62).at ⟨A, []⟩ [.code ovs14, .inLoop ovs14, .inBlock 2, .code ovs21]) cs) w := by
  obtain ⟨hsz, h0, h1, h7, h46, h47, h5, h6, h8, h9, h10, h11, _⟩ := hA
  obtain ⟨s, rfl⟩ := ovT_of hsz
  change s 0 = _ at h0
  change s 1 = _ at h1
  change s 7 = _ at h7
  change s 46 = _ at h46
  change s 47 = _ at h47
  change s 5 = _ at h5
  change s 6 = _ at h6
  change s 8 = _ at h8
  change s 9 = _ at h9
  change s 10 = _ at h10
  change s 11 = _ at h11
  clear hsz
  simp only [ovT, h0, h1, h7, h46, h47, h5, h6, h8, h9, h10, h11]
  clear h0 h1 h7 h46 h47 h5 h6 h8 h9 h10 h11
  have hlt : decide ((g.n : Int) < (g.n : Int)) = false := by simp
  rw [ovs14_eq]
  refine ogS ?_
  rw [ovr10_eq]
  refine ogR ?_
  simp only [ovo10, Code.opsOf, ovr10, Code.piece, ovBody, Try.f62, Option.getD_some, List.size_toArray, List.length_cons, List.length_nil, Nat.reduceAdd, Nat.zero_add, List.range, List.range.loop]
  (refine oW fun dd K hK => ?_; go_simp; refine qT hK ?_; clear hK K)
  refine ogE ?_
  rw [ovs15_eq]
  refine ogS ?_
  rw [ovc48_eq]
  refine ogF ?_
  simp only [Bool.false_eq_true, if_false]
  refine own_go rfl (fun d => stepG_exit rfl) ?_
  rw [ovs21_eq]
  refine ogS ?_
  rw [ovr17_eq]
  refine ogR ?_
  simp only [ovo17, Code.opsOf, ovr17, Code.piece, ovBody, Try.f62, Option.getD_some, List.size_toArray, List.length_cons, List.length_nil, Nat.reduceAdd, Nat.zero_add, List.range, List.range.loop]
  (refine oW fun dd K hK => ?_; go_simp; refine qT hK ?_; clear hK K)
  (refine oW fun dd K hK => ?_; go_simp; refine qT hK ?_; clear hK K)
  refine ogE ?_
  rw [ovs22_eq]
  refine ogS ?_
  rw [ovs23_eq]
  refine ogS ?_
  rw [ovr18_eq]
  refine ogR ?_
  simp only [ovo18, Code.opsOf, ovr18, Code.piece, ovBody, Try.f62, Option.getD_some, List.size_toArray, List.length_cons, List.length_nil, Nat.reduceAdd, Nat.zero_add, List.range, List.range.loop]
  (refine oW fun dd K hK => ?_; go_simp; refine qT hK ?_; clear hK K)
  (refine oW fun dd K hK => ?_; go_simp; refine qT hK ?_; clear hK K)
  (refine oW fun dd K hK => ?_; go_simp; refine qT hK ?_; clear hK K)
  refine ogE ?_
  rw [ovb4_eq]
  refine ogB ?_
  rw [ovl24_eq]
  refine ogP ?_
  exact h _ ⟨rfl, rfl, rfl, rfl, rfl, rfl, rfl, rfl, rfl, rfl, rfl, rfl, trivial⟩
set_option maxRecDepth 100000 in
set_option maxHeartbeats 2000000 in
theorem ov_t2 {v : Mine} {sb so sl sc k : Nat} {i : Int} (hk : k < sl) (hsl : sl < 9223372036854775808) (hc : w.cell? ⟨sb, so + k, none⟩ = some (.int .i64 i)) (hz : w.frozen? ⟨sb, so + k, none⟩ = false) {A : Array Value} (hA : Slots 129 A (ovSched g v (.slice (some ⟨sb, so, none⟩) sl sc) sl k)) {cs : List Frame} {main : Bool} {Stop : Goroutine → World → Prop}
    (h : ∀ A, Slots 129 A (ovSched g v (.slice (some ⟨sb, so, none⟩) sl sc) sl k) → Own Try.prog main F Stop (G (Frame.enter Try.prog 71 (step1Args g v i) .normal) (((Go.Conc.base 62).at ⟨A, []⟩ [.inRegion ovo21 [2], .inBlock 5, .code ovr22, .inLoop ovs25, .inBlock 4, .code ovs29]) :: cs)) w) : Own Try.prog main F Stop (G ((Go.Conc.base 62).at ⟨A, []⟩ [.code ovs25, .inLoop ovs25, .inBlock 4, .code ovs29]) cs) w := by
  obtain ⟨hsz, h7, h13, h76, h77, h78, h5, h6, h8, h9, h10, h11, _⟩ := hA
  obtain ⟨s, rfl⟩ := ovT_of hsz
  change s 7 = _ at h7
  change s 13 = _ at h13
  change s 76 = _ at h76
  change s 77 = _ at h77
  change s 78 = _ at h78
  change s 5 = _ at h5
  change s 6 = _ at h6
  change s 8 = _ at h8
  change s 9 = _ at h9
  change s 10 = _ at h10
  change s 11 = _ at h11
  clear hsz
  simp only [ovT, h7, h13, h76, h77, h78, h5, h6, h8, h9, h10, h11]
  clear h7 h13 h76 h77 h78 h5 h6 h8 h9 h10 h11
  have hlt : decide ((k : Int) < (sl : Int)) = true := by simp; omega
  have hlt2 : decide (k < sl) = true := by simp; omega
  rw [ovs25_eq]
  refine ogS ?_
  rw [ovr19_eq]
  refine ogR ?_
  simp only [ovo19, Code.opsOf, ovr19, Code.piece, ovBody, Try.f62, Option.getD_some, List.size_toArray, List.length_cons, List.length_nil, Nat.reduceAdd, Nat.zero_add, List.range, List.range.loop]
  (refine oW fun dd K hK => ?_; go_simp; refine qT hK ?_; clear hK K)
  refine ogE ?_
  rw [ovs26_eq]
  refine ogS ?_
  rw [ovc79_eq]
  refine ogT ?_
  simp only [if_true]
  refine ogK ?_
  rw [ovs27_eq]
  refine ogS ?_
  rw [ovb5_eq]
  refine ogB ?_
  rw [ovs28_eq]
  refine ogS ?_
  rw [ovr20_eq]
  refine ogR ?_
  simp only [ovo20, Code.opsOf, ovr20, Code.piece, ovBody, Try.f62, Option.getD_some, List.size_toArray, List.length_cons, List.length_nil, Nat.reduceAdd, Nat.zero_add, List.range, List.range.loop]
  (refine oW fun dd K hK => ?_; go_simp; refine qX hK ?_; clear hK K)
  (refine oW fun dd K hK => ?_; go_simp; refine qL hK ?_; clear hK K)
  (refine oW fun dd K hK => ?_; go_simp; refine qT hK ?_; clear hK K)
  refine ogE ?_
  rw [ovr21_eq]
  refine ogR ?_
  simp only [ovo21, Code.opsOf, ovr21, Code.piece, ovBody, Try.f62, Option.getD_some, List.size_toArray, List.length_cons, List.length_nil, Nat.reduceAdd, Nat.zero_add, List.range, List.range.loop]
  (refine oW fun dd K hK => ?_; go_simp; refine qT hK ?_; clear hK K)
  (refine oW fun dd K hK => ?_; go_simp; refine qT hK ?_; clear hK K)
  refine own_call (f := 71) (args := step1Args g v i) rfl rfl (by decide) (fun w => by simp [execOp, Act.eval, resolve, invoke, Deferred.ofValue, callable71.run, step1Args, stepFn]) (fun w => by simp [execOp, Act.eval, resolve, invoke, Deferred.ofValue, callable71.run, callable71.quiet, step1Args, stepFn]) ?_
  exact h _ ⟨rfl, rfl, rfl, rfl, rfl, rfl, rfl, rfl, rfl, rfl, rfl, rfl, trivial⟩
set_option maxRecDepth 100000 in
set_option maxHeartbeats 2000000 in
theorem ov_t3 {v : Mine} {sch : Value} {sl k : Nat} (hk : k < 9223372036854775807) {A : Array Value} (hA : Slots 129 A (ovSched g v sch sl k)) {cs : List Frame} {main : Bool} {Stop : Goroutine → World → Prop}
    (h : ∀ A, Slots 129 A (ovSched g v sch sl (k + 1)) → Own Try.prog main F Stop (G ((Go.Conc.base 62).at ⟨A, []⟩ [.code ovs25, .inLoop ovs25, .inBlock 4, .code ovs29]) cs) w) : Own Try.prog main F Stop (G (((Go.Conc.base 62).at ⟨A, []⟩ [.inRegion ovo21 [2], .inBlock 5, .code ovr22, .inLoop ovs25, .inBlock 4, .code ovs29]).finish (.tuple #[])) cs) w := by
  obtain ⟨hsz, h7, h13, h76, h77, h78, h5, h6, h8, h9, h10, h11, _⟩ := hA
  obtain ⟨s, rfl⟩ := ovT_of hsz
  change s 7 = _ at h7
  change s 13 = _ at h13
  change s 76 = _ at h76
  change s 77 = _ at h77
  change s 78 = _ at h78
  change s 5 = _ at h5
  change s 6 = _ at h6
  change s 8 = _ at h8
  change s 9 = _ at h9
  change s 10 = _ at h10
  change s 11 = _ at h11
  clear hsz
  simp only [ovT, h7, h13, h76, h77, h78, h5, h6, h8, h9, h10, h11]
  clear h7 h13 h76 h77 h78 h5 h6 h8 h9 h10 h11
  have hk64 : IntKind.i64.wrap ((k : Int) + 1) = (k : Int) + 1 := IntWalk.i64_in _ (by omega)
  rw [Frame.finish_at]
  simp only [ovo21, Code.opsOf, ovr21, Code.piece, ovBody, Try.f62, Option.getD_some, List.size_toArray, List.length_cons, List.length_nil, Nat.reduceAdd, Nat.zero_add, List.range, List.range.loop]
  walk_nrm
  refine ogE ?_
  refine ogI ?_
  rw [ovr22_eq]
  refine ogR ?_
  simp only [ovo22, Code.opsOf, ovr22, Code.piece, ovBody, Try.f62, Option.getD_some, List.size_toArray, List.length_cons, List.length_nil, Nat.reduceAdd, Nat.zero_add, List.range, List.range.loop]
  (refine oW fun dd K hK => ?_; go_simp; refine qT hK ?_; clear hK K)
  (refine oW fun dd K hK => ?_; go_simp; refine qT hK ?_; clear hK K)
  refine ogE ?_
  refine ogL ?_
  exact h _ ⟨rfl, rfl, rfl, rfl, rfl, rfl, rfl, rfl, rfl, rfl, rfl, rfl, trivial⟩
set_option maxRecDepth 100000 in
set_option maxHeartbeats 2000000 in
theorem ov_t4 {v : Mine} {sch : Value} {sl : Nat} {A : Array Value} (hA : Slots 129 A (ovSched g v sch sl sl)) {cs : List Frame} {main : Bool} {Stop : Goroutine → World → Prop}
    (h : ∀ A, Slots 129 A (ovRnd g v) → Own Try.prog main F Stop (G ((Go.Conc.base 62).at ⟨A, []⟩ [.code ovs31, .inLoop ovs31, .inBlock 6, .code ovs39]) cs) w) : Own Try.prog main F Stop (G ((Go.Conc.base 62).at ⟨A, []⟩ [.code ovs25, .inLoop ovs25, .inBlock 4, .code ovs29]) cs) w := by
  obtain ⟨hsz, h7, h13, h76, h77, h78, h5, h6, h8, h9, h10, h11, _⟩ := hA
  obtain ⟨s, rfl⟩ := ovT_of hsz
  change s 7 = _ at h7
  change s 13 = _ at h13
  change s 76 = _ at h76
  change s 77 = _ at h77
  change s 78 = _ at h78
  change s 5 = _ at h5
  change s 6 = _ at h6
  change s 8 = _ at h8
  change s 9 = _ at h9
  change s 10 = _ at h10
  change s 11 = _ at h11
  clear hsz
  simp only [ovT, h7, h13, h76, h77, h78, h5, h6, h8, h9, h10, h11]
  clear h7 h13 h76 h77 h78 h5 h6 h8 h9 h10 h11
  have hlt : decide ((sl : Int) < (sl : Int)) = false := by simp
  rw [ovs25_eq]
  refine ogS ?_
  rw [ovr19_eq]
  refine ogR ?_
  simp only [ovo19, Code.opsOf, ovr19, Code.piece, ovBody, Try.f62, Option.getD_some, List.size_toArray, List.length_cons, List.length_nil, Nat.reduceAdd, Nat.zero_add, List.range, List.range.loop]
  (refine oW fun dd K hK => ?_; go_simp; refine qT hK ?_; clear hK K)
  refine ogE ?_
  rw [ovs26_eq]
  refine ogS ?_
  rw [ovc79_eq]
  refine ogF ?_
  simp only [Bool.false_eq_true, if_false]
  refine own_go rfl (fun d => stepG_exit rfl) ?_
  rw [ovs29_eq]
  refine ogS ?_
  rw [ovb6_eq]
  refine ogB ?_
  rw [ovl30_eq]
  refine ogP ?_
  exact h _ ⟨rfl, rfl, rfl, rfl, rfl, rfl, rfl, rfl, rfl, trivial⟩
set_option maxRecDepth 100000 in
set_option maxHeartbeats 2000000 in
theorem ov_t5b {v : Mine} (hl : Lies w ⟨v.lf, 0, none⟩ (.int .i64 (0 : Nat))) {A : Array Value} (hA : Slots 129 A (ovRnd g v)) {cs : List Frame} {main : Bool} {Stop : Goroutine → World → Prop}
    (h : ∀ A, Slots 129 A (ovRnd g v) → Own Try.prog main F Stop (G ((Go.Conc.base 62).at ⟨A, []⟩ [.code ovs39]) cs) w) : Own Try.prog main F Stop (G ((Go.Conc.base 62).at ⟨A, []⟩ [.code ovs31, .inLoop ovs31, .inBlock 6, .code ovs39]) cs) w := by
  obtain ⟨hsz, h7, h13, h5, h6, h8, h9, h10, h11, _⟩ := hA
  obtain ⟨s, rfl⟩ := ovT_of hsz
  change s 7 = _ at h7
  change s 13 = _ at h13
  change s 5 = _ at h5
  change s 6 = _ at h6
  change s 8 = _ at h8
  change s 9 = _ at h9
  change s 10 = _ at h10
  change s 11 = _ at h11
  clear hsz
  simp only [ovT, h7, h13, h5, h6, h8, h9, h10, h11]
  clear h7 h13 h5 h6 h8 h9 h10 h11
  have c1 := hl.c
  have z1 := hl.z
  rw [ovs31_eq]
  refine ogS ?_
  rw [ovs32_eq]
  refine ogS ?_
  rw [ovr23_eq]
  refine ogR ?_
  simp only [ovo23, Code.opsOf, ovr23, Code.piece, ovBody, Try.f62, Option.getD_some, List.size_toArray, List.length_cons, List.length_nil, Nat.reduceAdd, Nat.zero_add, List.range, List.range.loop]
  (refine oW fun dd K hK => ?_; go_simp; refine qL hK ?_; clear hK K)
  (refine oW fun dd K hK => ?_; go_simp; refine qT hK ?_; clear hK K)
  (refine oW fun dd K hK => ?_; go_simp; refine qT hK ?_; clear hK K)
  refine ogU rfl rfl ?_
  walk_nrm
  refine ogU rfl rfl ?_
  walk_nrm
  refine ogU rfl rfl ?_
  walk_nrm
  refine ogU rfl rfl ?_
  walk_nrm
  (refine oW fun dd K hK => ?_; go_simp; refine qT hK ?_; clear hK K)
  refine ogE ?_
  rw [ovc93_eq]
  refine ogF ?_
  simp only [Bool.false_eq_true, if_false]
  refine own_go rfl (fun d => stepG_exit rfl) ?_
  exact h _ ⟨rfl, rfl, rfl, rfl, rfl, rfl, rfl, rfl, rfl, trivial⟩
set_option maxRecDepth 100000 in
set_option maxHeartbeats 2000000 in
theorem ov_t5c {v : Mine} {lf : Nat} {oa : Option Addr} {ol oc M : Nat} (hl : Lies w ⟨v.lf, 0, none⟩ (.int .i64 lf)) (hlf : 0 < lf) (lo : Lies w ⟨v.od, 0, none⟩ (.slice oa ol oc)) (lm : Lies w ⟨v.mo, 0, none⟩ (.int .i64 M)) (hM : M ≤ ol) {A : Array Value} (hA : Slots 129 A (ovRnd g v)) {cs : List Frame} {main : Bool} {Stop : Goroutine → World → Prop}
    (h : ∀ A, Slots 129 A (ovRnd g v) → Own Try.prog main F Stop (G ((Go.Conc.base 62).at ⟨A, []⟩ [.code ovs39]) cs) w) : Own Try.prog main F Stop (G ((Go.Conc.base 62).at ⟨A, []⟩ [.code ovs31, .inLoop ovs31, .inBlock 6, .code ovs39]) cs) w := by
  obtain ⟨hsz, h7, h13, h5, h6, h8, h9, h10, h11, _⟩ := hA
  obtain ⟨s, rfl⟩ := ovT_of hsz
  change s 7 = _ at h7
  change s 13 = _ at h13
  change s 5 = _ at h5
  change s 6 = _ at h6
  change s 8 = _ at h8
  change s 9 = _ at h9
  change s 10 = _ at h10
  change s 11 = _ at h11
  clear hsz
  simp only [ovT, h7, h13, h5, h6, h8, h9, h10, h11]
  clear h7 h13 h5 h6 h8 h9 h10 h11
  have c1 := hl.c
  have z1 := hl.z
  have c2 := lo.c
  have z2 := lo.z
  have c3 := lm.c
  have z3 := lm.z
  have hp : decide ((0 : Int) < (lf : Int)) = true := by simp; omega
  have hp2 : decide (0 < lf) = true := by simp; omega
  have hlt : decide ((ol : Int) < (M : Int)) = false := by simp; omega
  have hlt2 : decide (ol < M) = false := by simp; omega
  rw [ovs31_eq]
  refine ogS ?_
  rw [ovs32_eq]
  refine ogS ?_
  rw [ovr23_eq]
  refine ogR ?_
  simp only [ovo23, Code.opsOf, ovr23, Code.piece, ovBody, Try.f62, Option.getD_some, List.size_toArray, List.length_cons, List.length_nil, Nat.reduceAdd, Nat.zero_add, List.range, List.range.loop]
  (refine oW fun dd K hK => ?_; go_simp; refine qL hK ?_; clear hK K)
  (refine oW fun dd K hK => ?_; go_simp; refine qT hK ?_; clear hK K)
  (refine oW fun dd K hK => ?_; go_simp; refine qT hK ?_; clear hK K)
  (refine oW fun dd K hK => ?_; go_simp; refine qL hK ?_; clear hK K)
  (refine oW fun dd K hK => ?_; go_simp; refine qT hK ?_; clear hK K)
  (refine oW fun dd K hK => ?_; go_simp; refine qL hK ?_; clear hK K)
  (refine oW fun dd K hK => ?_; go_simp; refine qT hK ?_; clear hK K)
  (refine oW fun dd K hK => ?_; go_simp; refine qT hK ?_; clear hK K)
  refine ogE ?_
  rw [ovc93_eq]
  refine ogF ?_
  simp only [Bool.false_eq_true, if_false]
  refine own_go rfl (fun d => stepG_exit rfl) ?_
  exact h _ ⟨rfl, rfl, rfl, rfl, rfl, rfl, rfl, rfl, rfl, trivial⟩
set_option maxRecDepth 100000 in
set_option maxHeartbeats 2000000 in
theorem ov_t5a {v : Mine} {lf : Nat} {oa : Option Addr} {ol oc M : Nat} (hl : Lies w ⟨v.lf, 0, none⟩ (.int .i64 lf)) (hlf : 0 < lf) (lo : Lies w ⟨v.od, 0, none⟩ (.slice oa ol oc)) (lm : Lies w ⟨v.mo, 0, none⟩ (.int .i64 M)) (hM : ol < M) (hn : Lies w ⟨v.n, 0, none⟩ (.int .i64 g.n)) {A : Array Value} (hA : Slots 129 A (ovRnd g v)) {cs : List Frame} {main : Bool} {Stop : Goroutine → World → Prop}
    (h : ∀ A, Slots 129 A (ovRnd2 g v 0) → Own Try.prog main F Stop (G ((Go.Conc.base 62).at ⟨A, []⟩ [.code ovs35, .inLoop ovs35, .inBlock 8, .inBlock 7, .inLoop ovs31, .inBlock 6, .code ovs39]) cs) w) : Own Try.prog main F Stop (G ((Go.Conc.base 62).at ⟨A, []⟩ [.code ovs31, .inLoop ovs31, .inBlock 6, .code ovs39]) cs) w := by
  obtain ⟨hsz, h7, h13, h5, h6, h8, h9, h10, h11, _⟩ := hA
  obtain ⟨s, rfl⟩ := ovT_of hsz
  change s 7 = _ at h7
  change s 13 = _ at h13
  change s 5 = _ at h5
  change s 6 = _ at h6
  change s 8 = _ at h8
  change s 9 = _ at h9
  change s 10 = _ at h10
  change s 11 = _ at h11
  clear hsz
  simp only [ovT, h7, h13, h5, h6, h8, h9, h10, h11]
  clear h7 h13 h5 h6 h8 h9 h10 h11
  have c1 := hl.c
  have z1 := hl.z
  have c2 := lo.c
  have z2 := lo.z
  have c3 := lm.c
  have z3 := lm.z
  have hp : decide ((0 : Int) < (lf : Int)) = true := by simp; omega
  have hp2 : decide (0 < lf) = true := by simp; omega
  have hlt : decide ((ol : Int) < (M : Int)) = true := by simp; omega
  have hlt2 : decide (ol < M) = true := by simp; omega
  have c4 := hn.c
  have z4 := hn.z
  rw [ovs31_eq]
  refine ogS ?_
  rw [ovs32_eq]
  refine ogS ?_
  rw [ovr23_eq]
  refine ogR ?_
  simp only [ovo23, Code.opsOf, ovr23, Code.piece, ovBody, Try.f62, Option.getD_some, List.size_toArray, List.length_cons, List.length_nil, Nat.reduceAdd, Nat.zero_add, List.range, List.range.loop]
  (refine oW fun dd K hK => ?_; go_simp; refine qL hK ?_; clear hK K)
  (refine oW fun dd K hK => ?_; go_simp; refine qT hK ?_; clear hK K)
  (refine oW fun dd K hK => ?_; go_simp; refine qT hK ?_; clear hK K)
  (refine oW fun dd K hK => ?_; go_simp; refine qL hK ?_; clear hK K)
  (refine oW fun dd K hK => ?_; go_simp; refine qT hK ?_; clear hK K)
  (refine oW fun dd K hK => ?_; go_simp; refine qL hK ?_; clear hK K)
  (refine oW fun dd K hK => ?_; go_simp; refine qT hK ?_; clear hK K)
  (refine oW fun dd K hK => ?_; go_simp; refine qT hK ?_; clear hK K)
  refine ogE ?_
  rw [ovc93_eq]
  refine ogT ?_
  simp only [if_true]
  refine ogK ?_
  rw [ovb7_eq]
  refine ogB ?_
  rw [ovs33_eq]
  refine ogS ?_
  rw [ovr24_eq]
  refine ogR ?_
  simp only [ovo24, Code.opsOf, ovr24, Code.piece, ovBody, Try.f62, Option.getD_some, List.size_toArray, List.length_cons, List.length_nil, Nat.reduceAdd, Nat.zero_add, List.range, List.range.loop]
  (refine oW fun dd K hK => ?_; go_simp; refine qL hK ?_; clear hK K)
  (refine oW fun dd K hK => ?_; go_simp; refine qT hK ?_; clear hK K)
  refine ogE ?_
  rw [ovb8_eq]
  refine ogB ?_
  rw [ovl34_eq]
  refine ogP ?_
  exact h _ ⟨rfl, rfl, rfl, rfl, rfl, rfl, rfl, rfl, rfl, rfl, rfl, trivial⟩
set_option maxRecDepth 100000 in
set_option maxHeartbeats 2000000 in
theorem ov_t7 {v : Mine} {i : Nat} (hi : i < g.n) {A : Array Value} (hA : Slots 129 A (ovRnd2 g v i)) {cs : List Frame} {main : Bool} {Stop : Goroutine → World → Prop}
    (h : ∀ A, Slots 129 A (ovRnd2 g v i) → Own Try.prog main F Stop (G (Frame.enter Try.prog 71 (step1Args g v i) .normal) (((Go.Conc.base 62).at ⟨A, []⟩ [.inRegion ovo27 [2], .inBlock 9, .code ovr28, .inLoop ovs35, .inBlock 8, .inBlock 7, .inLoop ovs31, .inBlock 6, .code ovs39]) :: cs)) w) : Own Try.prog main F Stop (G ((Go.Conc.base 62).at ⟨A, []⟩ [.code ovs35, .inLoop ovs35, .inBlock 8, .inBlock 7, .inLoop ovs31, .inBlock 6, .code ovs39]) cs) w := by
  obtain ⟨hsz, h94, h95, h7, h13, h5, h6, h8, h9, h10, h11, _⟩ := hA
  obtain ⟨s, rfl⟩ := ovT_of hsz
  change s 94 = _ at h94
  change s 95 = _ at h95
  change s 7 = _ at h7
  change s 13 = _ at h13
  change s 5 = _ at h5
  change s 6 = _ at h6
  change s 8 = _ at h8
  change s 9 = _ at h9
  change s 10 = _ at h10
  change s 11 = _ at h11
  clear hsz
  simp only [ovT, h94, h95, h7, h13, h5, h6, h8, h9, h10, h11]
  clear h94 h95 h7 h13 h5 h6 h8 h9 h10 h11
  have hlt : decide ((i : Int) < (g.n : Int)) = true := by simp; omega
  have hlt2 : decide (i < g.n) = true := by simp; omega
  rw [ovs35_eq]
  refine ogS ?_
  rw [ovr25_eq]
  refine ogR ?_
  simp only [ovo25, Code.opsOf, ovr25, Code.piece, ovBody, Try.f62, Option.getD_some, List.size_toArray, List.length_cons, List.length_nil, Nat.reduceAdd, Nat.zero_add, List.range, List.range.loop]
  (refine oW fun dd K hK => ?_; go_simp; refine qT hK ?_; clear hK K)
  refine ogE ?_
  rw [ovs36_eq]
  refine ogS ?_
  rw [ovc96_eq]
  refine ogT ?_
  simp only [if_true]
  refine ogK ?_
  rw [ovs37_eq]
  refine ogS ?_
  rw [ovb9_eq]
  refine ogB ?_
  rw [ovs38_eq]
  refine ogS ?_
  rw [ovr26_eq]
  refine ogR ?_
  simp only [ovo26, Code.opsOf, ovr26, Code.piece, ovBody, Try.f62, Option.getD_some, List.size_toArray, List.length_cons, List.length_nil, Nat.reduceAdd, Nat.zero_add, List.range, List.range.loop]
  (refine oW fun dd K hK => ?_; go_simp; refine qT hK ?_; clear hK K)
  (refine oW fun dd K hK => ?_; go_simp; refine qT hK ?_; clear hK K)
  refine ogE ?_
  rw [ovr27_eq]
  refine ogR ?_
  simp only [ovo27, Code.opsOf, ovr27, Code.piece, ovBody, Try.f62, Option.getD_some, List.size_toArray, List.length_cons, List.length_nil, Nat.reduceAdd, Nat.zero_add, List.range, List.range.loop]
  (refine oW fun dd K hK => ?_; go_simp; refine qT hK ?_; clear hK K)
  (refine oW fun dd K hK => ?_; go_simp; refine qT hK ?_; clear hK K)
  refine own_call (f := 71) (args := step1Args g v i) rfl rfl (by decide) (fun w => by simp [execOp, Act.eval, resolve, invoke, Deferred.ofValue, callable71.run, step1Args, stepFn]) (fun w => by simp [execOp, Act.eval, resolve, invoke, Deferred.ofValue, callable71.run, callable71.quiet, step1Args, stepFn]) ?_
  exact h _ ⟨rfl, rfl, rfl, rfl, rfl, rfl, rfl, rfl, rfl, rfl, rfl, trivial⟩
set_option maxRecDepth 100000 in
set_option maxHeartbeats 2000000 in
theorem ov_t8 {v : Mine} {i : Nat} (hi : i < 10000000) {A : Array Value} (hA : Slots 129 A (ovRnd2 g v i)) {cs : List Frame} {main : Bool} {Stop : Goroutine → World → Prop}
    (h : ∀ A, Slots 129 A (ovRnd2 g v (i + 1)) → Own Try.prog main F Stop (G ((Go.Conc.base 62).at ⟨A, []⟩ [.code ovs35, .inLoop ovs35, .inBlock 8, .inBlock 7, .inLoop ovs31, .inBlock 6, .code ovs39]) cs) w) : Own Try.prog main F Stop (G (((Go.Conc.base 62).at ⟨A, []⟩ [.inRegion ovo27 [2], .inBlock 9, .code ovr28, .inLoop ovs35, .inBlock 8, .inBlock 7, .inLoop ovs31, .inBlock 6, .code ovs39]).finish (.tuple #[])) cs) w := by
  obtain ⟨hsz, h94, h95, h7, h13, h5, h6, h8, h9, h10, h11, _⟩ := hA
  obtain ⟨s, rfl⟩ := ovT_of hsz
  change s 94 = _ at h94
  change s 95 = _ at h95
  change s 7 = _ at h7
  change s 13 = _ at h13
  change s 5 = _ at h5
  change s 6 = _ at h6
  change s 8 = _ at h8
  change s 9 = _ at h9
  change s 10 = _ at h10
  change s 11 = _ at h11
  clear hsz
  simp only [ovT, h94, h95, h7, h13, h5, h6, h8, h9, h10, h11]
  clear h94 h95 h7 h13 h5 h6 h8 h9 h10 h11
  have hk64 : IntKind.i64.wrap ((i : Int) + 1) = (i : Int) + 1 := IntWalk.i64_in _ (by omega)
  rw [Frame.finish_at]
  simp only [ovo27, Code.opsOf, ovr27, Code.piece, ovBody, Try.f62, Option.getD_some, List.size_toArray, List.length_cons, List.length_nil, Nat.reduceAdd, Nat.zero_add, List.range, List.range.loop]
  walk_nrm
  refine ogE ?_
  refine ogI ?_
  rw [ovr28_eq]
  refine ogR ?_
  simp only [ovo28, Code.opsOf, ovr28, Code.piece, ovBody, Try.f62, Option.getD_some, List.size_toArray, List.length_cons, List.length_nil, Nat.reduceAdd, Nat.zero_add, List.range, List.range.loop]
  (refine oW fun dd K hK => ?_; go_simp; refine qT hK ?_; clear hK K)
  (refine oW fun dd K hK => ?_; go_simp; refine qT hK ?_; clear hK K)
  refine ogE ?_
  refine ogL ?_
  exact h _ ⟨rfl, rfl, rfl, rfl, rfl, rfl, rfl, rfl, rfl, rfl, rfl, trivial⟩
set_option maxRecDepth 100000 in
set_option maxHeartbeats 2000000 in
theorem ov_t9 {v : Mine} {A : Array Value} (hA : Slots 129 A (ovRnd2 g v g.n)) {cs : List Frame} {main : Bool} {Stop : Goroutine → World → Prop}
    (h : ∀ A, Slots 129 A (ovRnd g v) → Own Try.prog main F Stop (G ((Go.Conc.base 62).at ⟨A, []⟩ [.code ovs31, .inLoop ovs31, .inBlock 6, .code ovs39]) cs) w) : Own Try.prog main F Stop (G ((Go.Conc.base 62).at ⟨A, []⟩ [.code ovs35, .inLoop ovs35, .inBlock 8, .inBlock 7, .inLoop ovs31, .inBlock 6, .code ovs39]) cs) w := by
  obtain ⟨hsz, h94, h95, h7, h13, h5, h6, h8, h9, h10, h11, _⟩ := hA
  obtain ⟨s, rfl⟩ := ovT_of hsz
  change s 94 = _ at h94
  change s 95 = _ at h95
  change s 7 = _ at h7
  change s 13 = _ at h13
  change s 5 = _ at h5
  change s 6 = _ at h6
  change s 8 = _ at h8
  change s 9 = _ at h9
  change s 10 = _ at h10
  change s 11 = _ at h11
  clear hsz
  simp only [ovT, h94, h95, h7, h13, h5, h6, h8, h9, h10, h11]
  clear h94 h95 h7 h13 h5 h6 h8 h9 h10 h11
  have hlt : decide ((g.n : Int) < (g.n : Int)) = false := by simp
  rw [ovs35_eq]
  refine ogS ?_
  rw [ovr25_eq]
  refine ogR ?_
  simp only [ovo25, Code.opsOf, ovr25, Code.piece, ovBody, Try.f62, Option.getD_some, List.size_toArray, List.length_cons, List.length_nil, Nat.reduceAdd, Nat.zero_add, List.range, List.range.loop]
  (refine oW fun dd K hK => ?_; go_simp; refine qT hK ?_; clear hK K)
  refine ogE ?_
  rw [ovs36_eq]
  refine ogS ?_
  rw [ovc96_eq]
  refine ogF ?_
  simp only [Bool.false_eq_true, if_false]
  refine own_go rfl (fun d => stepG_exit rfl) ?_
  refine ogI ?_
  refine ogL ?_
  exact h _ ⟨rfl, rfl, rfl, rfl, rfl, rfl, rfl, rfl, rfl, trivial⟩
set_option maxRecDepth 100000 in
set_option maxHeartbeats 2000000 in
theorem ov_t10 {v : Mine} {lf : Nat} {st : Bool} (hst : decide (0 < lf) = st) (hK : g.K w) (hl : Lies w ⟨v.lf, 0, none⟩ (.int .i64 lf)) {osa : Option Addr} (hsl : g.sl = .slice osa g.n g.sc) {A : Array Value} (hA : Slots 129 A (ovRnd g v)) {cs : List Frame} {main : Bool} {Stop : Goroutine → World → Prop}
    (h : ∀ A, Slots 129 A (ovEnds g v st 0) → Own Try.prog main F Stop (G ((Go.Conc.base 62).at ⟨A, []⟩ [.code ovs43, .inLoop ovs43, .inBlock 10, .code ovs48]) cs) w) : Own Try.prog main F Stop (G ((Go.Conc.base 62).at ⟨A, []⟩ [.code ovs39]) cs) w := by
  obtain ⟨hsz, h7, h13, h5, h6, h8, h9, h10, h11, _⟩ := hA
  obtain ⟨s, rfl⟩ := ovT_of hsz
  change s 7 = _ at h7
  change s 13 = _ at h13
  change s 5 = _ at h5
  change s 6 = _ at h6
  change s 8 = _ at h8
  change s 9 = _ at h9
  change s 10 = _ at h10
  change s 11 = _ at h11
  clear hsz
  simp only [ovT, h7, h13, h5, h6, h8, h9, h10, h11]
  clear h7 h13 h5 h6 h8 h9 h10 h11
  have c1 := hl.c
  have z1 := hl.z
  have ct := (hK _ _ .tv).c
  have zt := (hK _ _ .tv).z
  have c3 := (hK _ _ .stands).c
  have z3 := (hK _ _ .stands).z
  have hst2 : decide ((0 : Int) < (lf : Int)) = st := by rw [← hst]; simp
  rw [hsl] at c3
  rw [ovs39_eq]
  refine ogS ?_
  rw [ovr29_eq]
  refine ogR ?_
  simp only [ovo29, Code.opsOf, ovr29, Code.piece, ovBody, Try.f62, Option.getD_some, List.size_toArray, List.length_cons, List.length_nil, Nat.reduceAdd, Nat.zero_add, List.range, List.range.loop]
  (refine oW fun dd K hK => ?_; go_simp; refine qL hK ?_; clear hK K)
  (refine oW fun dd K hK => ?_; go_simp; refine qT hK ?_; clear hK K)
  (refine oW fun dd K hK => ?_; go_simp; refine qT hK ?_; clear hK K)
  refine ogE ?_
  rw [ovs40_eq]
  refine ogS ?_
  rw [ovs41_eq]
  refine ogS ?_
  rw [ovr30_eq]
  refine ogR ?_
  simp only [ovo30, Code.opsOf, ovr30, Code.piece, ovBody, Try.f62, Option.getD_some, List.size_toArray, List.length_cons, List.length_nil, Nat.reduceAdd, Nat.zero_add, List.range, List.range.loop]
  (refine oW fun dd K hK => ?_; go_simp; refine qL hK ?_; clear hK K)
  (refine oW fun dd K hK => ?_; go_simp; refine qT hK ?_; clear hK K)
  (refine oW fun dd K hK => ?_; go_simp; refine qT hK ?_; clear hK K)
  (refine oW fun dd K hK => ?_; go_simp; refine qL hK ?_; clear hK K)
  (refine oW fun dd K hK => ?_; go_simp; refine qT hK ?_; clear hK K)
  (refine oW fun dd K hK => ?_; go_simp; refine qT hK ?_; clear hK K)
  refine ogE ?_
  rw [ovb10_eq]
  refine ogB ?_
  rw [ovl42_eq]
  refine ogP ?_
  exact h _ ⟨rfl, rfl, hsl.symm, rfl, rfl, rfl, rfl, rfl, rfl, rfl, rfl, trivial⟩
set_option maxRecDepth 100000 in
set_option maxHeartbeats 2000000 in
theorem ov_t11a [ok : Fits g] {v : Mine} {st : Bool} {j : Nat} [hi : Has g j] (hK : g.K w) (ho : Lies w ⟨g.st j, 2, none⟩ (.bool false)) {A : Array Value} (hA : Slots 129 A (ovEnds g v st j)) {cs : List Frame} {main : Bool} {Stop : Goroutine → World → Prop}
    (h : ∀ A, Slots 129 A (ovEnds g v st j) → Own Try.prog main F Stop (G (Frame.enter Try.prog 72 #[.pointer (some ⟨g.tb, 0, none⟩), .int .i64 j, .bool false] .normal) (((Go.Conc.base 62).at ⟨A, []⟩ [.inRegion ovo34 [2], .inBlock 11, .code ovr35, .inLoop ovs43, .inBlock 10, .code ovs48]) :: cs)) w) : Own Try.prog main F Stop (G ((Go.Conc.base 62).at ⟨A, []⟩ [.code ovs43, .inLoop ovs43, .inBlock 10, .code ovs48]) cs) w := by
  obtain ⟨hsz, h7, h107, h108, h109, h5, h6, h8, h9, h10, h11, _⟩ := hA
  obtain ⟨s, rfl⟩ := ovT_of hsz
  change s 7 = _ at h7
  change s 107 = _ at h107
  change s 108 = _ at h108
  change s 109 = _ at h109
  change s 5 = _ at h5
  change s 6 = _ at h6
  change s 8 = _ at h8
  change s 9 = _ at h9
  change s 10 = _ at h10
  change s 11 = _ at h11
  clear hsz
  simp only [ovT, h7, h107, h108, h109, h5, h6, h8, h9, h10, h11]
  clear h7 h107 h108 h109 h5 h6 h8 h9 h10 h11
  have ct := (hK _ _ .tv).c
  have zt := (hK _ _ .tv).z
  have c3 := (hK _ _ .stands).c
  have z3 := (hK _ _ .stands).z
  have hin := hi.lt
  have hsl := ok.ok.sl (Nat.lt_of_le_of_lt (Nat.zero_le _) hin)
  have c4 := (hK _ _ (.stand j hin)).c
  have z4 := (hK _ _ (.stand j hin)).z
  have c5 := ho.c
  have z5 := ho.z
  rw [hsl] at c3
  simp only [hsl]
  have hlt : decide ((j : Int) < (g.n : Int)) = true := by simp; omega
  have hlt2 : decide (j < g.n) = true := by simp; omega
  rw [ovs43_eq]
  refine ogS ?_
  rw [ovr31_eq]
  refine ogR ?_
  simp only [ovo31, Code.opsOf, ovr31, Code.piece, ovBody, Try.f62, Option.getD_some, List.size_toArray, List.length_cons, List.length_nil, Nat.reduceAdd, Nat.zero_add, List.range, List.range.loop]
  (refine oW fun dd K hK => ?_; go_simp; refine qT hK ?_; clear hK K)
  refine ogE ?_
  rw [ovs44_eq]
  refine ogS ?_
  rw [ovc110_eq]
  refine ogT ?_
  simp only [if_true]
  refine ogK ?_
  rw [ovs45_eq]
  refine ogS ?_
  rw [ovb11_eq]
  refine ogB ?_
  rw [ovs46_eq]
  refine ogS ?_
  rw [ovr32_eq]
  refine ogR ?_
  simp only [ovo32, Code.opsOf, ovr32, Code.piece, ovBody, Try.f62, Option.getD_some, List.size_toArray, List.length_cons, List.length_nil, Nat.reduceAdd, Nat.zero_add, List.range, List.range.loop]
  (refine oW fun dd K hK => ?_; go_simp; refine qT hK ?_; clear hK K)
  (refine oW fun dd K hK => ?_; go_simp; refine qX hK ?_; clear hK K)
  (refine oW fun dd K hK => ?_; go_simp; refine qL hK ?_; clear hK K)
  (refine oW fun dd K hK => ?_; go_simp; refine qT hK ?_; clear hK K)
  (refine oW fun dd K hK => ?_; go_simp; refine qT hK ?_; clear hK K)
  refine ogE ?_
  rw [ovs47_eq]
  refine ogS ?_
  rw [ovr33_eq]
  refine ogR ?_
  simp only [ovo33, Code.opsOf, ovr33, Code.piece, ovBody, Try.f62, Option.getD_some, List.size_toArray, List.length_cons, List.length_nil, Nat.reduceAdd, Nat.zero_add, List.range, List.range.loop]
  (refine oW fun dd K hK => ?_; go_simp; refine qT hK ?_; clear hK K)
  (refine oW fun dd K hK => ?_; go_simp; refine qT hK ?_; clear hK K)
  (refine oW fun dd K hK => ?_; go_simp; refine qT hK ?_; clear hK K)
  (refine oW fun dd K hK => ?_; go_simp; refine qL hK ?_; clear hK K)
  (refine oW fun dd K hK => ?_; go_simp; refine qT hK ?_; clear hK K)
  refine ogE ?_
  rw [ovc118_eq]
  refine ogT ?_
  simp only [if_true]
  rw [ovr34_eq]
  refine ogR ?_
  simp only [ovo34, Code.opsOf, ovr34, Code.piece, ovBody, Try.f62, Option.getD_some, List.size_toArray, List.length_cons, List.length_nil, Nat.reduceAdd, Nat.zero_add, List.range, List.range.loop]
  (refine oW fun dd K hK => ?_; go_simp; refine qL hK ?_; clear hK K)
  (refine oW fun dd K hK => ?_; go_simp; refine qT hK ?_; clear hK K)
  refine oc callable72 #[.pointer (some ⟨g.tb, 0, none⟩), .int .i64 j, .bool false] ?_
  exact h _ ⟨rfl, rfl, hsl.symm, rfl, rfl, rfl, rfl, rfl, rfl, rfl, rfl, trivial⟩
set_option maxRecDepth 100000 in
set_option maxHeartbeats 2000000 in
theorem ov_t12 {v : Mine} {st : Bool} {j : Nat} (hj : j < 10000000) {A : Array Value} (hA : Slots 129 A (ovEnds g v st j)) {cs : List Frame} {main : Bool} {Stop : Goroutine → World → Prop}
    (h : ∀ A, Slots 129 A (ovEnds g v st (j + 1)) → Own Try.prog main F Stop (G ((Go.Conc.base 62).at ⟨A, []⟩ [.code ovs43, .inLoop ovs43, .inBlock 10, .code ovs48]) cs) w) : Own Try.prog main F Stop (G (((Go.Conc.base 62).at ⟨A, []⟩ [.inRegion ovo34 [2], .inBlock 11, .code ovr35, .inLoop ovs43, .inBlock 10, .code ovs48]).finish (.tuple #[])) cs) w := by
  obtain ⟨hsz, h7, h107, h108, h109, h5, h6, h8, h9, h10, h11, _⟩ := hA
  obtain ⟨s, rfl⟩ := ovT_of hsz
  change s 7 = _ at h7
  change s 107 = _ at h107
  change s 108 = _ at h108
  change s 109 = _ at h109
  change s 5 = _ at h5
  change s 6 = _ at h6
  change s 8 = _ at h8
  change s 9 = _ at h9
  change s 10 = _ at h10
  change s 11 = _ at h11
  clear hsz
  simp only [ovT, h7, h107, h108, h109, h5, h6, h8, h9, h10, h11]
  clear h7 h107 h108 h109 h5 h6 h8 h9 h10 h11
  have hk64 : IntKind.i64.wrap ((j : Int) + 1) = (j : Int) + 1 := IntWalk.i64_in _ (by omega)
  rw [Frame.finish_at]
  simp only [ovo34, Code.opsOf, ovr34, Code.piece, ovBody, Try.f62, Option.getD_some, List.size_toArray, List.length_cons, List.length_nil, Nat.reduceAdd, Nat.zero_add, List.range, List.range.loop]
  walk_nrm
  refine ogE ?_
  refine ogI ?_
  rw [ovr35_eq]
  refine ogR ?_
  simp only [ovo35, Code.opsOf, ovr35, Code.piece, ovBody, Try.f62, Option.getD_some, List.size_toArray, List.length_cons, List.length_nil, Nat.reduceAdd, Nat.zero_add, List.range, List.range.loop]
  (refine oW fun dd K hK => ?_; go_simp; refine qT hK ?_; clear hK K)
  (refine oW fun dd K hK => ?_; go_simp; refine qT hK ?_; clear hK K)
  refine ogE ?_
  refine ogL ?_
  exact h _ ⟨rfl, rfl, rfl, rfl, rfl, rfl, rfl, rfl, rfl, rfl, rfl, trivial⟩
set_option maxRecDepth 100000 in
set_option maxHeartbeats 2000000 in
theorem ov_t13 [ok : Fits g] {v : Mine} {st : Bool} {j : Nat} [hi : Has g j] (hn64 : g.n ≤ 64) (hK : g.K w) (ho : Lies w ⟨g.st j, 2, none⟩ (.bool true)) {A : Array Value} (hA : Slots 129 A (ovEnds g v st j)) {cs : List Frame} {main : Bool} {Stop : Goroutine → World → Prop}
    (h : ∀ A, Slots 129 A (ovEnds g v st (j + 1)) → Own Try.prog main F Stop (G ((Go.Conc.base 62).at ⟨A, []⟩ [.code ovs43, .inLoop ovs43, .inBlock 10, .code ovs48]) cs) w) : Own Try.prog main F Stop (G ((Go.Conc.base 62).at ⟨A, []⟩ [.code ovs43, .inLoop ovs43, .inBlock 10, .code ovs48]) cs) w := by
  obtain ⟨hsz, h7, h107, h108, h109, h5, h6, h8, h9, h10, h11, _⟩ := hA
  obtain ⟨s, rfl⟩ := ovT_of hsz
  change s 7 = _ at h7
  change s 107 = _ at h107
  change s 108 = _ at h108
  change s 109 = _ at h109
  change s 5 = _ at h5
  change s 6 = _ at h6
  change s 8 = _ at h8
  change s 9 = _ at h9
  change s 10 = _ at h10
  change s 11 = _ at h11
  clear hsz
  simp only [ovT, h7, h107, h108, h109, h5, h6, h8, h9, h10, h11]
  clear h7 h107 h108 h109 h5 h6 h8 h9 h10 h11
  have ct := (hK _ _ .tv).c
  have zt := (hK _ _ .tv).z
  have c3 := (hK _ _ .stands).c
  have z3 := (hK _ _ .stands).z
  have hin := hi.lt
  have hsl := ok.ok.sl (Nat.lt_of_le_of_lt (Nat.zero_le _) hin)
  have c4 := (hK _ _ (.stand j hin)).c
  have z4 := (hK _ _ (.stand j hin)).z
  have c5 := ho.c
  have z5 := ho.z
  rw [hsl] at c3
  simp only [hsl]
  have hlt : decide ((j : Int) < (g.n : Int)) = true := by simp; omega
  have hlt2 : decide (j < g.n) = true := by simp; omega
  have hk64 : IntKind.i64.wrap ((j : Int) + 1) = (j : Int) + 1 := IntWalk.i64_in _ (by omega)
  rw [ovs43_eq]
  refine ogS ?_
  rw [ovr31_eq]
  refine ogR ?_
  simp only [ovo31, Code.opsOf, ovr31, Code.piece, ovBody, Try.f62, Option.getD_some, List.size_toArray, List.length_cons, List.length_nil, Nat.reduceAdd, Nat.zero_add, List.range, List.range.loop]
  (refine oW fun dd K hK => ?_; go_simp; refine qT hK ?_; clear hK K)
  refine ogE ?_
  rw [ovs44_eq]
  refine ogS ?_
  rw [ovc110_eq]
  refine ogT ?_
  simp only [if_true]
  refine ogK ?_
  rw [ovs45_eq]
  refine ogS ?_
  rw [ovb11_eq]
  refine ogB ?_
  rw [ovs46_eq]
  refine ogS ?_
  rw [ovr32_eq]
  refine ogR ?_
  simp only [ovo32, Code.opsOf, ovr32, Code.piece, ovBody, Try.f62, Option.getD_some, List.size_toArray, List.length_cons, List.length_nil, Nat.reduceAdd, Nat.zero_add, List.range, List.range.loop]
  (refine oW fun dd K hK => ?_; go_simp; refine qT hK ?_; clear hK K)
  (refine oW fun dd K hK => ?_; go_simp; refine qX hK ?_; clear hK K)
  (refine oW fun dd K hK => ?_; go_simp; refine qL hK ?_; clear hK K)
  (refine oW fun dd K hK => ?_; go_simp; refine qT hK ?_; clear hK K)
  (refine oW fun dd K hK => ?_; go_simp; refine qT hK ?_; clear hK K)
  refine ogE ?_
  rw [ovs47_eq]
  refine ogS ?_
  rw [ovr33_eq]
  refine ogR ?_
  simp only [ovo33, Code.opsOf, ovr33, Code.piece, ovBody, Try.f62, Option.getD_some, List.size_toArray, List.length_cons, List.length_nil, Nat.reduceAdd, Nat.zero_add, List.range, List.range.loop]
  (refine oW fun dd K hK => ?_; go_simp; refine qT hK ?_; clear hK K)
  (refine oW fun dd K hK => ?_; go_simp; refine qT hK ?_; clear hK K)
  (refine oW fun dd K hK => ?_; go_simp; refine qT hK ?_; clear hK K)
  (refine oW fun dd K hK => ?_; go_simp; refine qL hK ?_; clear hK K)
  (refine oW fun dd K hK => ?_; go_simp; refine qT hK ?_; clear hK K)
  refine ogE ?_
  rw [ovc118_eq]
  refine ogF ?_
  simp only [Bool.false_eq_true, if_false]
  refine ogK ?_
  refine ogI ?_
  rw [ovr35_eq]
  refine ogR ?_
  simp only [ovo35, Code.opsOf, ovr35, Code.piece, ovBody, Try.f62, Option.getD_some, List.size_toArray, List.length_cons, List.length_nil, Nat.reduceAdd, Nat.zero_add, List.range, List.range.loop]
  (refine oW fun dd K hK => ?_; go_simp; refine qT hK ?_; clear hK K)
  (refine oW fun dd K hK => ?_; go_simp; refine qT hK ?_; clear hK K)
  refine ogE ?_
  refine ogL ?_
  exact h _ ⟨rfl, rfl, hsl.symm, rfl, rfl, rfl, rfl, rfl, rfl, rfl, rfl, trivial⟩
set_option maxRecDepth 100000 in
set_option maxHeartbeats 2000000 in
theorem ov_t14 {v : Mine} {st : Bool} {A : Array Value} (hA : Slots 129 A (ovEnds g v st g.n)) {cs : List Frame} {main : Bool} {Stop : Goroutine → World → Prop}
    (h : ∀ A, Slots 129 A (ovEnds g v st g.n) → Own Try.prog main F Stop (G ((Go.Conc.base 62).at ⟨A, []⟩ [.code ovs48]) cs) w) : Own Try.prog main F Stop (G ((Go.Conc.base 62).at ⟨A, []⟩ [.code ovs43, .inLoop ovs43, .inBlock 10, .code ovs48]) cs) w := by
  obtain ⟨hsz, h7, h107, h108, h109, h5, h6, h8, h9, h10, h11, _⟩ := hA
  obtain ⟨s, rfl⟩ := ovT_of hsz
  change s 7 = _ at h7
  change s 107 = _ at h107
  change s 108 = _ at h108
  change s 109 = _ at h109
  change s 5 = _ at h5
  change s 6 = _ at h6
  change s 8 = _ at h8
  change s 9 = _ at h9
  change s 10 = _ at h10
  change s 11 = _ at h11
  clear hsz
  simp only [ovT, h7, h107, h108, h109, h5, h6, h8, h9, h10, h11]
  clear h7 h107 h108 h109 h5 h6 h8 h9 h10 h11
  have hlt : decide ((g.n : Int) < (g.n : Int)) = false := by simp
  rw [ovs43_eq]
  refine ogS ?_
  rw [ovr31_eq]
  refine ogR ?_
  simp only [ovo31, Code.opsOf, ovr31, Code.piece, ovBody, Try.f62, Option.getD_some, List.size_toArray, List.length_cons, List.length_nil, Nat.reduceAdd, Nat.zero_add, List.range, List.range.loop]
  (refine oW fun dd K hK => ?_; go_simp; refine qT hK ?_; clear hK K)
  refine ogE ?_
  rw [ovs44_eq]
  refine ogS ?_
  rw [ovc110_eq]
  refine ogF ?_
  simp only [Bool.false_eq_true, if_false]
  refine own_go rfl (fun d => stepG_exit rfl) ?_
  exact h _ ⟨rfl, rfl, rfl, rfl, rfl, rfl, rfl, rfl, rfl, rfl, rfl, trivial⟩
end Go.Proofs.Ytcejbandeikdjaa
namespace Go.Proofs.Ytcejbandeikdjaa
open Go Go.Conc Go.RowKit Go.Proofs
open Go.ConcN (sumTo upd sumTo_upd upd_ne upd_same)
variable {g : Gate} {F : Fz} {Z : Users} {x y : Z.X} {w w' : World} {s0 nn h : Nat} {Gl : Machine → Trace → Prop} {v : Mine} {base M : Nat} {Inb : Nat → Option Seat}
theorem tok_go [ok : Fits g] {SL : List (Nat × Value)} {a : Goroutine} (Φ : Array Value → Goroutine) (ho : ∀ Stop : Goroutine → World → Prop, (∀ A, Slots 129 A SL → Own Try.prog (h == 0) (FK g) Stop (Φ A) w) → Own Try.prog (h == 0) (FK g) Stop a w)
    (hk : ∀ A d, Slots 129 A SL → Tok Try.prog g.K g.Still g.top Gl Inb h nn (Φ A) (w.at d)) : Tok Try.prog g.K g.Still g.top Gl Inb h nn a w := by
  refine tok_own (F := FK g) (Stop := fun a u => ∃ A, Slots 129 A SL ∧ a = Φ A ∧ ∃ d, u = w.at d) K_at fk_covers fk_K (ho _ fun A hA => .stop fun d => ⟨A, hA, rfl, d, rfl⟩) fun g' w0 d hS => ?_
  obtain ⟨A, hA, rfl, d', e⟩ := hS d
  rw [e]
  exact hk A d' hA
theorem turns_append {n : Nat} {l m : List Int} {s t : Z.X × List Nat} : Turns Z n M (l ++ m) s t ↔ ∃ u, Turns Z n M l s u ∧ Turns Z n M m u t := by
  induction l generalizing s with
  | nil => simp [Turns]
  | cons i l ih =>
    simp only [List.cons_append, Turns, ih]
    constructor
    · rintro ⟨u, h1, v, h2, h3⟩; exact ⟨v, ⟨u, h1, h2⟩, h3⟩
    · rintro ⟨v, ⟨u, h1, h2⟩, h3⟩; exact ⟨u, h1, v, h2, h3⟩
theorem turns_one {n : Nat} {i : Int} {s t : Z.X × List Nat} : Turns Z n M [i] s t ↔ Turn Z n M s i t := by
  simp only [Turns]
  constructor
  · rintro ⟨u, h, rfl⟩; exact h
  · exact fun h => ⟨t, h, rfl⟩
theorem turn_len {n : Nat} {i : Int} {s t : Z.X × List Nat} (h : Turn Z n M s i t) : s.2.length ≤ t.2.length ∧ (t.2.length = s.2.length → t = s) := by
  unfold Turn at h
  split at h
  · rw [h.2]; simp
  · rw [h]; simp
theorem turns_len {n : Nat} {l : List Int} {s t : Z.X × List Nat} (h : Turns Z n M l s t) : s.2.length ≤ t.2.length ∧ (t.2.length = s.2.length → t = s ∧ ∀ i ∈ l, Turn Z n M s i s) := by
  induction l generalizing s with
  | nil => simp only [Turns] at h; subst h; simp
  | cons i l ih =>
    obtain ⟨u, h1, h2⟩ := h
    obtain ⟨a1, a2⟩ := turn_len h1
    obtain ⟨b1, b2⟩ := ih h2
    refine ⟨Nat.le_trans a1 b1, fun e => ?_⟩
    have e1 : u = s := a2 (by omega)
    subst e1
    obtain ⟨c1, c2⟩ := b2 e
    exact ⟨c1, fun j hj => by
      rcases List.mem_cons.1 hj with rfl | hj
      · exact h1
      · exact c2 j hj⟩
theorem round_grows {n : Nat} {s t : Z.X × List Nat} (hc : 0 < cnt (Z.liv s.1) n) (hl : s.2.length < M) (h : Turns Z n M ((List.range n).map fun j : Nat => (j : Int)) s t) : s.2.length < t.2.length := by
  obtain ⟨h1, h2⟩ := turns_len h
  rcases Nat.lt_or_eq_of_le h1 with h1 | h1
  · exact h1
  exfalso
  obtain ⟨_, h3⟩ := h2 h1.symm
  have : ∃ j, j < n ∧ Z.liv s.1 j = true := by
    apply Classical.byContradiction
    intro hno
    have : cnt (Z.liv s.1) n = 0 := cnt_zero.2 fun j hj => by
      cases e : Z.liv s.1 j with
      | false => rfl
      | true => exact absurd ⟨j, hj, e⟩ hno
    omega
  obtain ⟨j, hj, hlj⟩ := this
  have ht := h3 j (by simp; exact ⟨j, hj, rfl⟩)
  unfold Turn at ht
  rw [if_pos ⟨by omega, by omega, by simpa using hlj, by omega⟩] at ht
  have := congrArg List.length ht.2
  simp at this
theorem tok_sched [ok : Fits g] (zok : Z.Ok g) (hs0 : 0 < s0) (hM : M ≤ 1048576) (hn64 : g.n ≤ 64) {S : List Int} {sa : Option Addr} {sb so sc : Nat} (hsa : 0 < S.length → sa = some ⟨sb, so, none⟩) (hS : RowIs Z sb so (S.map fun i : Int => Value.int .i64 i)) (hSl : S.length < 9223372036854775808) {cs : List Frame} {st : Z.X × List Nat}
    (hk : ∀ t Inb w A, Turns Z g.n M S st t → Under2 Z g v base M s0 t Inb w → Slots 129 A (ovRnd g v) → Tok Try.prog g.K g.Still g.top Gl Inb 0 (s0 + g.n) (G ((Go.Conc.base 62).at ⟨A, []⟩ [.code ovs31, .inLoop ovs31, .inBlock 6, .code ovs39]) cs) w) :
    ∀ (k j : Nat), j + k = S.length → ∀ s Inb w A, Turns Z g.n M (S.take j) st s → Under2 Z g v base M s0 s Inb w → Slots 129 A (ovSched g v (.slice sa S.length sc) S.length j) →
      Tok Try.prog g.K g.Still g.top Gl Inb 0 (s0 + g.n) (G ((Go.Conc.base 62).at ⟨A, []⟩ [.code ovs25, .inLoop ovs25, .inBlock 4, .code ovs29]) cs) w := by
  intro k
  induction k with
  | zero =>
    intro j hj s Inb w A ht hU hA
    obtain rfl : j = S.length := by omega
    rw [List.take_length] at ht
    exact tok_go _ (fun Stop h => ov_t4 hA h) fun A d hA => hk s _ _ A ht (hU.at zok d) hA
  | succ k ih =>
    intro j hj s Inb w A ht hU hA
    have hjl : j < S.length := by omega
    obtain rfl := hsa (by omega)
    have hU' := hU
    obtain ⟨hlen, vs, N, oa, oc, ms, rfl, HT, HM⟩ := hU'
    obtain ⟨hc, hz⟩ := hS.cell (k := j) (u := .int .i64 S[j]) zok HT.u (by simp [hjl])
    refine tok_go (fun A => G (Frame.enter Try.prog 71 (step1Args g v S[j]) .normal) (((Go.Conc.base 62).at ⟨A, []⟩ [.inRegion ovo21 [2], .inBlock 5, .code ovr22, .inLoop ovs25, .inBlock 4, .code ovs29]) :: cs)) (fun Stop h => ov_t2 hjl hSl hc hz hA h) fun A d hA => ?_
    refine tok_any zok hs0 hM hn64 (hU.at zok d) fun t Inb' w' htn hU' => ?_
    refine tok_go _ (fun Stop h => ov_t3 (by omega) hA h) fun A d hA => ?_
    refine ih (j + 1) (by omega) t Inb' _ A ?_ (hU'.at zok d) hA
    rw [← List.take_append_getElem hjl]
    exact turns_append.2 ⟨s, ht, turns_one.2 htn⟩
theorem tok_round [ok : Fits g] (zok : Z.Ok g) (hs0 : 0 < s0) (hM : M ≤ 1048576) (hn64 : g.n ≤ 64) {cs : List Frame} {st : Z.X × List Nat}
    (hk : ∀ t Inb w A, Turns Z g.n M ((List.range g.n).map fun j : Nat => (j : Int)) st t → Under2 Z g v base M s0 t Inb w → Slots 129 A (ovRnd g v) → Tok Try.prog g.K g.Still g.top Gl Inb 0 (s0 + g.n) (G ((Go.Conc.base 62).at ⟨A, []⟩ [.code ovs31, .inLoop ovs31, .inBlock 6, .code ovs39]) cs) w) :
    ∀ (k j : Nat), j + k = g.n → ∀ s Inb w A, Turns Z g.n M ((List.range j).map fun j : Nat => (j : Int)) st s → Under2 Z g v base M s0 s Inb w → Slots 129 A (ovRnd2 g v j) →
      Tok Try.prog g.K g.Still g.top Gl Inb 0 (s0 + g.n) (G ((Go.Conc.base 62).at ⟨A, []⟩ [.code ovs35, .inLoop ovs35, .inBlock 8, .inBlock 7, .inLoop ovs31, .inBlock 6, .code ovs39]) cs) w := by
  intro k
  induction k with
  | zero =>
    intro j hj s Inb w A ht hU hA
    obtain rfl : j = g.n := by omega
    exact tok_go _ (fun Stop h => ov_t9 hA h) fun A d hA => hk s _ _ A ht (hU.at zok d) hA
  | succ k ih =>
    intro j hj s Inb w A ht hU hA
    refine tok_go (fun A => G (Frame.enter Try.prog 71 (step1Args g v j) .normal) (((Go.Conc.base 62).at ⟨A, []⟩ [.inRegion ovo27 [2], .inBlock 9, .code ovr28, .inLoop ovs35, .inBlock 8, .inBlock 7, .inLoop ovs31, .inBlock 6, .code ovs39]) :: cs)) (fun Stop h => ov_t7 (by omega) hA h) fun A d hA => ?_
    refine tok_any zok hs0 hM hn64 (hU.at zok d) fun t Inb' w' htn hU' => ?_
    refine tok_go _ (fun Stop h => ov_t8 (by omega) hA h) fun A d hA => ?_
    refine ih (j + 1) (by omega) t Inb' _ A ?_ (hU'.at zok d) hA
    rw [List.range_succ, List.map_append]
    exact turns_append.2 ⟨s, ht, turns_one.2 htn⟩
theorem tok_rounds [ok : Fits g] (zok : Z.Ok g) (hs0 : 0 < s0) (hM : M ≤ 1048576) (hn64 : g.n ≤ 64) {cs : List Frame} :
    ∀ (m : Nat) (s : Z.X × List Nat), M - s.2.length ≤ m → ∀ Inb w A, (∀ t Inb w A, Rounds Z g.n M s t → Under2 Z g v base M s0 t Inb w → Slots 129 A (ovRnd g v) → Tok Try.prog g.K g.Still g.top Gl Inb 0 (s0 + g.n) (G ((Go.Conc.base 62).at ⟨A, []⟩ [.code ovs39]) cs) w) →
      Under2 Z g v base M s0 s Inb w → Slots 129 A (ovRnd g v) →
      Tok Try.prog g.K g.Still g.top Gl Inb 0 (s0 + g.n) (G ((Go.Conc.base 62).at ⟨A, []⟩ [.code ovs31, .inLoop ovs31, .inBlock 6, .code ovs39]) cs) w := by
  intro m
  induction m with
  | zero => ?_
  | succ m ih => ?_
  all_goals
    intro s hm Inb w A hk hU hA
    have hU' := hU
    obtain ⟨hlen, vs, N, oa, oc, ms, rfl, HT, HM⟩ := hU'
    obtain ⟨cod, hod1, hod2⟩ := HM.od
    rcases Nat.eq_zero_or_pos (cnt (Z.liv s.1) g.n) with h0 | h0
    · have hl := HM.lf
      rw [h0] at hl
      exact tok_go _ (fun Stop h => ov_t5b hl hA h) fun A d hA => hk s _ _ A (.done (.inl h0)) (hU.at zok d) hA
    by_cases hfull : M ≤ s.2.length
    · exact tok_go _ (fun Stop h => ov_t5c HM.lf h0 ⟨⟨cod, _, hod1, hod2⟩, rfl⟩ HM.mo hfull hA h) fun A d hA => hk s _ _ A (.done (.inr hfull)) (hU.at zok d) hA
    first
    | (exfalso; omega)
    | (refine tok_go _ (fun Stop h => ov_t5a HM.lf h0 ⟨⟨cod, _, hod1, hod2⟩, rfl⟩ HM.mo (by omega) HM.n hA h) fun A d hA => ?_
       refine tok_round zok hs0 hM hn64 (st := s) (fun t Inb w A ht hU hA => ?_) g.n 0 (by omega) s _ _ A rfl (hU.at zok d) hA
       have := round_grows h0 (by omega) ht
       exact ih t (by omega) Inb w A (fun t' Inb w A hr => hk t' Inb w A (.more h0 (by omega) ht hr)) hU hA)
end Go.Proofs.Ytcejbandeikdjaa
namespace Go.Proofs.Ytcejbandeikdjaa
open Go Go.Conc Go.RowKit Go.Proofs
open Go.ConcN (sumTo upd sumTo_upd upd_ne upd_same)
variable {g : Gate} {F : Fz} {Z : Users} {x y : Z.X} {w w' : World} {s0 nn h : Nat} {Gl : Machine → Trace → Prop} {v : Mine} {base M : Nat} {Inb : Nat → Option Seat}
theorem tok_bes' {An : Anchor} {P : Program} {K : World → Prop} (hKA : ∀ w, K w → An.Holds w) {Still : Loc → Prop} {B0 n : Nat} {Stop : Goroutine → World → Prop} {a : Goroutine} (hI : ∀ i, i ≠ 0 → Inb i = none) (h : Bes An P Stop a w) : Tok P K Still B0 (BesG An P Stop) Inb 0 n a w := by
  intro gs sl T q B hB hn hg C
  obtain ⟨hL, hP⟩ := ring_end C (.inr rfl) hI
  obtain ⟨N, gs', g', w', sl', T', q', B', hr, hg', hS', hL', hP', hA'⟩ := h gs sl T q B hg hL hP (hKA _ C.keep)
  exact ⟨N, _, T', hr, gs', g', w', sl', q', B', rfl, hg', hS', hL', hP', hA'⟩
def lateA (Z : Users) (x : Z.X) (n j : Nat) : Nat → Bool := fun k => decide (j ≤ k) && (decide (k < n) && Z.liv x k)
def lateO (Z : Users) (x : Z.X) (n j : Nat) : Nat → Bool := fun k => decide (k < n) && (!Z.liv x k || decide (k < j))
theorem lateA_next {n j : Nat} : (fun k => lateA Z x n j k && k != j) = lateA Z x n (j + 1) := by
  funext k
  unfold lateA
  by_cases e : k = j
  · subst e; simp; omega
  · have e1 : (k != j) = true := by simpa using e
    have e2 : decide (j ≤ k) = decide (j + 1 ≤ k) := by by_cases h : j ≤ k <;> simp [h] <;> omega
    rw [e1, e2]; simp
theorem lateO_next {n j : Nat} (hj : j < n) : (fun k => if k = j then true else lateO Z x n j k) = lateO Z x n (j + 1) := by
  funext k
  unfold lateO
  by_cases e : k = j
  · subst e; simp [hj]
  · have e2 : decide (k < j) = decide (k < j + 1) := by by_cases h : k < j <;> simp [h] <;> omega
    rw [if_neg e, e2]
theorem lateA_skip {n j : Nat} (hl : Z.liv x j = false) : lateA Z x n j = lateA Z x n (j + 1) := by
  rw [← lateA_next]
  funext k
  by_cases e : k = j
  · subst e; simp [lateA, hl]
  · have e1 : (k != j) = true := by simpa using e
    rw [e1]; simp
theorem lateO_skip {n j : Nat} (hj : j < n) (hl : Z.liv x j = false) : lateO Z x n j = lateO Z x n (j + 1) := by
  rw [← lateO_next hj]
  funext k
  by_cases e : k = j
  · subst e; simp [lateO, hl, hj]
  · rw [if_neg e]
theorem tok_kills [ok : Fits g] (zok : Z.Ok g) (hs0 : 0 < s0) (hn64 : g.n ≤ 64) {osa : Option Addr} (hsl : g.sl = .slice osa g.n g.sc) {oa0 : Unit} {cs : List Frame} {x : Z.X} {ord : List Nat} {st : Bool} {lf : Nat} {Stop : Goroutine → World → Prop}
    (hk : ∀ w A vs N oa oc ov, TI Z g (fun _ => False) vs N ov x w → MI Z g vs (fun _ => False) N v base M oa ord.length oc (ord.map fun i : Nat => Value.int .i64 i) lf w → g.K w → Slots 129 A (ovEnds g v st g.n) → Bes g.an Try.prog Stop (G ((Go.Conc.base 62).at ⟨A, []⟩ [.code ovs48]) cs) w) :
    ∀ (k j : Nat), j + k = g.n → ∀ w A vs N oa oc ms, TI Z g (fun k => lateA Z x g.n j k = true) vs N (lateO Z x g.n j) x w → MI Z g vs (fun k => lateA Z x g.n j k = true) N v base M oa ord.length oc (ord.map fun i : Nat => Value.int .i64 i) lf w → Slots 129 A (ovEnds g v st j) →
      Tok Try.prog g.K g.Still g.top (BesG g.an Try.prog Stop) (inb Z g s0 (lateA Z x g.n j) vs ms x) 0 (s0 + g.n) (G ((Go.Conc.base 62).at ⟨A, []⟩ [.code ovs43, .inLoop ovs43, .inBlock 10, .code ovs48]) cs) w := by
  intro k
  induction k with
  | zero =>
    intro j hj w A vs N oa oc ms H HM hA
    obtain rfl : j = g.n := by omega
    refine tok_intro fun _ hK _ => ?_
    refine tok_go _ (fun Stop h => ov_t14 hA h) fun A d hA => ?_
    have hno : ∀ k, ¬ lateA Z x g.n g.n k = true := fun k hk => by
      simp only [lateA, Bool.and_eq_true, decide_eq_true_eq] at hk; omega
    refine tok_bes' (fun w h => h.an) (fun i hi => ?_) (hk _ A vs N oa oc _ ((H.mono fun j hj => hj.elim).at zok d) ((HM.mono fun j hj => hj.elim).at d) (hK.at d) hA)
    unfold inb
    rw [if_neg hi, if_neg fun h => hno _ h.2]
  | succ k ih =>
    intro j hj w A vs N oa oc ms H HM hA
    have hin : j < g.n := by omega
    have hiH : Has g j := ⟨hin⟩
    refine tok_intro fun _ hK _ => ?_
    have ho := H.over j hin
    rcases Bool.eq_false_or_eq_true (Z.liv x j) with hl | hl
    · have e0 : lateO Z x g.n j j = false := by simp [lateO, hl]
      have eA : lateA Z x g.n j j = true := by simp [lateA, hl, hin]
      rw [e0] at ho
      refine tok_go (fun A => G (Frame.enter Try.prog 72 #[.pointer (some ⟨g.tb, 0, none⟩), .int .i64 j, .bool false] .normal) (((Go.Conc.base 62).at ⟨A, []⟩ [.inRegion ovo34 [2], .inBlock 11, .code ovr35, .inLoop ovs43, .inBlock 10, .code ovs48]) :: cs)) (fun Stop h => ov_t11a hK ho hA h) fun A d hA => ?_
      refine tok_let_end zok hs0 (fun k hk => ?_) eA hl (H.at zok d) e0 fun w1 H1 k1 => ?_
      · simp only [lateA, Bool.and_eq_true, decide_eq_true_eq] at hk
        exact ⟨hk.2.1, by omega⟩
      have eP : (fun k => (lateA Z x g.n j k && k != j) = true) = fun k => lateA Z x g.n (j + 1) k = true := by
        funext k; rw [show (lateA Z x g.n j k && k != j) = _ from congrFun lateA_next k]
      rw [eP, lateO_next hin] at H1
      rw [lateA_next]
      have HM1 := ((HM.at d).kept hin eA k1).mono (Al' := fun k => lateA Z x g.n (j + 1) k = true) fun k hk => by
        rw [← lateA_next] at hk
        simp only [Bool.and_eq_true] at hk
        exact hk.1
      refine tok_go _ (fun Stop h => ov_t12 (by omega) hA h) fun A d hA => ?_
      exact ih (j + 1) (by omega) _ A vs N oa oc _ (H1.at zok d) (HM1.at d) hA
    · have e0 : lateO Z x g.n j j = true := by simp [lateO, hl, hin]
      rw [e0] at ho
      refine tok_go _ (fun Stop h => ov_t13 hn64 hK ho hA h) fun A d hA => ?_
      have H1 := H.at zok d
      have HM1 := HM.at d
      rw [lateA_skip hl] at HM1 ⊢
      rw [lateA_skip hl, lateO_skip hin hl] at H1
      exact ih (j + 1) (by omega) _ A vs N oa oc _ H1 HM1 hA
theorem tok_ends [ok : Fits g] (zok : Z.Ok g) (hs0 : 0 < s0) (hn64 : g.n ≤ 64) {osa : Option Addr} (hsl : g.sl = .slice osa g.n g.sc) {cs : List Frame} {s : Z.X × List Nat} {Stop : Goroutine → World → Prop}
    (hk : ∀ w A vs N oa oc ov, TI Z g (fun _ => False) vs N ov s.1 w → MI Z g vs (fun _ => False) N v base M oa s.2.length oc (s.2.map fun i : Nat => Value.int .i64 i) (cnt (Z.liv s.1) g.n) w → g.K w → Slots 129 A (ovEnds g v (decide (0 < cnt (Z.liv s.1) g.n)) g.n) → Bes g.an Try.prog Stop (G ((Go.Conc.base 62).at ⟨A, []⟩ [.code ovs48]) cs) w)
    {A : Array Value} (hU : Under2 Z g v base M s0 s Inb w) (hA : Slots 129 A (ovRnd g v)) :
    Tok Try.prog g.K g.Still g.top (BesG g.an Try.prog Stop) Inb 0 (s0 + g.n) (G ((Go.Conc.base 62).at ⟨A, []⟩ [.code ovs39]) cs) w := by
  obtain ⟨hlen, vs, N, oa, oc, ms, rfl, HT, HM⟩ := hU
  refine tok_intro fun _ hK _ => ?_
  refine tok_go _ (fun Stop h => ov_t10 rfl hK HM.lf hsl hA h) fun A d hA => ?_
  have eA : (fun j => decide (j < g.n) && Z.liv s.1 j) = lateA Z s.1 g.n 0 := by funext k; simp [lateA]
  have eO : (fun j => decide (j < g.n) && !Z.liv s.1 j) = lateO Z s.1 g.n 0 := by funext k; simp [lateO]
  have eP : (fun j => (decide (j < g.n) && Z.liv s.1 j) = true) = fun k => lateA Z s.1 g.n 0 k = true := by funext k; rw [show (decide (k < g.n) && Z.liv s.1 k) = _ from congrFun eA k]
  rw [eP] at HT HM
  rw [eO] at HT
  rw [eA]
  exact tok_kills (oa0 := ()) zok hs0 hn64 hsl (ord := s.2) (st := decide (0 < cnt (Z.liv s.1) g.n)) (lf := cnt (Z.liv s.1) g.n) hk g.n 0 (by omega) _ A vs N oa oc ms (HT.at zok d) (HM.at d) hA
end Go.Proofs.Ytcejbandeikdjaa
namespace Go.Proofs.Ytcejbandeikdjaa
open Go Go.Conc Go.RowKit Go.Proofs
variable {P : Program} {F : Fz} {fn : FuncId} {ops : Array Oper} {S : World → Prop} {last : Nat} {Z : Act → World → Prop}
def OpM (P : Program) (F : Fz) (fn : FuncId) (ops : Array Oper) (i : Nat) (K : Act → World → Prop) (a : Act) (w : World) : Prop :=
  ∃ o, ops[i]? = some o ∧ ((Region.wanted o (yielded ops a.tmps) = true ∧ ∀ d, uponK o a (fun a' w' => GuarE F (w.at d) w' (listed P fn a o (w.at d)) ∧ K a' w') ((execOp a.eval o).run P (w.at d))) ∨
    (Region.wanted o (yielded ops a.tmps) = false ∧ K (a.put o.dst undef) w))
def AnyM (P : Program) (F : Fz) (fn : FuncId) (ops : Array Oper) (S : World → Prop) (last : Nat) (Z : Act → World → Prop) : Nat → Array Bool → Act → World → Prop
  | 0, listed, a, w => ((∀ j ∈ Region.ready .any ops listed, j = last) → Z a w) ∧ ∀ j ∈ Region.ready .any ops listed, j = last
  | fuel + 1, listed, a, w => ((∀ j ∈ Region.ready .any ops listed, j = last) → Z a w) ∧ ∀ i ∈ Region.ready .any ops listed, i ≠ last → OpM P F fn ops i (fun a w => S w ∧ AnyM P F fn ops S last Z fuel (listed.setIfInBounds i true) a w) a w
theorem uponK_mono {o : Oper} {a : Act} {K K' : Act → World → Prop} {r : Result Next} (h : ∀ u w, K (a.put o.dst u) w → K' (a.put o.dst u) w) (hh : uponK o a K r) : uponK o a K' r := by
  cases r with
  | ok x w => cases x <;> first | exact h _ _ hh | exact hh
  | halt _ _ => exact hh
theorem OpM_mono {i : Nat} {a : Act} {w : World} {K K' : Act → World → Prop} (h : ∀ a w, K a w → K' a w) (hh : OpM P F fn ops i K a w) : OpM P F fn ops i K' a w := by
  obtain ⟨o, h1, ⟨h2, h3⟩ | ⟨h2, h3⟩⟩ := hh
  · exact ⟨o, h1, .inl ⟨h2, fun d => uponK_mono (fun u w ⟨x, y⟩ => ⟨x, h _ _ y⟩) (h3 d)⟩⟩
  · exact ⟨o, h1, .inr ⟨h2, h _ _ h3⟩⟩
theorem OpM_at {i : Nat} {a : Act} {w : World} {K : Act → World → Prop} (hK : ∀ a w d, K a w → K a (World.at w d)) (h : OpM P F fn ops i K a w) (d : Nat) : OpM P F fn ops i K a (w.at d) := by
  obtain ⟨o, h1, ⟨h2, h3⟩ | ⟨h2, h3⟩⟩ := h
  · exact ⟨o, h1, .inl ⟨h2, fun d' => by rw [at_at']; exact h3 d'⟩⟩
  · exact ⟨o, h1, .inr ⟨h2, hK _ _ _ h3⟩⟩
theorem anyM_at (hS : ∀ w d, S w → S (World.at w d)) (hZ : ∀ a w d, Z a w → Z a (World.at w d)) : ∀ (fuel : Nat) (listed : Array Bool) (a : Act) (w : World), AnyM P F fn ops S last Z fuel listed a w → ∀ d, AnyM P F fn ops S last Z fuel listed a (w.at d) := by
  intro fuel
  induction fuel with
  | zero => exact fun listed a w h d => ⟨fun x => hZ _ _ _ (h.1 x), h.2⟩
  | succ fuel ih => exact fun listed a w h d => ⟨fun x => hZ _ _ _ (h.1 x), fun i hi hl => OpM_at (fun a w d ⟨x, y⟩ => ⟨hS _ _ x, ih _ _ _ y d⟩) (h.2 i hi hl) d⟩
theorem OpM_put {i j : Nat} {oi oj : Oper} {v : Value} (hj : ops[j]? = some oj) (hap : oi.apart ops oj = true) (hsj : ∀ cs b, oj.op ≠ .select cs b) {K : Act → World → Prop} {a : Act} {w : World}
    (h : OpM P F fn ops j K (a.put oi.dst v) w) : OpM P F fn ops j (fun a' w' => ∃ u, a' = a.put oj.dst u ∧ K (a'.put oi.dst v) w') a w := by
  obtain ⟨h1, h2, h3⟩ := Oper.apart_spec hap
  obtain ⟨o, ho, hh⟩ := h
  rw [hj] at ho
  cases ho
  have e1 : execOp (a.put oi.dst v).eval oj = execOp a.eval oj := execOp_put oj hsj a oi.dst v h1
  have e2 := wanted_put oj a oi.dst v h1
  refine ⟨oj, hj, ?_⟩
  unfold listed at *
  rw [e1, e2] at hh
  rcases hh with ⟨hw, hh⟩ | ⟨hw, hh⟩
  · refine .inl ⟨hw, fun d => ?_⟩
    have := hh d
    cases hr : (execOp a.eval oj).run P (w.at d) with
    | halt _ _ => rw [hr] at this; exact this
    | ok x w' =>
      rw [hr] at this
      cases x with
      | value u => exact ⟨this.1, u, rfl, by rw [← Act.put_comm a v u h2]; exact this.2⟩
      | skip => exact ⟨this.1, undef, rfl, by rw [← Act.put_comm a v undef h2]; exact this.2⟩
      | _ => exact this
  · exact .inr ⟨hw, undef, rfl, by rw [← Act.put_comm a v undef h2]; exact hh⟩
theorem anyM_first (hS : ∀ w d, S w → S (World.at w d)) (hZ : ∀ a w d, Z a w → Z a (World.at w d)) {i : Nat} {oi : Oper} {v : Value} (hi : ops[i]? = some oi) (hil : i ≠ last) (hsel : ∀ (j : Nat) (o : Oper) cs b, ops[j]? = some o → o.op ≠ .select cs b) :
    ∀ (fuel : Nat) (listed : Array Bool) (a : Act) (w : World), S w →
      (∀ j oj, ops[j]? = some oj → j ≠ i → listed.getD j true = false → (∀ e ∈ oj.after, Region.binds .any e = true → e.on ≠ i) → oi.apart ops oj = true) →
      i ∈ Region.ready .any ops listed → (∀ w, S w → YQ P F fn ops w oi v a) →
      AnyM P F fn ops S last Z fuel (listed.setIfInBounds i true) (a.put oi.dst v) w → AnyM P F fn ops S last Z (fuel + 1) listed a w := by
  have self : ∀ (fuel : Nat) (listed : Array Bool) (a : Act) (w : World), S w → (∀ w, S w → YQ P F fn ops w oi v a) → AnyM P F fn ops S last Z fuel (listed.setIfInBounds i true) (a.put oi.dst v) w →
      OpM P F fn ops i (fun a w => S w ∧ AnyM P F fn ops S last Z fuel (listed.setIfInBounds i true) a w) a w := by
    intro fuel listed a w hw hy H
    rcases hy w hw with ⟨h1, h2⟩ | ⟨h1, rfl⟩
    · exact ⟨oi, hi, .inl ⟨h1, fun d => by rw [(h2 d).1]; exact ⟨⟨⟨0, Grew.refl F _⟩, (h2 d).2⟩, hS _ _ hw, anyM_at hS hZ _ _ _ _ H d⟩⟩⟩
    · exact ⟨oi, hi, .inr ⟨h1, hw, H⟩⟩
  intro fuel
  induction fuel with
  | zero =>
    intro listed a w hw _ hr hy H
    refine ⟨fun h => absurd (h i hr) hil, fun j hj hjl => ?_⟩
    by_cases hji : j = i
    · subst hji; exact self _ _ _ _ hw hy H
    · exact absurd (H.2 j (ready_mono hj hji)) hjl
  | succ fuel ih =>
    intro listed a w hw hfree hr hy H
    refine ⟨fun h => absurd (h i hr) hil, fun j hj hjl => ?_⟩
    by_cases hji : j = i
    · subst hji; exact self _ _ _ _ hw hy H
    · have h1 := H.2 j (ready_mono hj hji) hjl
      obtain ⟨hjun, oj, hoj, hall⟩ := mem_ready.1 hj
      have hnot : ∀ e ∈ oj.after, Region.binds .any e = true → e.on ≠ i := fun e he hb heq => by
        have h1 := hall e he hb
        have h0 := (mem_ready.1 hr).1
        rw [heq] at h1
        rcases Nat.lt_or_ge i listed.size with h' | h'
        · simp [h'] at h0 h1; rw [h0] at h1; cases h1
        · simp [Array.getElem?_eq_none h'] at h1
      have hap := hfree j oj hoj hji hjun hnot
      obtain ⟨p1, p2, p3⟩ := Oper.apart_spec hap
      have h2 := OpM_put (i := i) (oi := oi) hoj hap (fun cs b => hsel j oj cs b hoj) h1
      have hfree' : ∀ k ok, ops[k]? = some ok → k ≠ i → (listed.setIfInBounds j true).getD k true = false →
          (∀ e ∈ ok.after, Region.binds .any e = true → e.on ≠ i) → oi.apart ops ok = true := fun k ok hk hki hun hno => by
        refine hfree k ok hk hki ?_ hno
        by_cases hjk : j = k
        · subst hjk; exact hjun
        · rw [getD_set_ne true hjk] at hun; exact hun
      refine OpM_mono (fun a' w' h3 => ?_) h2
      obtain ⟨u, rfl, hw', h4⟩ := h3
      refine ⟨hw', ih (listed.setIfInBounds j true) _ _ hw' hfree' (ready_mono hr (Ne.symm hji)) (fun w hw => (hy w hw).of_same (execOp_put oi (fun cs b => hsel i oi cs b hi) a oj.dst u p3) (wanted_put oi a oj.dst u p3)) ?_⟩
      rw [Array.setIfInBounds_comm _ _ hji]
      exact h4
theorem anyM_take (hS : ∀ w d, S w → S (World.at w d)) (hZ : ∀ a w d, Z a w → Z a (World.at w d)) {i : Nat} {oi : Oper} {v : Value} {fuel : Nat} {listed : Array Bool} {a : Act} {w : World} (hw : S w) (hi : ops[i]? = some oi) (hil : (i != last) = true) (hs : Region.noSelect ops = true) (hf : Region.free .any ops listed i = true)
    (hr : (Region.ready .any ops listed).contains i = true) (hy : ∀ w, S w → YQ P F fn ops w oi v a) (h : AnyM P F fn ops S last Z fuel (listed.setIfInBounds i true) (a.put oi.dst v) w) : AnyM P F fn ops S last Z (fuel + 1) listed a w :=
  anyM_first hS hZ hi (by simpa using hil) (Region.noSelect_spec hs) fuel listed a w hw (Region.free_spec hi hf) (by simpa using hr) hy h
theorem anyM_all {fuel : Nat} {listed : Array Bool} {a : Act} {w : World} {r : List Nat} (hr : Region.ready .any ops listed = r) (hl : r.any (· != last) = true)
    (h : ∀ i ∈ r, i ≠ last → OpM P F fn ops i (fun a w => S w ∧ AnyM P F fn ops S last Z fuel (listed.setIfInBounds i true) a w) a w) : AnyM P F fn ops S last Z (fuel + 1) listed a w :=
  ⟨fun hn => by
    rw [hr] at hn
    obtain ⟨i, hi, hil⟩ := List.any_eq_true.1 hl
    exact absurd (hn i hi) (by simpa using hil), by rw [hr]; exact h⟩
theorem anyM_end {listed : Array Bool} {a : Act} {w : World} (hr : Region.ready .any ops listed = [last]) (h : Z a w) : ∀ fuel, AnyM P F fn ops S last Z fuel listed a w
  | 0 => ⟨fun _ => h, by rw [hr]; simp⟩
  | _ + 1 => ⟨fun _ => h, fun i hi hne => absurd (by rw [hr] at hi; simpa using hi) hne⟩
theorem own_opm {main : Bool} {Stop : Goroutine → World → Prop} {b : Frame} {a : Act} {w : World} {k : List Item} {cs : List Frame} {i : Nat} {rest : List Nat} (hk : b.kind ≠ .early)
    (h : OpM P F b.fn ops i (fun a w => Own P main F Stop (G (b.at a (.inRegion ops rest :: k)) cs) w) a w) : Own P main F Stop (G (b.at a (.inRegion ops (i :: rest) :: k)) cs) w := by
  obtain ⟨o, ho, ⟨hw, hh⟩ | ⟨hw, hh⟩⟩ := h
  · refine .step rfl fun d => ?_
    have := hh d
    cases hr : (execOp a.eval o).run P (w.at d) with
    | halt _ _ => rw [hr] at this; exact this.elim
    | ok x w' =>
      rw [hr] at this
      cases x with
      | value u => exact ⟨_, _, _, stepG_value ho hw hk hr, this.1, this.2⟩
      | skip => exact ⟨_, _, _, stepG_none ho hw hk hr, this.1, this.2⟩
      | _ => exact this.elim
  · exact .step rfl fun d => ⟨_, _, #[], stepG_unwanted ho hw, ⟨⟨0, Grew.refl F _⟩, by simp⟩, hh.at d⟩
theorem anyM_sound (L : LL ops last) {main : Bool} {Stop : Goroutine → World → Prop} {b : Frame} {k : List Item} {cs : List Frame} (hk : b.kind ≠ .early) :
    ∀ (fuel t : Nat) (listed : Array Bool) (a : Act) (w : World), listed.size = ops.size → DownTo ops listed → listed.getD last true = false →
      AnyM P F b.fn ops S last (fun a w => Own P main F Stop (G (b.at a (.inRegion ops [last] :: k)) cs) w) fuel listed a w →
      Own P main F Stop (G (b.at a (.inRegion ops (Region.linearise.go .any ops (fuel + 1) t listed []) :: k)) cs) w := by
  intro fuel
  induction fuel with
  | zero => ?_
  | succ fuel ih => ?_
  all_goals
    intro t listed a w hs hc hl H
    obtain ⟨i0, hi0⟩ := some_ready L hs last hl
    have hlen : 0 < (Region.ready .any ops listed).length := List.length_pos_of_mem hi0
    obtain ⟨i, hi⟩ : ∃ i, (Region.ready .any ops listed)[t % (Region.ready .any ops listed).length]? = some i := ⟨_, List.getElem?_eq_getElem (Nat.mod_lt _ hlen)⟩
    have hmem := List.mem_of_getElem? hi
    rw [Region.linearise.go]
    change Own P main F Stop (G (b.at a (.inRegion ops (match (Region.ready .any ops listed)[t % (Region.ready .any ops listed).length]? with
      | some i => Region.linearise.go .any ops _ (t / (Region.ready .any ops listed).length) (listed.setIfInBounds i true) [i]
      | none => [].reverse) :: k)) cs) w
    rw [hi]
    simp only []
    rw [linearise_go_acc, List.reverse_singleton, List.singleton_append]
  · obtain rfl := H.2 i hmem
    simp only [Region.linearise.go, List.reverse_nil]
    exact H.1 H.2
  · by_cases hil : i = last
    · subst hil
      have hall := all_listed L hs hc hmem i
      have hre : ∀ j ∈ Region.ready .any ops listed, j = i := by
        intro j hj
        obtain ⟨h0, o, ho, _⟩ := mem_ready.1 hj
        have hlt := (Array.getElem?_eq_some_iff.1 ho).1
        have hsz := L.size
        rcases Nat.lt_or_ge j i with h | h
        · have := hall j (by omega) h
          rw [getD_tf (by omega), this] at h0; cases h0
        · omega
      have hnil : Region.ready .any ops (listed.setIfInBounds i true) = [] := by
        apply List.eq_nil_iff_forall_not_mem.2
        intro j hj
        obtain ⟨h0, o, ho, _⟩ := mem_ready.1 hj
        have hlt := (Array.getElem?_eq_some_iff.1 ho).1
        have hsz := L.size
        by_cases e : i = j
        · subst e
          rw [getD_tf (by simp; omega)] at h0
          have : i < listed.size := by omega
          simp [this] at h0
        · rw [getD_set_ne true e, getD_tf (by omega), hall j (by omega) (by omega)] at h0; cases h0
      have : Region.linearise.go .any ops (fuel + 1) (t / (Region.ready .any ops listed).length) (listed.setIfInBounds i true) [] = [] := by
        rw [Region.linearise.go]
        change (match (Region.ready .any ops (listed.setIfInBounds i true))[(t / (Region.ready .any ops listed).length) % (Region.ready .any ops (listed.setIfInBounds i true)).length]? with
          | some i => _
          | none => [].reverse) = []
        rw [hnil]; rfl
      rw [this]
      exact H.1 hre
    · refine own_opm hk (OpM_mono (fun a' w' ⟨_, hK⟩ => ih _ _ _ _ (by simpa using hs) (fun j o' hj hlj e he hb => ?_) (by rw [getD_set_ne true hil]; exact hl) hK) (H.2 i hmem hil))
      by_cases e2 : i = j
      · subst e2
        obtain ⟨_, o2, ho2, hd⟩ := mem_ready.1 hmem
        rw [hj] at ho2
        cases ho2
        exact getD_set_true (hd e he hb)
      · rw [getD_set_ne false e2] at hlj
        exact getD_set_true (hc j o' hj hlj e he hb)
theorem own_drawnM (S : World → Prop) (hm : P.follows .mixedOrders = true) (L : LL ops last) {id : Nat} {main : Bool} {Stop : Goroutine → World → Prop} {b : Frame} {a : Act} {w : World} {k : List Item} {cs : List Frame} (hk : b.kind ≠ .early)
    (h : AnyM P F b.fn ops S last (fun a w => Own P main F Stop (G (b.at a (.inRegion ops [last] :: k)) cs) w) last (Array.replicate ops.size false) a w) :
    Own P main F Stop (G (b.at a (.code (.region id ops true) :: k)) cs) w := by
  refine .step rfl fun d => ⟨_, _, _, stepG_region_draw, ⟨⟨1, ?_⟩, by simp⟩, ?_⟩
  · exact ⟨rfl, rfl, rfl, rfl, Nat.le_refl _, fun _ _ h => .inr h, fun _ _ => rfl⟩
  · have hs := L.size
    have := anyM_sound (S := S) (cs := cs) (k := k) L hk last ((w.at d).tape (w.at d).drawn (.order b.fn id)) (Array.replicate ops.size false) a w (by simp) (fun j o _ hl => by
      simp at hl
      rcases Nat.lt_or_ge j ops.size with h1 | h1 <;> simp [h1] at hl) (by simp [hs]) h
    rw [← hs] at this
    simp only [Region.schedule, hm, Bool.true_or, if_true]
    exact this.at (d + 1)
theorem opm_k {i : Nat} {o : Oper} {K : Act → World → Prop} {a : Act} {w : World} (ho : ops[i]? = some o) (hw : Region.wanted o (yielded ops a.tmps) = true)
    (h : ∀ (d : Nat) (K' : Act → World → Prop), (∀ a' w', GuarE F (w.at d) w' (listed P fn a o (w.at d)) ∧ K a' w' → K' a' w') → uponK o a K' ((execOp a.eval o).run P (w.at d))) : OpM P F fn ops i K a w :=
  ⟨o, ho, .inl ⟨hw, fun d => h d _ fun _ _ x => x⟩⟩
end Go.Proofs.Ytcejbandeikdjaa
namespace Go.Proofs.Ytcejbandeikdjaa
open Go Go.Conc Go.RowKit Go.Proofs
variable {g : Gate} {F : Fz} {w : World}
noncomputable def hdBody : Code := Try.f69.body.getD .skip
noncomputable def hds0 : Code := Code.piece [] hdBody
noncomputable def hdr0 : Code := Code.piece [true] hdBody
noncomputable def hdo0 : Array Oper := Code.opsOf hdr0
noncomputable def hds1 : Code := Code.piece [false] hdBody
noncomputable def hdr1 : Code := Code.piece [false, true] hdBody
noncomputable def hdo1 : Array Oper := Code.opsOf hdr1
theorem hds0_eq : hds0 = .seq hdr0 hds1 := by kernel_rfl
theorem hdr0_eq : hdr0 = .region 0 hdo0 false := by kernel_rfl
theorem hds1_eq : hds1 = .seq hdr1 .ret := by kernel_rfl
theorem hdr1_eq : hdr1 = .region 1 hdo1 false := by kernel_rfl
theorem enter_held (args : Array Value) : Frame.enter Try.prog 69 args .normal = (Go.Conc.base 69).at { tmps := args ++ Array.replicate (9 - args.size) undef, defers := [] } [.code hdBody] := enter_at args Try.func69 rfl
theorem callable69 : Callable 69 := callable Try.func69 rfl rfl
set_option maxRecDepth 100000 in
theorem own_held_low {m : Int} (hm : m < 0) {c : Frame} {cs : List Frame} {main : Bool} {Stop : Goroutine → World → Prop} (h : Own Try.prog main F Stop (G (c.finish (.int .i64 0)) cs) w) :
    Own Try.prog main F Stop (G (Frame.enter Try.prog 69 #[.int .i64 m, .int .i64 1048576] .normal) (c :: cs)) w := by
  have f1 : ¬ (0 : Int) < m := by omega
  rw [enter_held]
  change Own _ _ _ _ (G ((Go.Conc.base 69).at _ [.code hds0]) _) _
  walk_nrm
  rw [hds0_eq]
  refine ogS ?_
  rw [hdr0_eq]
  refine ogR ?_
  simp only [hdo0, Code.opsOf, hdr0, Code.piece, hdBody, Try.f69, Option.getD_some, List.size_toArray, List.length_cons, List.length_nil, Nat.reduceAdd, Nat.zero_add, List.range, List.range.loop]
  (refine oW fun dd K hK => ?_; go_simp; refine qT hK ?_; clear hK K)
  refine ogE ?_
  rw [hds1_eq]
  refine ogS ?_
  rw [hdr1_eq]
  refine ogR ?_
  simp only [hdo1, Code.opsOf, hdr1, Code.piece, hdBody, Try.f69, Option.getD_some, List.size_toArray, List.length_cons, List.length_nil, Nat.reduceAdd, Nat.zero_add, List.range, List.range.loop]
  (refine oW fun dd K hK => ?_; go_simp; refine qT hK ?_; clear hK K)
  (refine oW fun dd K hK => ?_; go_simp; refine qT hK ?_; clear hK K)
  (refine oW fun dd K hK => ?_; go_simp; refine qT hK ?_; clear hK K)
  (refine oW fun dd K hK => ?_; go_simp; refine qT hK ?_; clear hK K)
  (refine oW fun dd K hK => ?_; go_simp; refine qT hK ?_; clear hK K)
  refine ogE ?_
  refine ogX ?_
  refine own_go rfl (fun d => stepG_leave (fn := Try.f69) (v := .int .i64 0) rfl rfl Try.func69 (by simp [results, Try.f69, go_sem, *]) (by simp [results, Try.f69, go_sem, *])) ?_
  exact h
set_option maxRecDepth 100000 in
theorem own_held_mid {m : Int} (hm : 0 ≤ m) (hm2 : m ≤ 1048576) {c : Frame} {cs : List Frame} {main : Bool} {Stop : Goroutine → World → Prop} (h : Own Try.prog main F Stop (G (c.finish (.int .i64 m)) cs) w) :
    Own Try.prog main F Stop (G (Frame.enter Try.prog 69 #[.int .i64 m, .int .i64 1048576] .normal) (c :: cs)) w := by
  have f1 : ¬ m < 0 := by omega
  have f2 : ¬ (1048576 : Int) < m := by omega
  rw [enter_held]
  change Own _ _ _ _ (G ((Go.Conc.base 69).at _ [.code hds0]) _) _
  walk_nrm
  rw [hds0_eq]
  refine ogS ?_
  rw [hdr0_eq]
  refine ogR ?_
  simp only [hdo0, Code.opsOf, hdr0, Code.piece, hdBody, Try.f69, Option.getD_some, List.size_toArray, List.length_cons, List.length_nil, Nat.reduceAdd, Nat.zero_add, List.range, List.range.loop]
  (refine oW fun dd K hK => ?_; go_simp; refine qT hK ?_; clear hK K)
  refine ogE ?_
  rw [hds1_eq]
  refine ogS ?_
  rw [hdr1_eq]
  refine ogR ?_
  simp only [hdo1, Code.opsOf, hdr1, Code.piece, hdBody, Try.f69, Option.getD_some, List.size_toArray, List.length_cons, List.length_nil, Nat.reduceAdd, Nat.zero_add, List.range, List.range.loop]
  (refine oW fun dd K hK => ?_; go_simp; refine qT hK ?_; clear hK K)
  (refine oW fun dd K hK => ?_; go_simp; refine qT hK ?_; clear hK K)
  (refine oW fun dd K hK => ?_; go_simp; refine qT hK ?_; clear hK K)
  (refine oW fun dd K hK => ?_; go_simp; refine qT hK ?_; clear hK K)
  (refine oW fun dd K hK => ?_; go_simp; refine qT hK ?_; clear hK K)
  refine ogE ?_
  refine ogX ?_
  refine own_go rfl (fun d => stepG_leave (fn := Try.f69) (v := .int .i64 m) rfl rfl Try.func69 (by simp [results, Try.f69, go_sem, *]) (by simp [results, Try.f69, go_sem, *])) ?_
  exact h
set_option maxRecDepth 100000 in
theorem own_held_high {m : Int} (hm : 1048576 < m) {c : Frame} {cs : List Frame} {main : Bool} {Stop : Goroutine → World → Prop} (h : Own Try.prog main F Stop (G (c.finish (.int .i64 1048576)) cs) w) :
    Own Try.prog main F Stop (G (Frame.enter Try.prog 69 #[.int .i64 m, .int .i64 1048576] .normal) (c :: cs)) w := by
  have f1 : ¬ m < 0 := by omega
  rw [enter_held]
  change Own _ _ _ _ (G ((Go.Conc.base 69).at _ [.code hds0]) _) _
  walk_nrm
  rw [hds0_eq]
  refine ogS ?_
  rw [hdr0_eq]
  refine ogR ?_
  simp only [hdo0, Code.opsOf, hdr0, Code.piece, hdBody, Try.f69, Option.getD_some, List.size_toArray, List.length_cons, List.length_nil, Nat.reduceAdd, Nat.zero_add, List.range, List.range.loop]
  (refine oW fun dd K hK => ?_; go_simp; refine qT hK ?_; clear hK K)
  refine ogE ?_
  rw [hds1_eq]
  refine ogS ?_
  rw [hdr1_eq]
  refine ogR ?_
  simp only [hdo1, Code.opsOf, hdr1, Code.piece, hdBody, Try.f69, Option.getD_some, List.size_toArray, List.length_cons, List.length_nil, Nat.reduceAdd, Nat.zero_add, List.range, List.range.loop]
  (refine oW fun dd K hK => ?_; go_simp; refine qT hK ?_; clear hK K)
  (refine oW fun dd K hK => ?_; go_simp; refine qT hK ?_; clear hK K)
  (refine oW fun dd K hK => ?_; go_simp; refine qT hK ?_; clear hK K)
  (refine oW fun dd K hK => ?_; go_simp; refine qT hK ?_; clear hK K)
  (refine oW fun dd K hK => ?_; go_simp; refine qT hK ?_; clear hK K)
  refine ogE ?_
  refine ogX ?_
  refine own_go rfl (fun d => stepG_leave (fn := Try.f69) (v := .int .i64 1048576) rfl rfl Try.func69 (by simp [results, Try.f69, go_sem, *]) (by simp [results, Try.f69, go_sem, *])) ?_
  exact h
theorem own_held {m : Int} {M : Nat} (hM : (M : Int) = min (max m 0) 1048576) {c : Frame} {cs : List Frame} {main : Bool} {Stop : Goroutine → World → Prop} (h : Own Try.prog main F Stop (G (c.finish (.int .i64 M)) cs) w) :
    Own Try.prog main F Stop (G (Frame.enter Try.prog 69 #[.int .i64 m, .int .i64 1048576] .normal) (c :: cs)) w := by
  by_cases h1 : m < 0
  · exact own_held_low h1 (by rw [show (0 : Int) = M by omega]; exact h)
  · by_cases h2 : m ≤ 1048576
    · exact own_held_mid (by omega) h2 (by rw [show m = M by omega]; exact h)
    · exact own_held_high (by omega) (by rw [show (1048576 : Int) = M by omega]; exact h)
end Go.Proofs.Ytcejbandeikdjaa
namespace Go.Proofs.Ytcejbandeikdjaa
open Go Go.Conc Go.RowKit Go.Proofs
variable {g : Gate} {F : Fz} {w : World}
theorem enter_over (args : Array Value) : Frame.enter Try.prog 62 args .normal = (Go.Conc.base 62).at { tmps := args ++ Array.replicate (129 - args.size) undef, defers := [] } [.code ovs0] := enter_at args Try.func62 rfl
theorem callable62 : Callable 62 := callable Try.func62 rfl rfl
theorem set_new (X : World) (v u : Value) (t : TypeId) : (X.alloc (.cells #[v] t)).setCell ⟨X.heap.size, 0, none⟩ u = X.alloc (.cells #[u] t) := by go_simp
theorem set_old (X : World) (o : Obj) (a : Addr) (u : Value) (h : a.block < X.heap.size) : (X.alloc o).setCell a u = (X.setCell a u).alloc o := by
  unfold World.alloc World.setCell
  congr 1
  apply Array.ext_getElem?
  intro i
  simp only [Array.getElem?_modify, Array.getElem?_push, Array.size_modify]
  by_cases h1 : i = X.heap.size
  · subst h1; simp; omega
  · simp [h1]
def ovW0 (w : World) (M n : Nat) : World := ((w.alloc (.cells #[.int .i64 M] 3)).alloc (.cells #[.slice none 0 0] 24)).alloc (.cells #[.int .i64 n] 3)
set_option maxRecDepth 100000 in
set_option maxHeartbeats 2000000 in
theorem ov_s0 {n : Nat} (hU : Under F n) (hn : n ≤ w.heap.size) {ta : Option Addr} {tl tc M : Nat} {sch : Value} {m : Int} (htl : tl ≤ 64) (hM : min (max m 0) 1048576 = (M : Int)) {cs : List Frame} {main : Bool} {Stop : Goroutine → World → Prop}
    (h : ∀ A, Slots 129 A [(0, .slice ta tl tc), (1, sch), (5, .pointer (some ⟨w.heap.size, 0, none⟩)), (6, .pointer (some ⟨w.heap.size + 1, 0, none⟩)), (7, .bool false), (8, .slice none 0 0), (9, .pointer (some ⟨w.heap.size + 2, 0, none⟩))] →
      Own Try.prog main F Stop (G ((Go.Conc.base 62).at ⟨A, []⟩ [.code ovs3]) cs) (ovW0 w M tl)) :
    Own Try.prog main F Stop (G (Frame.enter Try.prog 62 #[.slice ta tl tc, sch, .int .i64 m] .normal) cs) w := by
  have n1 : ¬ (64 : Int) < (tl : Int) := by omega
  have n2 : ¬ 64 < tl := by omega
  rw [enter_over]
  walk_nrm
  rw [ovs0_eq]
  refine ogS ?_
  rw [ovr0_eq]
  refine ogR ?_
  simp only [ovo0, Code.opsOf, ovr0, Code.piece, ovBody, Try.f62, Option.getD_some, List.size_toArray, List.length_cons, List.length_nil, Nat.reduceAdd, Nat.zero_add, List.range, List.range.loop]
  (refine oW fun dd K hK => ?_; go_simp; refine qA hK hU ?_; clear hK K)
  (refine oW fun dd K hK => ?_; go_simp; refine qA hK hU ?_; clear hK K)
  (refine oW fun dd K hK => ?_; go_simp; refine qT hK ?_; clear hK K)
  (refine oW fun dd K hK => ?_; go_simp; refine qT hK ?_; clear hK K)
  refine ogE ?_
  rw [ovs1_eq]
  refine ogS ?_
  rw [ovr1_eq]
  refine ogR ?_
  simp only [ovo1, Code.opsOf, ovr1, Code.piece, ovBody, Try.f62, Option.getD_some, List.size_toArray, List.length_cons, List.length_nil, Nat.reduceAdd, Nat.zero_add, List.range, List.range.loop]
  (refine oW fun dd K hK => ?_; go_simp; refine qT hK ?_; clear hK K)
  (refine oW fun dd K hK => ?_; go_simp; refine qT hK ?_; clear hK K)
  (refine oW fun dd K hK => ?_; go_simp; refine qT hK ?_; clear hK K)
  (refine oW fun dd K hK => ?_; go_simp; refine qA hK hU ?_; clear hK K)
  (refine oW fun dd K hK => ?_; go_simp; refine qS hK hU ?_; clear hK K)
  have e1 := set_new ((w.alloc (.cells #[.int .i64 m] 3)).alloc (.cells #[.slice none 0 0] 24)) (.int .i64 0) (.int .i64 tl) 3
  simp only [World.size_alloc] at e1
  rw [e1]
  clear e1
  refine ogE ?_
  rw [ovs2_eq]
  refine ogS ?_
  rw [ovr2_eq]
  refine ogR ?_
  simp only [ovo2, Code.opsOf, ovr2, Code.piece, ovBody, Try.f62, Option.getD_some, List.size_toArray, List.length_cons, List.length_nil, Nat.reduceAdd, Nat.zero_add, List.range, List.range.loop]
  (refine oW fun dd K hK => ?_; go_simp; refine qL hK ?_; clear hK K)
  refine oc callable69 #[.int .i64 m, .int .i64 1048576] ?_
  (refine own_held hM.symm ?_)
  rw [Frame.finish_at]
  walk_nrm
  (refine oW fun dd K hK => ?_; go_simp; refine qS hK hU ?_; clear hK K)
  rw [set_old _ _ _ _ (by simp; omega), set_old _ _ _ _ (by simp), set_new]
  refine ogE ?_
  refine h _ ?_
  exact ⟨rfl, rfl, rfl, rfl, rfl, rfl, rfl, rfl, trivial⟩
end Go.Proofs.Ytcejbandeikdjaa
namespace Go.Proofs.Ytcejbandeikdjaa
open Go Go.Conc Go.RowKit Go.Proofs
section
variable {P : Program}
theorem ev_places (w : World) (es : Array Event) : ∀ (fs : List Field) (places : List (Nat × Nat)), fs.mapM (fun f => (P.info? f.type).map fun i => (f.offset, i.size)) = some places →
    (fs.mapM fun f => Prod.mk f.offset <$> sizeOf f.type).events P w es = es
  | [], places, h => by simp
  | f :: fs, places, h => by
    simp only [List.mapM_cons, Option.bind_eq_bind, Option.pure_def] at h
    cases hi : P.info? f.type with
    | none => simp [hi] at h
    | some i =>
      cases hr : fs.mapM (fun f => (P.info? f.type).map fun i => (f.offset, i.size)) with
      | none => simp [hi, hr] at h
      | some rest =>
        have hs : (sizeOf f.type).run P w = .ok i.size w := by simp [sizeOf, typeInfo, hi]
        have he : (sizeOf f.type).events P w es = es := by simp [sizeOf, typeInfo, hi, go_sem]
        simp [List.mapM_cons, hs, he, run_places w fs rest hr, ev_places w es fs rest hr]
theorem ev_build (w : World) (es : Array Event) (t : TypeId) (parts : Array (Nat × Value)) (cells : Array Value) (fields : Array Field) (hu : P.underlying t = some (.struct fields)) (h : P.built t parts.toList = some cells) : (Instr.build t parts).events P w es = es := by
  unfold Program.built at h
  cases hit : P.info? t with
  | none => simp [hit] at h
  | some it =>
    cases hz : it.zero with
    | none => simp [hit, hu, hz] at h
    | some z =>
      cases hp : fields.toList.mapM (fun f => (P.info? f.type).map fun i => (f.offset, i.size)) with
      | none => simp [hit, hu, hz, hp] at h
      | some places =>
        simp only [hit, hu, hz, hp] at h
        have h' : Instr.fill (fun x => places[x]?) z.cells parts.toList = some cells := by simpa using h
        unfold Value.cells at h'
        simp [Instr.build, run_underlying hu, typeInfo, zeroValue, hit, hz, Array.mapM_eq_mapM_toList, run_places w _ _ hp, ev_places w es _ _ hp, h', go_sem]
end
section
variable (w : World) (es : Array Event) (c b : Nat) (n m : Nat)
theorem built144 (c b n m : Nat) : Try.prog.built 144 [(0, .chan (some c)), (2, .slice (some ⟨b, 0, none⟩) n m)] = some #[.chan (some c), .slice none 0 0, .slice (some ⟨b, 0, none⟩) n m] := by kernel_rfl
@[go_sem] theorem run_build144 : (Instr.build 144 #[(0, .chan (some c)), (2, .slice (some ⟨b, 0, none⟩) n m)]).run Try.prog w = .ok (.agg #[.chan (some c), .slice none 0 0, .slice (some ⟨b, 0, none⟩) n m]) w := run_build w _ _ _ (built144 c b n m)
@[go_sem] theorem ev_build144 : (Instr.build 144 #[(0, .chan (some c)), (2, .slice (some ⟨b, 0, none⟩) n m)]).events Try.prog w es = es := ev_build w es _ _ _ _ Try.underlying144 (built144 c b n m)
theorem built148 (t c : Nat) : Try.prog.built 148 [(0, .pointer (some ⟨t, 0, none⟩)), (1, .chan (some c))] = some #[.pointer (some ⟨t, 0, none⟩), .chan (some c), .bool false] := by kernel_rfl
@[go_sem] theorem run_build148 : (Instr.build 148 #[(0, .pointer (some ⟨b, 0, none⟩)), (1, .chan (some c))]).run Try.prog w = .ok (.agg #[.pointer (some ⟨b, 0, none⟩), .chan (some c), .bool false]) w := run_build w _ _ _ (built148 b c)
@[go_sem] theorem ev_build148 : (Instr.build 148 #[(0, .pointer (some ⟨b, 0, none⟩)), (1, .chan (some c))]).events Try.prog w es = es := ev_build w es _ _ _ _ Try.underlying148 (built148 b c)
end
theorem info56 : ∃ i, Try.prog.info? 56 = some i ∧ i.bytes = 0 := by
  have h : (Try.prog.info? 56).map (·.bytes) = some 0 := by kernel_rfl
  obtain ⟨i, hi, h1⟩ := Option.map_eq_some_iff.1 h
  exact ⟨i, hi, h1⟩
theorem info4 : ∃ i, Try.prog.info? 4 = some i ∧ i.zero = some (.bool false) ∧ i.size = 1 ∧ i.bytes = 1 := by
  have h : (Try.prog.info? 4).map (fun i => (i.size, i.bytes)) = some (1, 1) := by kernel_rfl
  have h0 : (Try.prog.info? 4).bind (·.zero) = some (.bool false) := by kernel_rfl
  obtain ⟨i, hi, h1⟩ := Option.map_eq_some_iff.1 h
  rw [hi] at h0
  simp only [Prod.mk.injEq] at h1
  exact ⟨i, hi, h0, h1.1, h1.2⟩
section
variable (w : World) (es : Array Event) (n : Nat)
@[go_sem] theorem mkChan141 : (Instr.makeChan 141 (.int .i64 0)).run Try.prog w = .ok (.chan (some w.heap.size)) (w.alloc (.chan 0 #[] false 0 0 false)) := by
  obtain ⟨i, hi, hb⟩ := info56
  exact run_makeChan Try.underlying141 hi .i64 0 (by decide) (by simp)
@[go_sem] theorem mkChan141e : (Instr.makeChan 141 (.int .i64 0)).events Try.prog w es = es := by
  obtain ⟨i, hi, hb⟩ := info56
  exact events_makeChan Try.underlying141 hi .i64 0 (by decide) (by simp) es
@[go_sem] theorem mkChan146 : (Instr.makeChan 146 (.int .i64 0)).run Try.prog w = .ok (.chan (some w.heap.size)) (w.alloc (.chan 0 #[] false 0 0 false)) := by
  obtain ⟨i, hi, _, _, hb⟩ := info4
  exact run_makeChan Try.underlying146 hi .i64 0 (by decide) (by simp)
@[go_sem] theorem mkChan146e : (Instr.makeChan 146 (.int .i64 0)).events Try.prog w es = es := by
  obtain ⟨i, hi, _, _, hb⟩ := info4
  exact events_makeChan Try.underlying146 hi .i64 0 (by decide) (by simp) es
@[go_sem] theorem mkSlice90 (h : n ≤ 64) : (Instr.makeSlice 90 (.int .i64 n) (.int .i64 n)).run Try.prog w = .ok (.slice (some ⟨w.heap.size, 0, none⟩) n n) (w.alloc (.cells (madeCells #[.bool false] n) 4)) := by
  obtain ⟨i, hi, hz, hs, hb⟩ := info4
  have := run_make (P := Try.prog) w 90 4 i (.bool false) Try.underlying90 hi hz .i64 .i64 n n (by omega) (by omega) (by rw [hb]; omega) (by omega)
  rw [hs] at this
  simpa [Value.cells] using this
@[go_sem] theorem mkSlice90e (h : n ≤ 64) : (Instr.makeSlice 90 (.int .i64 n) (.int .i64 n)).events Try.prog w es = es := by
  obtain ⟨i, hi, hz, hs, hb⟩ := info4
  exact events_make (P := Try.prog) w 90 4 i (.bool false) Try.underlying90 hi hz .i64 .i64 n n (by omega) (by omega) (by rw [hb]; omega) (by omega) (by rw [hb]; omega) es
end
structure SN (nn nb n : Nat) (u : World) : Prop where
  top : nn ≤ u.heap.size
  lt : nb < u.heap.size
  c : u.cell? ⟨nb, 0, none⟩ = some (.int .i64 n)
  z : u.frozen? ⟨nb, 0, none⟩ = false
theorem SN.at {nn nb n : Nat} {u : World} (h : SN nn nb n u) (d : Nat) : SN nn nb n (u.at d) := ⟨h.top, h.lt, h.c, h.z⟩
theorem SN.alloc {nn nb n : Nat} {u : World} (h : SN nn nb n u) (o : Obj) : SN nn nb n (u.alloc o) :=
  ⟨by have := h.top; simp; omega, by have := h.lt; simp; omega, by rw [cell_alloc u o _ h.lt]; exact h.c, by
    have : (u.alloc o).heap[nb]? = u.heap[nb]? := heap_alloc_lt u o h.lt
    unfold World.frozen?
    simp only [this]
    exact h.z⟩
structure Set3 (n : Nat) (w w' : World) (tv tb bk br : Nat) : Prop where
  size : w.heap.size ≤ w'.heap.size
  old : ∀ r, r < w.heap.size → w'.heap[r]? = w.heap[r]?
  htv : w'.heap[tv]? = some (.cells #[.pointer (some ⟨tb, 0, none⟩)] 140)
  htb : w'.heap[tb]? = some (.cells #[.chan (some bk), .slice none 0 0, .slice (some ⟨br, 0, none⟩) n n] 144)
  hbk : w'.heap[bk]? = some (.chan 0 #[] false 0 0 false)
  hbr : w'.heap[br]? = some (.cells (madeCells #[.bool false] n) 4)
  low : w.heap.size ≤ tv ∧ w.heap.size ≤ tb ∧ w.heap.size ≤ bk ∧ w.heap.size ≤ br
theorem four_size (w : World) (a b c e : Obj) : w.heap.size ≤ ((((w.alloc a).alloc b).alloc c).alloc e).heap.size := by simp; omega
theorem four_old (w : World) (a b c e : Obj) : ∀ r, r < w.heap.size → ((((w.alloc a).alloc b).alloc c).alloc e).heap[r]? = w.heap[r]? := fun r hr => by
  rw [heap_alloc_lt _ _ (by simp; omega), heap_alloc_lt _ _ (by simp; omega), heap_alloc_lt _ _ (by simp; omega), heap_alloc_lt _ _ hr]
theorem four3 (w : World) (a b c e : Obj) : ((((w.alloc a).alloc b).alloc c).alloc e).heap[w.heap.size + 1 + 1 + 1]? = some e := by
  have := heap_alloc_new (((w.alloc a).alloc b).alloc c) e
  simpa using this
theorem four2 (w : World) (a b c e : Obj) : ((((w.alloc a).alloc b).alloc c).alloc e).heap[w.heap.size + 1 + 1]? = some c := by
  rw [heap_alloc_lt _ _ (by simp)]
  have := heap_alloc_new ((w.alloc a).alloc b) c
  simpa using this
theorem four1 (w : World) (a b c e : Obj) : ((((w.alloc a).alloc b).alloc c).alloc e).heap[w.heap.size + 1]? = some b := by
  rw [heap_alloc_lt _ _ (by simp), heap_alloc_lt _ _ (by simp)]
  have := heap_alloc_new (w.alloc a) b
  simpa using this
theorem four0 (w : World) (a b c e : Obj) : ((((w.alloc a).alloc b).alloc c).alloc e).heap[w.heap.size]? = some a := by
  rw [heap_alloc_lt _ _ (by simp; omega), heap_alloc_lt _ _ (by simp; omega), heap_alloc_lt _ _ (by simp)]
  exact heap_alloc_new w a
theorem set3_of {w w4 : World} {n tv tb bk br : Nat} (hs : w.heap.size ≤ w4.heap.size) (ho : ∀ r, r < w.heap.size → w4.heap[r]? = w.heap[r]?) (h1 : w4.heap[tv]? = some (.cells #[.pointer none] 140))
    (h2 : w4.heap[tb]? = some (.cells #[.chan (some bk), .slice none 0 0, .slice (some ⟨br, 0, none⟩) n n] 144)) (h3 : w4.heap[bk]? = some (.chan 0 #[] false 0 0 false)) (h4 : w4.heap[br]? = some (.cells (madeCells #[.bool false] n) 4))
    (d1 : tb ≠ tv) (d2 : bk ≠ tv) (d3 : br ≠ tv) (l1 : w.heap.size ≤ tv) (l2 : w.heap.size ≤ tb) (l3 : w.heap.size ≤ bk) (l4 : w.heap.size ≤ br) : Set3 n w (w4.setCell ⟨tv, 0, none⟩ (.pointer (some ⟨tb, 0, none⟩))) tv tb bk br :=
  ⟨by simpa using hs, fun r hr => (heap_setCell_ne _ _ _ (by simp only; omega)).trans (ho r hr), by simp [World.setCell, Array.getElem?_modify, h1], (heap_setCell_ne _ _ _ d1).trans h2, (heap_setCell_ne _ _ _ d2).trans h3, (heap_setCell_ne _ _ _ d3).trans h4, l1, l2, l3, l4⟩
end Go.Proofs.Ytcejbandeikdjaa
namespace Go.Proofs.Ytcejbandeikdjaa
open Go Go.Conc Go.RowKit Go.Proofs
variable {F : Fz} {w : World}
set_option maxRecDepth 100000 in
set_option maxHeartbeats 8000000 in
theorem ov_s3 {nn n nb mo od : Nat} {thr sch : Value} (hU : Under F nn) (hn64 : n ≤ 64) (hs : SN nn nb n w) {A : Array Value} (hA : Slots 129 A [(0, thr), (1, sch), (5, .pointer (some ⟨mo, 0, none⟩)), (6, .pointer (some ⟨od, 0, none⟩)), (7, .bool false), (8, .slice none 0 0), (9, .pointer (some ⟨nb, 0, none⟩))]) {cs : List Frame} {main : Bool} {Stop : Goroutine → World → Prop} {k : List Item}
    (h : ∀ (w' : World) (tv tb bk br : Nat) (A : Array Value), Set3 n w w' tv tb bk br → Slots 129 A [(0, thr), (1, sch), (5, .pointer (some ⟨mo, 0, none⟩)), (6, .pointer (some ⟨od, 0, none⟩)), (7, .bool false), (8, .slice none 0 0), (9, .pointer (some ⟨nb, 0, none⟩)), (10, .pointer (some ⟨tv, 0, none⟩))] →
      Own Try.prog main F Stop (G ((Go.Conc.base 62).at ⟨A, []⟩ k) cs) w') :
    Own Try.prog main F Stop (G ((Go.Conc.base 62).at ⟨A, []⟩ (.code ovr3 :: k)) cs) w := by
  obtain ⟨hsz, h0, h1, h5, h6, h7, h8, h9, _⟩ := hA
  obtain ⟨s, rfl⟩ := ovT_of hsz
  change s 0 = _ at h0
  change s 1 = _ at h1
  change s 5 = _ at h5
  change s 6 = _ at h6
  change s 7 = _ at h7
  change s 8 = _ at h8
  change s 9 = _ at h9
  clear hsz
  simp only [ovT, h0, h1, h5, h6, h7, h8, h9]
  clear h0 h1 h5 h6 h7 h8 h9
  have hS : ∀ u d, SN nn nb n u → SN nn nb n (World.at u d) := fun u d h => h.at d
  have htop := hs.top
  rw [ovr3_eq]
  refine own_drawnM (SN nn nb n) (last := 6) run_mixed (ll_of (by kernel_rfl)) (by decide) ?_
  simp only [ovo3, Code.opsOf, ovr3, Code.piece, ovBody, Try.f62, Option.getD_some, List.size_toArray, List.length_cons, List.length_nil, Nat.reduceAdd, Nat.zero_add, List.range, List.range.loop]
  have hZ : ∀ a u d, Own Try.prog main F Stop (G ((Go.Conc.base 62).at a (.inRegion ovo3 [6] :: k)) cs) u → Own Try.prog main F Stop (G ((Go.Conc.base 62).at a (.inRegion ovo3 [6] :: k)) cs) (World.at u d) := fun a u d h => h.at d
  simp only [ovo3, Code.opsOf, ovr3, Code.piece, ovBody, Try.f62, Option.getD_some, List.size_toArray, List.length_cons, List.length_nil, Nat.reduceAdd, Nat.zero_add, List.range, List.range.loop] at hZ
  refine anyM_take hS hZ (i := 1) (v := .int .i64 n) hs rfl rfl (by kernel_rfl) (by kernel_rfl) (by kernel_rfl) (fun u hu => .inl ⟨rfl, fun d => ⟨by simp [go_sem, execOp, Act.eval, hu.c, hu.z], fun e he => by have hm := mem_listed he; simp [go_sem, execOp, Act.eval, hu.c, hu.z] at hm; subst hm; exact evT_read _ _⟩⟩) ?_
  walk_nrm
  refine anyM_all (r := [0, 2, 5]) (by kernel_rfl) (by kernel_rfl) (fun i hi hil => ?_)
  simp only [List.mem_cons, List.not_mem_nil, or_false] at hi
  rcases hi with rfl | rfl | rfl
  · refine opm_k rfl rfl (fun d K' hK' => ?_)
    go_simp
    refine hK' _ _ ⟨⟨⟨0, grew_alloc hU (hs.at d).top _⟩, fun e he => by (have hm := mem_listed he; simp [go_sem, hn64] at hm)⟩, (hs.at d).alloc _, ?_⟩
    clear hK' K'
    rw [alloc_at']
    refine anyM_at hS hZ _ _ _ _ ?_ d
    replace hs := hs.alloc (.chan 0 #[] false 0 0 false)
    refine anyM_all (r := [2, 5]) (by kernel_rfl) (by kernel_rfl) (fun i hi hil => ?_)
    simp only [List.mem_cons, List.not_mem_nil, or_false] at hi
    rcases hi with rfl | rfl
    · refine opm_k rfl rfl (fun d K' hK' => ?_)
      go_simp
      refine hK' _ _ ⟨⟨⟨0, grew_alloc hU (hs.at d).top _⟩, fun e he => by (have hm := mem_listed he; simp [go_sem, hn64] at hm)⟩, (hs.at d).alloc _, ?_⟩
      clear hK' K'
      rw [alloc_at']
      refine anyM_at hS hZ _ _ _ _ ?_ d
      replace hs := hs.alloc (.cells (madeCells #[.bool false] n) 4)
      refine anyM_take hS hZ (i := 3) (v := .agg #[.chan (some (w.heap.size)), .slice none 0 0, .slice (some ⟨w.heap.size + 1, 0, none⟩) n n]) hs rfl rfl (by kernel_rfl) (by kernel_rfl) (by kernel_rfl) (fun u hu => .inl ⟨rfl, fun d => ⟨by simp [go_sem, execOp, Act.eval], fun e he => by have hm := mem_listed he; simp [go_sem, execOp, Act.eval] at hm⟩⟩) ?_
      walk_nrm
      refine anyM_all (r := [4, 5]) (by kernel_rfl) (by kernel_rfl) (fun i hi hil => ?_)
      simp only [List.mem_cons, List.not_mem_nil, or_false] at hi
      rcases hi with rfl | rfl
      · refine opm_k rfl rfl (fun d K' hK' => ?_)
        go_simp
        refine hK' _ _ ⟨⟨⟨0, grew_alloc hU (hs.at d).top _⟩, fun e he => by (have hm := mem_listed he; simp [go_sem, hn64] at hm)⟩, (hs.at d).alloc _, ?_⟩
        clear hK' K'
        rw [alloc_at']
        refine anyM_at hS hZ _ _ _ _ ?_ d
        replace hs := hs.alloc (.cells #[.chan (some (w.heap.size)), .slice none 0 0, .slice (some ⟨w.heap.size + 1, 0, none⟩) n n] 144)
        refine anyM_all (r := [5]) (by kernel_rfl) (by kernel_rfl) (fun i hi hil => ?_)
        simp only [List.mem_cons, List.not_mem_nil, or_false] at hi
        subst hi
        refine opm_k rfl rfl (fun d K' hK' => ?_)
        go_simp
        refine hK' _ _ ⟨⟨⟨0, grew_alloc hU (hs.at d).top _⟩, fun e he => by (have hm := mem_listed he; simp [go_sem, hn64] at hm)⟩, (hs.at d).alloc _, ?_⟩
        clear hK' K'
        rw [alloc_at']
        refine anyM_at hS hZ _ _ _ _ ?_ d
        replace hs := hs.alloc (.cells #[.pointer none] 140)
        refine anyM_end (by kernel_rfl) ?_ _
        (refine oW fun dd K hK => ?_; go_simp; refine qS hK hU ?_; clear hK K)
        refine ogE ?_
        refine h _ (w.heap.size + 1 + 1 + 1) (w.heap.size + 1 + 1) (w.heap.size) (w.heap.size + 1) _ (set3_of (four_size w _ _ _ _) (four_old w _ _ _ _) (four3 w _ _ _ _) (four2 w _ _ _ _) (four0 w _ _ _ _) (four1 w _ _ _ _) (by omega) (by omega) (by omega) (by omega) (by omega) (by omega) (by omega)) ⟨rfl, rfl, rfl, rfl, rfl, rfl, rfl, rfl, rfl, trivial⟩
      · refine opm_k rfl rfl (fun d K' hK' => ?_)
        go_simp
        refine hK' _ _ ⟨⟨⟨0, grew_alloc hU (hs.at d).top _⟩, fun e he => by (have hm := mem_listed he; simp [go_sem, hn64] at hm)⟩, (hs.at d).alloc _, ?_⟩
        clear hK' K'
        rw [alloc_at']
        refine anyM_at hS hZ _ _ _ _ ?_ d
        replace hs := hs.alloc (.cells #[.pointer none] 140)
        refine anyM_all (r := [4]) (by kernel_rfl) (by kernel_rfl) (fun i hi hil => ?_)
        simp only [List.mem_cons, List.not_mem_nil, or_false] at hi
        subst hi
        refine opm_k rfl rfl (fun d K' hK' => ?_)
        go_simp
        refine hK' _ _ ⟨⟨⟨0, grew_alloc hU (hs.at d).top _⟩, fun e he => by (have hm := mem_listed he; simp [go_sem, hn64] at hm)⟩, (hs.at d).alloc _, ?_⟩
        clear hK' K'
        rw [alloc_at']
        refine anyM_at hS hZ _ _ _ _ ?_ d
        replace hs := hs.alloc (.cells #[.chan (some (w.heap.size)), .slice none 0 0, .slice (some ⟨w.heap.size + 1, 0, none⟩) n n] 144)
        refine anyM_end (by kernel_rfl) ?_ _
        (refine oW fun dd K hK => ?_; go_simp; refine qS hK hU ?_; clear hK K)
        refine ogE ?_
        refine h _ (w.heap.size + 1 + 1) (w.heap.size + 1 + 1 + 1) (w.heap.size) (w.heap.size + 1) _ (set3_of (four_size w _ _ _ _) (four_old w _ _ _ _) (four2 w _ _ _ _) (four3 w _ _ _ _) (four0 w _ _ _ _) (four1 w _ _ _ _) (by omega) (by omega) (by omega) (by omega) (by omega) (by omega) (by omega)) ⟨rfl, rfl, rfl, rfl, rfl, rfl, rfl, rfl, rfl, trivial⟩
    · refine opm_k rfl rfl (fun d K' hK' => ?_)
      go_simp
      refine hK' _ _ ⟨⟨⟨0, grew_alloc hU (hs.at d).top _⟩, fun e he => by (have hm := mem_listed he; simp [go_sem, hn64] at hm)⟩, (hs.at d).alloc _, ?_⟩
      clear hK' K'
      rw [alloc_at']
      refine anyM_at hS hZ _ _ _ _ ?_ d
      replace hs := hs.alloc (.cells #[.pointer none] 140)
      refine anyM_all (r := [2]) (by kernel_rfl) (by kernel_rfl) (fun i hi hil => ?_)
      simp only [List.mem_cons, List.not_mem_nil, or_false] at hi
      subst hi
      refine opm_k rfl rfl (fun d K' hK' => ?_)
      go_simp
      refine hK' _ _ ⟨⟨⟨0, grew_alloc hU (hs.at d).top _⟩, fun e he => by (have hm := mem_listed he; simp [go_sem, hn64] at hm)⟩, (hs.at d).alloc _, ?_⟩
      clear hK' K'
      rw [alloc_at']
      refine anyM_at hS hZ _ _ _ _ ?_ d
      replace hs := hs.alloc (.cells (madeCells #[.bool false] n) 4)
      refine anyM_take hS hZ (i := 3) (v := .agg #[.chan (some (w.heap.size)), .slice none 0 0, .slice (some ⟨w.heap.size + 1 + 1, 0, none⟩) n n]) hs rfl rfl (by kernel_rfl) (by kernel_rfl) (by kernel_rfl) (fun u hu => .inl ⟨rfl, fun d => ⟨by simp [go_sem, execOp, Act.eval], fun e he => by have hm := mem_listed he; simp [go_sem, execOp, Act.eval] at hm⟩⟩) ?_
      walk_nrm
      refine anyM_all (r := [4]) (by kernel_rfl) (by kernel_rfl) (fun i hi hil => ?_)
      simp only [List.mem_cons, List.not_mem_nil, or_false] at hi
      subst hi
      refine opm_k rfl rfl (fun d K' hK' => ?_)
      go_simp
      refine hK' _ _ ⟨⟨⟨0, grew_alloc hU (hs.at d).top _⟩, fun e he => by (have hm := mem_listed he; simp [go_sem, hn64] at hm)⟩, (hs.at d).alloc _, ?_⟩
      clear hK' K'
      rw [alloc_at']
      refine anyM_at hS hZ _ _ _ _ ?_ d
      replace hs := hs.alloc (.cells #[.chan (some (w.heap.size)), .slice none 0 0, .slice (some ⟨w.heap.size + 1 + 1, 0, none⟩) n n] 144)
      refine anyM_end (by kernel_rfl) ?_ _
      (refine oW fun dd K hK => ?_; go_simp; refine qS hK hU ?_; clear hK K)
      refine ogE ?_
      refine h _ (w.heap.size + 1) (w.heap.size + 1 + 1 + 1) (w.heap.size) (w.heap.size + 1 + 1) _ (set3_of (four_size w _ _ _ _) (four_old w _ _ _ _) (four1 w _ _ _ _) (four3 w _ _ _ _) (four0 w _ _ _ _) (four2 w _ _ _ _) (by omega) (by omega) (by omega) (by omega) (by omega) (by omega) (by omega)) ⟨rfl, rfl, rfl, rfl, rfl, rfl, rfl, rfl, rfl, trivial⟩
  · refine opm_k rfl rfl (fun d K' hK' => ?_)
    go_simp
    refine hK' _ _ ⟨⟨⟨0, grew_alloc hU (hs.at d).top _⟩, fun e he => by (have hm := mem_listed he; simp [go_sem, hn64] at hm)⟩, (hs.at d).alloc _, ?_⟩
    clear hK' K'
    rw [alloc_at']
    refine anyM_at hS hZ _ _ _ _ ?_ d
    replace hs := hs.alloc (.cells (madeCells #[.bool false] n) 4)
    refine anyM_all (r := [0, 5]) (by kernel_rfl) (by kernel_rfl) (fun i hi hil => ?_)
    simp only [List.mem_cons, List.not_mem_nil, or_false] at hi
    rcases hi with rfl | rfl
    · refine opm_k rfl rfl (fun d K' hK' => ?_)
      go_simp
      refine hK' _ _ ⟨⟨⟨0, grew_alloc hU (hs.at d).top _⟩, fun e he => by (have hm := mem_listed he; simp [go_sem, hn64] at hm)⟩, (hs.at d).alloc _, ?_⟩
      clear hK' K'
      rw [alloc_at']
      refine anyM_at hS hZ _ _ _ _ ?_ d
      replace hs := hs.alloc (.chan 0 #[] false 0 0 false)
      refine anyM_take hS hZ (i := 3) (v := .agg #[.chan (some (w.heap.size + 1)), .slice none 0 0, .slice (some ⟨w.heap.size, 0, none⟩) n n]) hs rfl rfl (by kernel_rfl) (by kernel_rfl) (by kernel_rfl) (fun u hu => .inl ⟨rfl, fun d => ⟨by simp [go_sem, execOp, Act.eval], fun e he => by have hm := mem_listed he; simp [go_sem, execOp, Act.eval] at hm⟩⟩) ?_
      walk_nrm
      refine anyM_all (r := [4, 5]) (by kernel_rfl) (by kernel_rfl) (fun i hi hil => ?_)
      simp only [List.mem_cons, List.not_mem_nil, or_false] at hi
      rcases hi with rfl | rfl
      · refine opm_k rfl rfl (fun d K' hK' => ?_)
        go_simp
        refine hK' _ _ ⟨⟨⟨0, grew_alloc hU (hs.at d).top _⟩, fun e he => by (have hm := mem_listed he; simp [go_sem, hn64] at hm)⟩, (hs.at d).alloc _, ?_⟩
        clear hK' K'
        rw [alloc_at']
        refine anyM_at hS hZ _ _ _ _ ?_ d
        replace hs := hs.alloc (.cells #[.chan (some (w.heap.size + 1)), .slice none 0 0, .slice (some ⟨w.heap.size, 0, none⟩) n n] 144)
        refine anyM_all (r := [5]) (by kernel_rfl) (by kernel_rfl) (fun i hi hil => ?_)
        simp only [List.mem_cons, List.not_mem_nil, or_false] at hi
        subst hi
        refine opm_k rfl rfl (fun d K' hK' => ?_)
        go_simp
        refine hK' _ _ ⟨⟨⟨0, grew_alloc hU (hs.at d).top _⟩, fun e he => by (have hm := mem_listed he; simp [go_sem, hn64] at hm)⟩, (hs.at d).alloc _, ?_⟩
        clear hK' K'
        rw [alloc_at']
        refine anyM_at hS hZ _ _ _ _ ?_ d
        replace hs := hs.alloc (.cells #[.pointer none] 140)
        refine anyM_end (by kernel_rfl) ?_ _
        (refine oW fun dd K hK => ?_; go_simp; refine qS hK hU ?_; clear hK K)
        refine ogE ?_
        refine h _ (w.heap.size + 1 + 1 + 1) (w.heap.size + 1 + 1) (w.heap.size + 1) (w.heap.size) _ (set3_of (four_size w _ _ _ _) (four_old w _ _ _ _) (four3 w _ _ _ _) (four2 w _ _ _ _) (four1 w _ _ _ _) (four0 w _ _ _ _) (by omega) (by omega) (by omega) (by omega) (by omega) (by omega) (by omega)) ⟨rfl, rfl, rfl, rfl, rfl, rfl, rfl, rfl, rfl, trivial⟩
      · refine opm_k rfl rfl (fun d K' hK' => ?_)
        go_simp
        refine hK' _ _ ⟨⟨⟨0, grew_alloc hU (hs.at d).top _⟩, fun e he => by (have hm := mem_listed he; simp [go_sem, hn64] at hm)⟩, (hs.at d).alloc _, ?_⟩
        clear hK' K'
        rw [alloc_at']
        refine anyM_at hS hZ _ _ _ _ ?_ d
        replace hs := hs.alloc (.cells #[.pointer none] 140)
        refine anyM_all (r := [4]) (by kernel_rfl) (by kernel_rfl) (fun i hi hil => ?_)
        simp only [List.mem_cons, List.not_mem_nil, or_false] at hi
        subst hi
        refine opm_k rfl rfl (fun d K' hK' => ?_)
        go_simp
        refine hK' _ _ ⟨⟨⟨0, grew_alloc hU (hs.at d).top _⟩, fun e he => by (have hm := mem_listed he; simp [go_sem, hn64] at hm)⟩, (hs.at d).alloc _, ?_⟩
        clear hK' K'
        rw [alloc_at']
        refine anyM_at hS hZ _ _ _ _ ?_ d
        replace hs := hs.alloc (.cells #[.chan (some (w.heap.size + 1)), .slice none 0 0, .slice (some ⟨w.heap.size, 0, none⟩) n n] 144)
        refine anyM_end (by kernel_rfl) ?_ _
        (refine oW fun dd K hK => ?_; go_simp; refine qS hK hU ?_; clear hK K)
        refine ogE ?_
        refine h _ (w.heap.size + 1 + 1) (w.heap.size + 1 + 1 + 1) (w.heap.size + 1) (w.heap.size) _ (set3_of (four_size w _ _ _ _) (four_old w _ _ _ _) (four2 w _ _ _ _) (four3 w _ _ _ _) (four1 w _ _ _ _) (four0 w _ _ _ _) (by omega) (by omega) (by omega) (by omega) (by omega) (by omega) (by omega)) ⟨rfl, rfl, rfl, rfl, rfl, rfl, rfl, rfl, rfl, trivial⟩
    · refine opm_k rfl rfl (fun d K' hK' => ?_)
      go_simp
      refine hK' _ _ ⟨⟨⟨0, grew_alloc hU (hs.at d).top _⟩, fun e he => by (have hm := mem_listed he; simp [go_sem, hn64] at hm)⟩, (hs.at d).alloc _, ?_⟩
      clear hK' K'
      rw [alloc_at']
      refine anyM_at hS hZ _ _ _ _ ?_ d
      replace hs := hs.alloc (.cells #[.pointer none] 140)
      refine anyM_all (r := [0]) (by kernel_rfl) (by kernel_rfl) (fun i hi hil => ?_)
      simp only [List.mem_cons, List.not_mem_nil, or_false] at hi
      subst hi
      refine opm_k rfl rfl (fun d K' hK' => ?_)
      go_simp
      refine hK' _ _ ⟨⟨⟨0, grew_alloc hU (hs.at d).top _⟩, fun e he => by (have hm := mem_listed he; simp [go_sem, hn64] at hm)⟩, (hs.at d).alloc _, ?_⟩
      clear hK' K'
      rw [alloc_at']
      refine anyM_at hS hZ _ _ _ _ ?_ d
      replace hs := hs.alloc (.chan 0 #[] false 0 0 false)
      refine anyM_take hS hZ (i := 3) (v := .agg #[.chan (some (w.heap.size + 1 + 1)), .slice none 0 0, .slice (some ⟨w.heap.size, 0, none⟩) n n]) hs rfl rfl (by kernel_rfl) (by kernel_rfl) (by kernel_rfl) (fun u hu => .inl ⟨rfl, fun d => ⟨by simp [go_sem, execOp, Act.eval], fun e he => by have hm := mem_listed he; simp [go_sem, execOp, Act.eval] at hm⟩⟩) ?_
      walk_nrm
      refine anyM_all (r := [4]) (by kernel_rfl) (by kernel_rfl) (fun i hi hil => ?_)
      simp only [List.mem_cons, List.not_mem_nil, or_false] at hi
      subst hi
      refine opm_k rfl rfl (fun d K' hK' => ?_)
      go_simp
      refine hK' _ _ ⟨⟨⟨0, grew_alloc hU (hs.at d).top _⟩, fun e he => by (have hm := mem_listed he; simp [go_sem, hn64] at hm)⟩, (hs.at d).alloc _, ?_⟩
      clear hK' K'
      rw [alloc_at']
      refine anyM_at hS hZ _ _ _ _ ?_ d
      replace hs := hs.alloc (.cells #[.chan (some (w.heap.size + 1 + 1)), .slice none 0 0, .slice (some ⟨w.heap.size, 0, none⟩) n n] 144)
      refine anyM_end (by kernel_rfl) ?_ _
      (refine oW fun dd K hK => ?_; go_simp; refine qS hK hU ?_; clear hK K)
      refine ogE ?_
      refine h _ (w.heap.size + 1) (w.heap.size + 1 + 1 + 1) (w.heap.size + 1 + 1) (w.heap.size) _ (set3_of (four_size w _ _ _ _) (four_old w _ _ _ _) (four1 w _ _ _ _) (four3 w _ _ _ _) (four2 w _ _ _ _) (four0 w _ _ _ _) (by omega) (by omega) (by omega) (by omega) (by omega) (by omega) (by omega)) ⟨rfl, rfl, rfl, rfl, rfl, rfl, rfl, rfl, rfl, trivial⟩
  · refine opm_k rfl rfl (fun d K' hK' => ?_)
    go_simp
    refine hK' _ _ ⟨⟨⟨0, grew_alloc hU (hs.at d).top _⟩, fun e he => by (have hm := mem_listed he; simp [go_sem, hn64] at hm)⟩, (hs.at d).alloc _, ?_⟩
    clear hK' K'
    rw [alloc_at']
    refine anyM_at hS hZ _ _ _ _ ?_ d
    replace hs := hs.alloc (.cells #[.pointer none] 140)
    refine anyM_all (r := [0, 2]) (by kernel_rfl) (by kernel_rfl) (fun i hi hil => ?_)
    simp only [List.mem_cons, List.not_mem_nil, or_false] at hi
    rcases hi with rfl | rfl
    · refine opm_k rfl rfl (fun d K' hK' => ?_)
      go_simp
      refine hK' _ _ ⟨⟨⟨0, grew_alloc hU (hs.at d).top _⟩, fun e he => by (have hm := mem_listed he; simp [go_sem, hn64] at hm)⟩, (hs.at d).alloc _, ?_⟩
      clear hK' K'
      rw [alloc_at']
      refine anyM_at hS hZ _ _ _ _ ?_ d
      replace hs := hs.alloc (.chan 0 #[] false 0 0 false)
      refine anyM_all (r := [2]) (by kernel_rfl) (by kernel_rfl) (fun i hi hil => ?_)
      simp only [List.mem_cons, List.not_mem_nil, or_false] at hi
      subst hi
      refine opm_k rfl rfl (fun d K' hK' => ?_)
      go_simp
      refine hK' _ _ ⟨⟨⟨0, grew_alloc hU (hs.at d).top _⟩, fun e he => by (have hm := mem_listed he; simp [go_sem, hn64] at hm)⟩, (hs.at d).alloc _, ?_⟩
      clear hK' K'
      rw [alloc_at']
      refine anyM_at hS hZ _ _ _ _ ?_ d
      replace hs := hs.alloc (.cells (madeCells #[.bool false] n) 4)
      refine anyM_take hS hZ (i := 3) (v := .agg #[.chan (some (w.heap.size + 1)), .slice none 0 0, .slice (some ⟨w.heap.size + 1 + 1, 0, none⟩) n n]) hs rfl rfl (by kernel_rfl) (by kernel_rfl) (by kernel_rfl) (fun u hu => .inl ⟨rfl, fun d => ⟨by simp [go_sem, execOp, Act.eval], fun e he => by have hm := mem_listed he; simp [go_sem, execOp, Act.eval] at hm⟩⟩) ?_
      walk_nrm
      refine anyM_all (r := [4]) (by kernel_rfl) (by kernel_rfl) (fun i hi hil => ?_)
      simp only [List.mem_cons, List.not_mem_nil, or_false] at hi
      subst hi
      refine opm_k rfl rfl (fun d K' hK' => ?_)
      go_simp
      refine hK' _ _ ⟨⟨⟨0, grew_alloc hU (hs.at d).top _⟩, fun e he => by (have hm := mem_listed he; simp [go_sem, hn64] at hm)⟩, (hs.at d).alloc _, ?_⟩
      clear hK' K'
      rw [alloc_at']
      refine anyM_at hS hZ _ _ _ _ ?_ d
      replace hs := hs.alloc (.cells #[.chan (some (w.heap.size + 1)), .slice none 0 0, .slice (some ⟨w.heap.size + 1 + 1, 0, none⟩) n n] 144)
      refine anyM_end (by kernel_rfl) ?_ _
      (refine oW fun dd K hK => ?_; go_simp; refine qS hK hU ?_; clear hK K)
      refine ogE ?_
      refine h _ (w.heap.size) (w.heap.size + 1 + 1 + 1) (w.heap.size + 1) (w.heap.size + 1 + 1) _ (set3_of (four_size w _ _ _ _) (four_old w _ _ _ _) (four0 w _ _ _ _) (four3 w _ _ _ _) (four1 w _ _ _ _) (four2 w _ _ _ _) (by omega) (by omega) (by omega) (by omega) (by omega) (by omega) (by omega)) ⟨rfl, rfl, rfl, rfl, rfl, rfl, rfl, rfl, rfl, trivial⟩
    · refine opm_k rfl rfl (fun d K' hK' => ?_)
      go_simp
      refine hK' _ _ ⟨⟨⟨0, grew_alloc hU (hs.at d).top _⟩, fun e he => by (have hm := mem_listed he; simp [go_sem, hn64] at hm)⟩, (hs.at d).alloc _, ?_⟩
      clear hK' K'
      rw [alloc_at']
      refine anyM_at hS hZ _ _ _ _ ?_ d
      replace hs := hs.alloc (.cells (madeCells #[.bool false] n) 4)
      refine anyM_all (r := [0]) (by kernel_rfl) (by kernel_rfl) (fun i hi hil => ?_)
      simp only [List.mem_cons, List.not_mem_nil, or_false] at hi
      subst hi
      refine opm_k rfl rfl (fun d K' hK' => ?_)
      go_simp
      refine hK' _ _ ⟨⟨⟨0, grew_alloc hU (hs.at d).top _⟩, fun e he => by (have hm := mem_listed he; simp [go_sem, hn64] at hm)⟩, (hs.at d).alloc _, ?_⟩
      clear hK' K'
      rw [alloc_at']
      refine anyM_at hS hZ _ _ _ _ ?_ d
      replace hs := hs.alloc (.chan 0 #[] false 0 0 false)
      refine anyM_take hS hZ (i := 3) (v := .agg #[.chan (some (w.heap.size + 1 + 1)), .slice none 0 0, .slice (some ⟨w.heap.size + 1, 0, none⟩) n n]) hs rfl rfl (by kernel_rfl) (by kernel_rfl) (by kernel_rfl) (fun u hu => .inl ⟨rfl, fun d => ⟨by simp [go_sem, execOp, Act.eval], fun e he => by have hm := mem_listed he; simp [go_sem, execOp, Act.eval] at hm⟩⟩) ?_
      walk_nrm
      refine anyM_all (r := [4]) (by kernel_rfl) (by kernel_rfl) (fun i hi hil => ?_)
      simp only [List.mem_cons, List.not_mem_nil, or_false] at hi
      subst hi
      refine opm_k rfl rfl (fun d K' hK' => ?_)
      go_simp
      refine hK' _ _ ⟨⟨⟨0, grew_alloc hU (hs.at d).top _⟩, fun e he => by (have hm := mem_listed he; simp [go_sem, hn64] at hm)⟩, (hs.at d).alloc _, ?_⟩
      clear hK' K'
      rw [alloc_at']
      refine anyM_at hS hZ _ _ _ _ ?_ d
      replace hs := hs.alloc (.cells #[.chan (some (w.heap.size + 1 + 1)), .slice none 0 0, .slice (some ⟨w.heap.size + 1, 0, none⟩) n n] 144)
      refine anyM_end (by kernel_rfl) ?_ _
      (refine oW fun dd K hK => ?_; go_simp; refine qS hK hU ?_; clear hK K)
      refine ogE ?_
      refine h _ (w.heap.size) (w.heap.size + 1 + 1 + 1) (w.heap.size + 1 + 1) (w.heap.size + 1) _ (set3_of (four_size w _ _ _ _) (four_old w _ _ _ _) (four0 w _ _ _ _) (four3 w _ _ _ _) (four2 w _ _ _ _) (four1 w _ _ _ _) (by omega) (by omega) (by omega) (by omega) (by omega) (by omega) (by omega)) ⟨rfl, rfl, rfl, rfl, rfl, rfl, rfl, rfl, rfl, trivial⟩
end Go.Proofs.Ytcejbandeikdjaa
namespace Go.Proofs.Ytcejbandeikdjaa
open Go Go.Conc Go.RowKit Go.Proofs
variable {P : Program} {F : Fz} {w w' : World}
theorem Wf.of_grew {j : Nat} (h : Wf F w) (hg : Grew F w w' j) : Wf F w' := by
  constructor
  intro r z hz
  obtain ⟨c, e, z0, h1, h2⟩ := h.own r z hz
  rcases hg.objs r _ h1 with ⟨c1, e1, z1, c', h3, h4, _⟩ | h3
  · cases h3; exact ⟨c', e, z0, h4, h2⟩
  · exact ⟨c, e, z0, h3, h2⟩
theorem opm_lift {S' : FuncId → Bool} {px : Bool} (hC : Closed P S' px) (hF : px = true → ∀ r, F r = none) {fn : FuncId} {ops : Array Oper} {i : Nat} {o : Oper} {K : Act → World → Prop} {a : Act} (ho : ops[i]? = some o) (hok : opOk P S' px o.op = true)
    (hw : Region.wanted o (yielded ops a.tmps) = true) (hwf : Wf F w)
    (h : ∀ d, ∃ v u, (execOp a.eval o).run P (mask F (w.at d)) = .ok (.value v) u ∧ ∀ w', u = mask F w' → (∃ j, Grew F (w.at d) w' j) → Wf F w' → K (a.put o.dst v) w') : OpM P F fn ops i K a w := by
  refine ⟨o, ho, .inl ⟨hw, fun d => ?_⟩⟩
  obtain ⟨v, u, hr, hk⟩ := h d
  have hs := execOp_sims hC hF a.eval (fun v => rfl) (fun f => rfl) o hok (w.at d) ⟨hwf.own⟩
  unfold SimAt at hs
  rw [hr] at hs
  obtain ⟨w', es, j, hu, hrun, hev, het, hg, hwf', _⟩ := hs
  rw [hrun]
  refine ⟨⟨⟨j, hg⟩, fun e he => ?_⟩, hk w' hu ⟨j, hg⟩ hwf'⟩
  have hm := mem_listed he
  rw [hev] at hm
  exact het e (by simpa using hm)
theorem run_append_op {o : Oper} {a : Act} {v xv v' : Value} {u : World} (s x : Operand) (t : TypeId)
    (ho : o.op = .call { callee := .builtin .append, args := #[s, x], argTypes := #[t, t] }) (hs : a.eval s = v) (hx : a.eval x = xv)
    (hr : (Builtin.append_ #[t, t] o.type #[v, xv]).run P w = .ok v' u) : (execOp a.eval o).run P w = .ok (.value v') u := by
  unfold execOp
  simp only [ho, resolve, invoke, builtin, Sem.run_bind, Sem.run_pure, Result.andThen_ok, List.map_toArray, List.map_cons, List.map_nil, hs, hx, hr]
theorem info145 : ∃ i, Try.prog.info? 145 = some i ∧ i.zero = some (.pointer none) ∧ i.size = 1 ∧ i.bytes = 8 := by
  have h : (Try.prog.info? 145).map (fun i => (i.size, i.bytes)) = some (1, 8) := by kernel_rfl
  have h0 : (Try.prog.info? 145).bind (·.zero) = some (.pointer none) := by kernel_rfl
  obtain ⟨i, hi, h1⟩ := Option.map_eq_some_iff.1 h
  rw [hi] at h0
  simp only [Prod.mk.injEq] at h1
  exact ⟨i, hi, h0, h1.1, h1.2⟩
theorem slice_form2 {base n size : Nat} {e : TypeId} {v : Value} {xs : List Value} (h : w.ownsRow base e size v (n + 1) xs) : ∃ b cap cur, v = .slice (some ⟨b, 0, none⟩) (n + 1) cap ∧ base ≤ b ∧ w.heap[b]? = some (.cells cur e (0, 0)) := by
  rcases h.2 with ⟨_, h⟩ | ⟨b, cap, cur, h1, h2, h3, _⟩
  · omega
  · exact ⟨b, cap, cur, h1, h2, h3⟩
theorem own_chan {base n size b cap k l : Nat} {e : TypeId} {v : Value} {xs : List Value} {buf : Array Value} {cl tm : Bool} (h : w.ownsRow base e size v n xs) (hc : w.heap[b]? = some (.chan cap buf cl k l tm)) : some b ≠ Value.ownBlock v := by
  rcases h.2 with ⟨rfl, _⟩ | ⟨g, cap, cur, rfl, _, h3, _⟩
  · simp [Value.ownBlock]
  · intro h4
    simp only [Value.ownBlock, Option.some.injEq] at h4
    subst h4
    rw [hc] at h3
    cases h3
structure ST (F : Fz) (nn n tv tb bk br : Nat) (slv : Value) (u : World) : Prop where
  top : nn ≤ u.heap.size
  wf : Wf F u
  tvc : u.heap[tv]? = some (.cells #[.pointer (some ⟨tb, 0, none⟩)] 140)
  tbc : u.heap[tb]? = some (.cells #[.chan (some bk), slv, .slice (some ⟨br, 0, none⟩) n n] 144)
section
variable {nn n tv tb bk br : Nat} {slv : Value} {u : World}
theorem ST.at (h : ST F nn n tv tb bk br slv u) (d : Nat) : ST F nn n tv tb bk br slv (u.at d) := ⟨h.top, ⟨h.wf.own⟩, h.tvc, h.tbc⟩
theorem ST.alloc (hU : Under F nn) (h : ST F nn n tv tb bk br slv u) (o : Obj) : ST F nn n tv tb bk br slv (u.alloc o) :=
  ⟨by have := h.top; simp; omega, h.wf.of_grew (grew_alloc hU h.top o), (heap_alloc_lt _ _ (Array.getElem?_eq_some_iff.1 h.tvc).1).trans h.tvc, (heap_alloc_lt _ _ (Array.getElem?_eq_some_iff.1 h.tbc).1).trans h.tbc⟩
theorem ST.c1 (h : ST F nn n tv tb bk br slv u) : u.cell? ⟨tv, 0, none⟩ = some (.pointer (some ⟨tb, 0, none⟩)) := by simp [World.cell?, h.tvc]
theorem ST.z1 (h : ST F nn n tv tb bk br slv u) : u.frozen? ⟨tv, 0, none⟩ = false := by simp [World.frozen?, h.tvc]
theorem ST.c2 (h : ST F nn n tv tb bk br slv u) : u.cell? ⟨tb, 1, none⟩ = some slv := by simp [World.cell?, h.tbc]
theorem ST.z2 (h : ST F nn n tv tb bk br slv u) : u.frozen? ⟨tb, 1, none⟩ = false := by simp [World.frozen?, h.tbc]
end
structure Stood (F : Fz) (nn n tv tb bk br i : Nat) (slv : Value) (xs : List Value) (w w' : World) (v' : Value) (p q : Nat) : Prop where
  st : ST F nn n tv tb bk br v' w'
  row : w'.ownsRow nn 145 1 v' (i + 1) (xs ++ [.pointer (some ⟨q, 0, none⟩)])
  pc : w'.heap[p]? = some (.chan 0 #[] false 0 0 false)
  qc : w'.heap[q]? = some (.cells #[.pointer (some ⟨tb, 0, none⟩), .chan (some p), .bool false] 148)
  pl : p = w.heap.size
  ql : q = w.heap.size + 1
  size : w.heap.size + 2 ≤ w'.heap.size
  old : ∀ r, nn ≤ r → r < w.heap.size → r ≠ tb → some r ≠ Value.ownBlock slv → w'.heap[r]? = w.heap[r]?
set_option maxRecDepth 100000 in
set_option maxHeartbeats 8000000 in
theorem ov_s6 {nn n tv tb bk br i mo od nb : Nat} {slv thr sch : Value} {xs : List Value} (hU : Under F nn) (hs : ST F nn n tv tb bk br slv w) (hrow : w.ownsRow nn 145 1 slv i xs) (hi64 : i < 64) (hlow : nn ≤ tv ∧ nn ≤ tb) {A : Array Value} (hA : Slots 129 A [(0, thr), (1, sch), (5, .pointer (some ⟨mo, 0, none⟩)), (6, .pointer (some ⟨od, 0, none⟩)), (7, .bool false), (8, .slice none 0 0), (9, .pointer (some ⟨nb, 0, none⟩)), (10, .pointer (some ⟨tv, 0, none⟩)), (29, .int .i64 n), (30, .int .i64 i)]) {cs : List Frame} {main : Bool} {Stop : Goroutine → World → Prop} {k : List Item}
    (h : ∀ (w' : World) (v' : Value) (p q : Nat) (A : Array Value), Stood F nn n tv tb bk br i slv xs w w' v' p q → Slots 129 A [(0, thr), (1, sch), (5, .pointer (some ⟨mo, 0, none⟩)), (6, .pointer (some ⟨od, 0, none⟩)), (7, .bool false), (8, .slice none 0 0), (9, .pointer (some ⟨nb, 0, none⟩)), (10, .pointer (some ⟨tv, 0, none⟩)), (29, .int .i64 n), (30, .int .i64 i)] → Own Try.prog main F Stop (G ((Go.Conc.base 62).at ⟨A, []⟩ k) cs) w') :
    Own Try.prog main F Stop (G ((Go.Conc.base 62).at ⟨A, []⟩ (.code ovr6 :: k)) cs) w := by
  obtain ⟨hsz, h0, h1, h5, h6, h7, h8, h9, h10, h29, h30, _⟩ := hA
  obtain ⟨s, rfl⟩ := ovT_of hsz
  change s 0 = _ at h0
  change s 1 = _ at h1
  change s 5 = _ at h5
  change s 6 = _ at h6
  change s 7 = _ at h7
  change s 8 = _ at h8
  change s 9 = _ at h9
  change s 10 = _ at h10
  change s 29 = _ at h29
  change s 30 = _ at h30
  clear hsz
  simp only [ovT, h0, h1, h5, h6, h7, h8, h9, h10, h29, h30]
  clear h0 h1 h5 h6 h7 h8 h9 h10 h29 h30
  have hS : ∀ u d, ST F nn n tv tb bk br slv u → ST F nn n tv tb bk br slv (World.at u d) := fun u d h => h.at d
  have htop := hs.top
  rw [ovr6_eq]
  refine own_drawnM (ST F nn n tv tb bk br slv) (last := 13) run_mixed (ll_of (by kernel_rfl)) (by decide) ?_
  simp only [ovo6, Code.opsOf, ovr6, Code.piece, ovBody, Try.f62, Option.getD_some, List.size_toArray, List.length_cons, List.length_nil, Nat.reduceAdd, Nat.zero_add, List.range, List.range.loop]
  have hZ : ∀ a u d, Own Try.prog main F Stop (G ((Go.Conc.base 62).at a (.inRegion ovo6 [13] :: k)) cs) u → Own Try.prog main F Stop (G ((Go.Conc.base 62).at a (.inRegion ovo6 [13] :: k)) cs) (World.at u d) := fun a u d h => h.at d
  simp only [ovo6, Code.opsOf, ovr6, Code.piece, ovBody, Try.f62, Option.getD_some, List.size_toArray, List.length_cons, List.length_nil, Nat.reduceAdd, Nat.zero_add, List.range, List.range.loop] at hZ
  refine anyM_take hS hZ (i := 0) (v := .pointer (some ⟨tb, 0, none⟩)) hs rfl rfl (by kernel_rfl) (by kernel_rfl) (by kernel_rfl) (fun u hu => .inl ⟨rfl, fun d => ⟨by simp [go_sem, execOp, Act.eval, hu.c1, hu.z1], fun e he => by have hm := mem_listed he; simp [go_sem, execOp, Act.eval, hu.c1, hu.z1] at hm; subst hm; exact evT_read _ _⟩⟩) ?_
  walk_nrm
  refine anyM_take hS hZ (i := 1) (v := .pointer (some ⟨tb, 0, none⟩)) hs rfl rfl (by kernel_rfl) (by kernel_rfl) (by kernel_rfl) (fun u hu => .inl ⟨rfl, fun d => ⟨by simp [go_sem, execOp, Act.eval, hu.c1, hu.z1], fun e he => by have hm := mem_listed he; simp [go_sem, execOp, Act.eval, hu.c1, hu.z1] at hm; subst hm; exact evT_read _ _⟩⟩) ?_
  walk_nrm
  refine anyM_take hS hZ (i := 2) (v := .pointer (some ⟨tb, 0, none⟩)) hs rfl rfl (by kernel_rfl) (by kernel_rfl) (by kernel_rfl) (fun u hu => .inl ⟨rfl, fun d => ⟨by simp [go_sem, execOp, Act.eval], fun e he => by have hm := mem_listed he; simp [go_sem, execOp, Act.eval] at hm⟩⟩) ?_
  walk_nrm
  refine anyM_take hS hZ (i := 3) (v := .pointer (some ⟨tb, 1, none⟩)) hs rfl rfl (by kernel_rfl) (by kernel_rfl) (by kernel_rfl) (fun u hu => .inl ⟨rfl, fun d => ⟨by simp [go_sem, execOp, Act.eval], fun e he => by have hm := mem_listed he; simp [go_sem, execOp, Act.eval] at hm⟩⟩) ?_
  walk_nrm
  refine anyM_take hS hZ (i := 4) (v := slv) hs rfl rfl (by kernel_rfl) (by kernel_rfl) (by kernel_rfl) (fun u hu => .inl ⟨rfl, fun d => ⟨by simp [go_sem, execOp, Act.eval, hu.c2, hu.z2], fun e he => by have hm := mem_listed he; simp [go_sem, execOp, Act.eval, hu.c2, hu.z2] at hm; subst hm; exact evT_read _ _⟩⟩) ?_
  walk_nrm
  refine anyM_take hS hZ (i := 5) (v := .pointer (some ⟨tb, 0, none⟩)) hs rfl rfl (by kernel_rfl) (by kernel_rfl) (by kernel_rfl) (fun u hu => .inl ⟨rfl, fun d => ⟨by simp [go_sem, execOp, Act.eval, hu.c1, hu.z1], fun e he => by have hm := mem_listed he; simp [go_sem, execOp, Act.eval, hu.c1, hu.z1] at hm; subst hm; exact evT_read _ _⟩⟩) ?_
  walk_nrm
  refine anyM_all (r := [6]) (by kernel_rfl) (by kernel_rfl) (fun i hi hil => ?_)
  simp only [List.mem_cons, List.not_mem_nil, or_false] at hi
  subst hi
  refine opm_k rfl rfl (fun d K' hK' => ?_)
  go_simp
  refine hK' _ _ ⟨⟨⟨0, grew_alloc hU (hs.at d).top _⟩, fun e he => by (have hm := mem_listed he; simp [go_sem] at hm)⟩, (hs.at d).alloc hU _, ?_⟩
  clear hK' K'
  rw [alloc_at']
  refine anyM_at hS hZ _ _ _ _ ?_ d
  replace hs := hs.alloc hU (.chan 0 #[] false 0 0 false)
  refine anyM_take hS hZ (i := 7) (v := .agg #[.pointer (some ⟨tb, 0, none⟩), .chan (some w.heap.size), .bool false]) hs rfl rfl (by kernel_rfl) (by kernel_rfl) (by kernel_rfl) (fun u hu => .inl ⟨rfl, fun d => ⟨by simp [go_sem, execOp, Act.eval], fun e he => by have hm := mem_listed he; simp [go_sem, execOp, Act.eval] at hm⟩⟩) ?_
  walk_nrm
  refine anyM_all (r := [8]) (by kernel_rfl) (by kernel_rfl) (fun i hi hil => ?_)
  simp only [List.mem_cons, List.not_mem_nil, or_false] at hi
  subst hi
  refine opm_k rfl rfl (fun d K' hK' => ?_)
  go_simp
  refine hK' _ _ ⟨⟨⟨0, grew_alloc hU (hs.at d).top _⟩, fun e he => by (have hm := mem_listed he; simp [go_sem] at hm)⟩, (hs.at d).alloc hU _, ?_⟩
  clear hK' K'
  rw [alloc_at']
  refine anyM_at hS hZ _ _ _ _ ?_ d
  replace hs := hs.alloc hU (.cells #[.pointer (some ⟨tb, 0, none⟩), .chan (some w.heap.size), .bool false] 148)
  refine anyM_all (r := [9]) (by kernel_rfl) (by kernel_rfl) (fun i hi hil => ?_)
  simp only [List.mem_cons, List.not_mem_nil, or_false] at hi
  subst hi
  refine opm_k rfl rfl (fun d K' hK' => ?_)
  go_simp
  refine hK' _ _ ⟨⟨⟨0, grew_alloc hU (hs.at d).top _⟩, fun e he => by (have hm := mem_listed he; simp [go_sem] at hm)⟩, (hs.at d).alloc hU _, ?_⟩
  clear hK' K'
  rw [alloc_at']
  refine anyM_at hS hZ _ _ _ _ ?_ d
  replace hs := hs.alloc hU (.cells #[.pointer (some ⟨w.heap.size + 1, 0, none⟩)] 145)
  refine anyM_all (r := [10]) (by kernel_rfl) (by kernel_rfl) (fun i hi hil => ?_)
  simp only [List.mem_cons, List.not_mem_nil, or_false] at hi
  subst hi
  obtain ⟨i0, hi0, hz0, hz1, hz2⟩ := info145
  have hFn : ∀ b, nn ≤ b → F b = none := fun b hb => by
    cases e : F b with
    | none => rfl
    | some z => exact absurd (hU b z e) (by omega)
  have hown4 : ∀ b, Value.ownBlock slv = some b → nn ≤ b → b < w.heap.size := fun b hb _ => (hrow.lt b hb).2
  have hW4 : ∀ r, r < w.heap.size → (((w.alloc (.chan 0 #[] false 0 0 false)).alloc (.cells #[.pointer (some ⟨tb, 0, none⟩), .chan (some w.heap.size), .bool false] 148)).alloc (.cells #[.pointer (some ⟨w.heap.size + 1, 0, none⟩)] 145)).heap[r]? = w.heap[r]? := fun r hr => by
    rw [heap_alloc_lt _ _ (by simp; omega), heap_alloc_lt _ _ (by simp; omega), heap_alloc_lt _ _ hr]
  have hp4 : (((w.alloc (.chan 0 #[] false 0 0 false)).alloc (.cells #[.pointer (some ⟨tb, 0, none⟩), .chan (some w.heap.size), .bool false] 148)).alloc (.cells #[.pointer (some ⟨w.heap.size + 1, 0, none⟩)] 145)).heap[w.heap.size]? = some (.chan 0 #[] false 0 0 false) := by
    rw [heap_alloc_lt _ _ (by simp; omega), heap_alloc_lt _ _ (by simp)]
    exact heap_alloc_new _ _
  have hq4 : (((w.alloc (.chan 0 #[] false 0 0 false)).alloc (.cells #[.pointer (some ⟨tb, 0, none⟩), .chan (some w.heap.size), .bool false] 148)).alloc (.cells #[.pointer (some ⟨w.heap.size + 1, 0, none⟩)] 145)).heap[w.heap.size + 1]? = some (.cells #[.pointer (some ⟨tb, 0, none⟩), .chan (some w.heap.size), .bool false] 148) := by
    rw [heap_alloc_lt _ _ (by simp)]
    have := heap_alloc_new (w.alloc (.chan 0 #[] false 0 0 false)) (.cells #[.pointer (some ⟨tb, 0, none⟩), .chan (some w.heap.size), .bool false] 148)
    simpa using this
  have hn4 := cell_one_new ((w.alloc (.chan 0 #[] false 0 0 false)).alloc (.cells #[.pointer (some ⟨tb, 0, none⟩), .chan (some w.heap.size), .bool false] 148)) (.pointer (some ⟨w.heap.size + 1, 0, none⟩)) 145
  have hsz4 : (((w.alloc (.chan 0 #[] false 0 0 false)).alloc (.cells #[.pointer (some ⟨tb, 0, none⟩), .chan (some w.heap.size), .bool false] 148)).alloc (.cells #[.pointer (some ⟨w.heap.size + 1, 0, none⟩)] 145)).heap.size = w.heap.size + 3 := by simp
  have hz4 : ((w.alloc (.chan 0 #[] false 0 0 false)).alloc (.cells #[.pointer (some ⟨tb, 0, none⟩), .chan (some w.heap.size), .bool false] 148)).heap.size = w.heap.size + 1 + 1 := by simp
  rw [hz4] at hn4
  clear hz4
  generalize ((w.alloc (.chan 0 #[] false 0 0 false)).alloc (.cells #[.pointer (some ⟨tb, 0, none⟩), .chan (some w.heap.size), .bool false] 148)).alloc (.cells #[.pointer (some ⟨w.heap.size + 1, 0, none⟩)] 145) = W4 at *
  refine opm_lift (S' := fun _ => false) (px := false) (ready0.shut false) (by simp) rfl rfl rfl hs.wf (fun d => ?_)
  have hrowm : (mask F (W4.at d)).ownsRow nn 145 1 slv i xs := ownsRow_same2 hrow fun b hb hbn => by
    rw [mask_at_none (hFn b hbn)]
    exact hW4 b (hown4 b hb hbn)
  obtain ⟨v', u, hr, hown, hgrow, _⟩ := run_append_own (P := Try.prog) (mask F (W4.at d)) nn 142 142 145 i0 (.pointer none) 1 8 Try.underlying142 hi0 hz0 hz1 hz2 rfl (by decide) slv i xs hrowm ⟨w.heap.size + 1 + 1, 0, none⟩ 1 1 [.pointer (some ⟨w.heap.size + 1, 0, none⟩)] rfl
    (fun j u hu => (mask_at_cell _).trans (hn4 j u hu)) (fun x hx => by simp at hx; subst hx; rfl) (by unfold maxLen; omega) (by omega) (by rw [mask_size]; show nn ≤ W4.heap.size; omega)
  refine ⟨v', u, run_append_op (.tmp 36) (.tmp 41) 142 rfl rfl rfl hr, fun w' hu hg hwf' => ?_⟩
  subst hu
  have hkeep : ∀ r, nn ≤ r → r < w.heap.size + 3 → some r ≠ Value.ownBlock slv → w'.heap[r]? = W4.heap[r]? := fun r h1 h2 h3 => by
    have := hgrow.block r (by rw [mask_size]; show r < W4.heap.size; omega) h3
    rw [mask_at_none (hFn r h1), mask_at_none (hFn r h1)] at this
    exact this
  have htvl := (Array.getElem?_eq_some_iff.1 hs.tvc).1
  have ntv := own_type hrowm ((mask_at_none (hFn tv hlow.1)).trans (show (W4.at d).heap[tv]? = _ from hs.tvc)) (by decide)
  have ntb := own_type hrowm ((mask_at_none (hFn tb hlow.2)).trans (show (W4.at d).heap[tb]? = _ from hs.tbc)) (by decide)
  have np := own_chan hrowm ((mask_at_none (hFn w.heap.size htop)).trans (show (W4.at d).heap[w.heap.size]? = _ from hp4))
  have nq := own_type hrowm ((mask_at_none (hFn (w.heap.size + 1) (by omega))).trans (show (W4.at d).heap[w.heap.size + 1]? = _ from hq4)) (by decide)
  have hsize : w.heap.size + 3 ≤ w'.heap.size := by
    have := hgrow.size
    rw [mask_size, mask_size] at this
    have h2 : (W4.at d).heap.size = w.heap.size + 3 := hsz4
    omega
  have htv4 := (Array.getElem?_eq_some_iff.1 hs.tvc).1
  have htb4 := (Array.getElem?_eq_some_iff.1 hs.tbc).1
  have hst' : ST F nn n tv tb bk br slv w' := ⟨by omega, hwf', (hkeep tv hlow.1 (by omega) ntv).trans hs.tvc, (hkeep tb hlow.2 (by omega) ntb).trans hs.tbc⟩
  obtain ⟨b1, cap1, cur1, rfl, hb1, hb2⟩ := slice_form2 hown
  have hb3 : w'.heap[b1]? = some (.cells cur1 145 (0, 0)) := by rw [mask_at_none (hFn b1 hb1)] at hb2; exact hb2
  have hrow' : w'.ownsRow nn 145 1 (.slice (some ⟨b1, 0, none⟩) (i + 1) cap1) (i + 1) (xs ++ [.pointer (some ⟨w.heap.size + 1, 0, none⟩)]) := ownsRow_same2 hown fun b hb hbn => (mask_at_none (hFn b hbn)).symm
  have nb1 : b1 ≠ tb := by
    rintro rfl
    rw [hst'.tbc] at hb3
    cases hb3
  have htt : tv ≠ tb := by
    rintro rfl
    have := hst'.tbc
    rw [hst'.tvc] at this
    cases this
  refine ⟨hst', ?_⟩
  clear hs
  have hs := hst'
  walk_nrm
  refine anyM_take hS hZ (i := 11) (v := .pointer (some ⟨tb, 0, none⟩)) hs rfl rfl (by kernel_rfl) (by kernel_rfl) (by kernel_rfl) (fun u hu => .inl ⟨rfl, fun d => ⟨by simp [go_sem, execOp, Act.eval], fun e he => by have hm := mem_listed he; simp [go_sem, execOp, Act.eval] at hm⟩⟩) ?_
  walk_nrm
  refine anyM_take hS hZ (i := 12) (v := .pointer (some ⟨tb, 1, none⟩)) hs rfl rfl (by kernel_rfl) (by kernel_rfl) (by kernel_rfl) (fun u hu => .inl ⟨rfl, fun d => ⟨by simp [go_sem, execOp, Act.eval], fun e he => by have hm := mem_listed he; simp [go_sem, execOp, Act.eval] at hm⟩⟩) ?_
  walk_nrm
  refine anyM_end (by kernel_rfl) ?_ _
  have ctb := hst'.c2
  have ztb := hst'.z2
  have htb1 := hlow.2
  have hnh : ¬ held F ⟨tb, 1, none⟩ := not_held hU htb1
  clear hZ hS hn4 hr hown hgrow hrowm
  (refine oW fun dd K hK => ?_; go_simp; refine hK _ _ ⟨⟨⟨0, grew_setCell rfl hnh _⟩, fun e he => by (have hm := mem_listed he; clear he hK; simp [go_sem, storedEv, ctb, ztb] at hm; subst hm; exact evT_write _ _ hnh)⟩, ?_⟩; clear hK K; rw [setCell_at']; refine Own.at ?_ dd)
  refine ogE ?_
  refine h _ (.slice (some ⟨b1, 0, none⟩) (i + 1) cap1) (w.heap.size) (w.heap.size + 1) _ ?_ ⟨rfl, rfl, rfl, rfl, rfl, rfl, rfl, rfl, rfl, rfl, rfl, trivial⟩
  refine ⟨⟨by simp; omega, hwf'.of_grew (grew_setCell rfl (not_held hU hlow.2) _), (heap_setCell_ne _ _ _ htt).trans hst'.tvc, by simp [World.setCell, Array.getElem?_modify, hst'.tbc]⟩, ownsRow_same2 hrow' fun b hb _ => heap_setCell_ne _ _ _ (by simp only [Value.ownBlock, Option.some.injEq] at hb; subst hb; exact nb1), ?_, ?_, rfl, rfl, by simp; omega, fun r h1 h2 h3 h4 => ?_⟩
  · refine (heap_setCell_ne _ _ _ ?_).trans ((hkeep _ htop (by omega) np).trans hp4)
    rintro rfl
    have := hst'.tbc
    rw [hkeep _ htop (by omega) np, hp4] at this
    cases this
  · refine (heap_setCell_ne _ _ _ ?_).trans ((hkeep _ (by omega) (by omega) nq).trans hq4)
    intro e
    simp only at e
    have := hst'.tbc
    rw [← e, hkeep _ (by omega) (by omega) nq, hq4] at this
    cases this
  · rw [heap_setCell_ne _ _ _ h3, hkeep r h1 (by omega) h4, hW4 r h2]
end Go.Proofs.Ytcejbandeikdjaa
namespace Go.Proofs.Ytcejbandeikdjaa
open Go Go.Conc Go.RowKit Go.Proofs
variable {F : Fz} {w w' : World}
set_option maxRecDepth 100000 in
set_option maxHeartbeats 2000000 in
theorem ov_w2 {n mo od nb tv : Nat} {thr sch : Value} (hc : w.cell? ⟨nb, 0, none⟩ = some (.int .i64 n)) (hz : w.frozen? ⟨nb, 0, none⟩ = false) {A : Array Value} (hA : Slots 129 A [(0, thr), (1, sch), (5, .pointer (some ⟨mo, 0, none⟩)), (6, .pointer (some ⟨od, 0, none⟩)), (7, .bool false), (8, .slice none 0 0), (9, .pointer (some ⟨nb, 0, none⟩)), (10, .pointer (some ⟨tv, 0, none⟩))]) {cs : List Frame} {main : Bool} {Stop : Goroutine → World → Prop}
    (h : ∀ A, Slots 129 A [(0, thr), (1, sch), (5, .pointer (some ⟨mo, 0, none⟩)), (6, .pointer (some ⟨od, 0, none⟩)), (7, .bool false), (8, .slice none 0 0), (9, .pointer (some ⟨nb, 0, none⟩)), (10, .pointer (some ⟨tv, 0, none⟩)), (29, .int .i64 n), (30, .int .i64 (0 : Nat))] → Own Try.prog main F Stop (G ((Go.Conc.base 62).at ⟨A, []⟩ [.code ovs7, .inLoop ovs7, .inBlock 0, .code ovs10]) cs) w) : Own Try.prog main F Stop (G ((Go.Conc.base 62).at ⟨A, []⟩ [.code ovs4]) cs) w := by
  obtain ⟨hsz, h0, h1, h5, h6, h7, h8, h9, h10, _⟩ := hA
  obtain ⟨s, rfl⟩ := ovT_of hsz
  change s 0 = _ at h0
  change s 1 = _ at h1
  change s 5 = _ at h5
  change s 6 = _ at h6
  change s 7 = _ at h7
  change s 8 = _ at h8
  change s 9 = _ at h9
  change s 10 = _ at h10
  clear hsz
  simp only [ovT, h0, h1, h5, h6, h7, h8, h9, h10]
  clear h0 h1 h5 h6 h7 h8 h9 h10
  rw [ovs4_eq]
  refine ogS ?_
  rw [ovs5_eq]
  refine ogS ?_
  rw [ovr4_eq]
  refine ogR ?_
  simp only [ovo4, Code.opsOf, ovr4, Code.piece, ovBody, Try.f62, Option.getD_some, List.size_toArray, List.length_cons, List.length_nil, Nat.reduceAdd, Nat.zero_add, List.range, List.range.loop]
  (refine oW fun dd K hK => ?_; go_simp; refine qL hK ?_; clear hK K)
  (refine oW fun dd K hK => ?_; go_simp; refine qT hK ?_; clear hK K)
  refine ogE ?_
  rw [ovb0_eq]
  refine ogB ?_
  rw [ovl6_eq]
  refine ogP ?_
  refine h _ ?_
  exact ⟨rfl, rfl, rfl, rfl, rfl, rfl, rfl, rfl, rfl, rfl, rfl, trivial⟩
set_option maxRecDepth 100000 in
set_option maxHeartbeats 2000000 in
theorem ov_w3 {n mo od nb tv : Nat} {thr sch : Value} {i : Nat} (hi : i < n) {A : Array Value} (hA : Slots 129 A [(0, thr), (1, sch), (5, .pointer (some ⟨mo, 0, none⟩)), (6, .pointer (some ⟨od, 0, none⟩)), (7, .bool false), (8, .slice none 0 0), (9, .pointer (some ⟨nb, 0, none⟩)), (10, .pointer (some ⟨tv, 0, none⟩)), (29, .int .i64 n), (30, .int .i64 i)]) {cs : List Frame} {main : Bool} {Stop : Goroutine → World → Prop}
    (h : ∀ A, Slots 129 A [(0, thr), (1, sch), (5, .pointer (some ⟨mo, 0, none⟩)), (6, .pointer (some ⟨od, 0, none⟩)), (7, .bool false), (8, .slice none 0 0), (9, .pointer (some ⟨nb, 0, none⟩)), (10, .pointer (some ⟨tv, 0, none⟩)), (29, .int .i64 n), (30, .int .i64 i)] → Own Try.prog main F Stop (G ((Go.Conc.base 62).at ⟨A, []⟩ [.code ovr6, .inBlock 1, .code ovr7, .inLoop ovs7, .inBlock 0, .code ovs10]) cs) w) : Own Try.prog main F Stop (G ((Go.Conc.base 62).at ⟨A, []⟩ [.code ovs7, .inLoop ovs7, .inBlock 0, .code ovs10]) cs) w := by
  obtain ⟨hsz, h0, h1, h5, h6, h7, h8, h9, h10, h29, h30, _⟩ := hA
  obtain ⟨s, rfl⟩ := ovT_of hsz
  change s 0 = _ at h0
  change s 1 = _ at h1
  change s 5 = _ at h5
  change s 6 = _ at h6
  change s 7 = _ at h7
  change s 8 = _ at h8
  change s 9 = _ at h9
  change s 10 = _ at h10
  change s 29 = _ at h29
  change s 30 = _ at h30
  clear hsz
  simp only [ovT, h0, h1, h5, h6, h7, h8, h9, h10, h29, h30]
  clear h0 h1 h5 h6 h7 h8 h9 h10 h29 h30
  have hlt : decide ((i : Int) < (n : Int)) = true := by simp; omega
  have hlt2 : decide (i < n) = true := by simp; omega
  rw [ovs7_eq]
  refine ogS ?_
  rw [ovr5_eq]
  refine ogR ?_
  simp only [ovo5, Code.opsOf, ovr5, Code.piece, ovBody, Try.f62, Option.getD_some, List.size_toArray, List.length_cons, List.length_nil, Nat.reduceAdd, Nat.zero_add, List.range, List.range.loop]
  (refine oW fun dd K hK => ?_; go_simp; refine qT hK ?_; clear hK K)
  refine ogE ?_
  rw [ovs8_eq]
  refine ogS ?_
  rw [ovc31_eq]
  refine ogT ?_
  simp only [if_true]
  refine ogK ?_
  rw [ovs9_eq]
  refine ogS ?_
  rw [ovb1_eq]
  refine ogB ?_
  refine h _ ?_
  exact ⟨rfl, rfl, rfl, rfl, rfl, rfl, rfl, rfl, rfl, rfl, rfl, trivial⟩
set_option maxRecDepth 100000 in
set_option maxHeartbeats 2000000 in
theorem ov_w4 {n mo od nb tv : Nat} {thr sch : Value} {i : Nat} (hi : i < 100) {A : Array Value} (hA : Slots 129 A [(0, thr), (1, sch), (5, .pointer (some ⟨mo, 0, none⟩)), (6, .pointer (some ⟨od, 0, none⟩)), (7, .bool false), (8, .slice none 0 0), (9, .pointer (some ⟨nb, 0, none⟩)), (10, .pointer (some ⟨tv, 0, none⟩)), (29, .int .i64 n), (30, .int .i64 i)]) {cs : List Frame} {main : Bool} {Stop : Goroutine → World → Prop}
    (h : ∀ A, Slots 129 A [(0, thr), (1, sch), (5, .pointer (some ⟨mo, 0, none⟩)), (6, .pointer (some ⟨od, 0, none⟩)), (7, .bool false), (8, .slice none 0 0), (9, .pointer (some ⟨nb, 0, none⟩)), (10, .pointer (some ⟨tv, 0, none⟩)), (29, .int .i64 n), (30, .int .i64 (i + 1 : Nat))] → Own Try.prog main F Stop (G ((Go.Conc.base 62).at ⟨A, []⟩ [.code ovs7, .inLoop ovs7, .inBlock 0, .code ovs10]) cs) w) : Own Try.prog main F Stop (G ((Go.Conc.base 62).at ⟨A, []⟩ [.inBlock 1, .code ovr7, .inLoop ovs7, .inBlock 0, .code ovs10]) cs) w := by
  obtain ⟨hsz, h0, h1, h5, h6, h7, h8, h9, h10, h29, h30, _⟩ := hA
  obtain ⟨s, rfl⟩ := ovT_of hsz
  change s 0 = _ at h0
  change s 1 = _ at h1
  change s 5 = _ at h5
  change s 6 = _ at h6
  change s 7 = _ at h7
  change s 8 = _ at h8
  change s 9 = _ at h9
  change s 10 = _ at h10
  change s 29 = _ at h29
  change s 30 = _ at h30
  clear hsz
  simp only [ovT, h0, h1, h5, h6, h7, h8, h9, h10, h29, h30]
  clear h0 h1 h5 h6 h7 h8 h9 h10 h29 h30
  have hk64 : IntKind.i64.wrap ((i : Int) + 1) = (i : Int) + 1 := IntWalk.i64_in _ (by omega)
  refine ogI ?_
  rw [ovr7_eq]
  refine ogR ?_
  simp only [ovo7, Code.opsOf, ovr7, Code.piece, ovBody, Try.f62, Option.getD_some, List.size_toArray, List.length_cons, List.length_nil, Nat.reduceAdd, Nat.zero_add, List.range, List.range.loop]
  (refine oW fun dd K hK => ?_; go_simp; refine qT hK ?_; clear hK K)
  (refine oW fun dd K hK => ?_; go_simp; refine qT hK ?_; clear hK K)
  refine ogE ?_
  refine ogL ?_
  refine h _ ?_
  exact ⟨rfl, rfl, rfl, rfl, rfl, rfl, rfl, rfl, rfl, rfl, rfl, trivial⟩
set_option maxRecDepth 100000 in
set_option maxHeartbeats 2000000 in
theorem ov_w5 {nn : Nat} (hU : Under F nn) (hn : nn ≤ w.heap.size) {n mo od nb tv : Nat} {thr sch : Value} (hb : nb < w.heap.size) (hc : w.cell? ⟨nb, 0, none⟩ = some (.int .i64 n)) (hz : w.frozen? ⟨nb, 0, none⟩ = false) {A : Array Value} (hA : Slots 129 A [(0, thr), (1, sch), (5, .pointer (some ⟨mo, 0, none⟩)), (6, .pointer (some ⟨od, 0, none⟩)), (7, .bool false), (8, .slice none 0 0), (9, .pointer (some ⟨nb, 0, none⟩)), (10, .pointer (some ⟨tv, 0, none⟩)), (29, .int .i64 n), (30, .int .i64 n)]) {cs : List Frame} {main : Bool} {Stop : Goroutine → World → Prop}
    (h : ∀ A, Slots 129 A [(0, thr), (1, sch), (7, .bool false), (46, .int .i64 n), (47, .int .i64 (0 : Nat)), (5, .pointer (some ⟨mo, 0, none⟩)), (6, .pointer (some ⟨od, 0, none⟩)), (8, .slice none 0 0), (9, .pointer (some ⟨nb, 0, none⟩)), (10, .pointer (some ⟨tv, 0, none⟩)), (11, .pointer (some ⟨w.heap.size, 0, none⟩))] → Own Try.prog main F Stop (G ((Go.Conc.base 62).at ⟨A, []⟩ [.code ovs14, .inLoop ovs14, .inBlock 2, .code ovs21]) cs) (w.alloc (.cells #[.int .i64 0] 3))) : Own Try.prog main F Stop (G ((Go.Conc.base 62).at ⟨A, []⟩ [.code ovs7, .inLoop ovs7, .inBlock 0, .code ovs10]) cs) w := by
  obtain ⟨hsz, h0, h1, h5, h6, h7, h8, h9, h10, h29, h30, _⟩ := hA
  obtain ⟨s, rfl⟩ := ovT_of hsz
  change s 0 = _ at h0
  change s 1 = _ at h1
  change s 5 = _ at h5
  change s 6 = _ at h6
  change s 7 = _ at h7
  change s 8 = _ at h8
  change s 9 = _ at h9
  change s 10 = _ at h10
  change s 29 = _ at h29
  change s 30 = _ at h30
  clear hsz
  simp only [ovT, h0, h1, h5, h6, h7, h8, h9, h10, h29, h30]
  clear h0 h1 h5 h6 h7 h8 h9 h10 h29 h30
  have hlt : decide ((n : Int) < (n : Int)) = false := by simp
  have hc' := (cell_alloc w (.cells #[.int .i64 0] 3) ⟨nb, 0, none⟩ hb).trans hc
  have hz' : (w.alloc (.cells #[.int .i64 0] 3)).frozen? ⟨nb, 0, none⟩ = false := by
    have : (w.alloc (.cells #[.int .i64 0] 3)).heap[nb]? = w.heap[nb]? := heap_alloc_lt w _ hb
    unfold World.frozen?
    simp only [this]
    exact hz
  rw [ovs7_eq]
  refine ogS ?_
  rw [ovr5_eq]
  refine ogR ?_
  simp only [ovo5, Code.opsOf, ovr5, Code.piece, ovBody, Try.f62, Option.getD_some, List.size_toArray, List.length_cons, List.length_nil, Nat.reduceAdd, Nat.zero_add, List.range, List.range.loop]
  (refine oW fun dd K hK => ?_; go_simp; refine qT hK ?_; clear hK K)
  refine ogE ?_
  rw [ovs8_eq]
  refine ogS ?_
  rw [ovc31_eq]
  refine ogF ?_
  simp only [Bool.false_eq_true, if_false]
  refine own_go rfl (fun d => stepG_exit rfl) ?_
  rw [ovs10_eq]
  refine ogS ?_
  rw [ovr8_eq]
  refine ogR ?_
  simp only [ovo8, Code.opsOf, ovr8, Code.piece, ovBody, Try.f62, Option.getD_some, List.size_toArray, List.length_cons, List.length_nil, Nat.reduceAdd, Nat.zero_add, List.range, List.range.loop]
  (refine oW fun dd K hK => ?_; go_simp; refine qA hK hU ?_; clear hK K)
  (refine oW fun dd K hK => ?_; go_simp; refine qS hK hU ?_; clear hK K)
  have e1 := set_new w (.int .i64 0) (.int .i64 0) 3
  rw [e1]
  clear e1
  refine ogE ?_
  rw [ovs11_eq]
  refine ogS ?_
  rw [ovs12_eq]
  refine ogS ?_
  rw [ovr9_eq]
  refine ogR ?_
  simp only [ovo9, Code.opsOf, ovr9, Code.piece, ovBody, Try.f62, Option.getD_some, List.size_toArray, List.length_cons, List.length_nil, Nat.reduceAdd, Nat.zero_add, List.range, List.range.loop]
  (refine oW fun dd K hK => ?_; go_simp; refine qL hK ?_; clear hK K)
  (refine oW fun dd K hK => ?_; go_simp; refine qT hK ?_; clear hK K)
  refine ogE ?_
  rw [ovb2_eq]
  refine ogB ?_
  rw [ovl13_eq]
  refine ogP ?_
  refine h _ ?_
  exact ⟨rfl, rfl, rfl, rfl, rfl, rfl, rfl, rfl, rfl, rfl, rfl, rfl, trivial⟩
end Go.Proofs.Ytcejbandeikdjaa
namespace Go.Proofs.Ytcejbandeikdjaa
open Go Go.Conc Go.RowKit Go.Proofs
variable {F : Fz} {w w' : World} {nn n tv tb bk br mo od nb M : Nat} {slv : Value} {sts : List (Nat × Nat)}
structure Stands (F : Fz) (nn n tv tb bk br mo od nb M : Nat) (slv : Value) (sts : List (Nat × Nat)) (w : World) : Prop where
  st : ST F nn n tv tb bk br slv w
  row : w.ownsRow nn 145 1 slv sts.length (sts.map fun s => .pointer (some ⟨s.1, 0, none⟩))
  mem : ∀ s ∈ sts, w.heap[s.1]? = some (.cells #[.pointer (some ⟨tb, 0, none⟩), .chan (some s.2), .bool false] 148) ∧ w.heap[s.2]? = some (.chan 0 #[] false 0 0 false) ∧ nn ≤ s.1 ∧ nn ≤ s.2
  nd1 : (sts.map (·.1)).Nodup
  nd2 : (sts.map (·.2)).Nodup
  bkc : w.heap[bk]? = some (.chan 0 #[] false 0 0 false) ∧ nn ≤ bk ∧ ∀ s ∈ sts, s.2 ≠ bk
  brc : w.heap[br]? = some (.cells (madeCells #[.bool false] n) 4) ∧ nn ≤ br
  moc : w.heap[mo]? = some (.cells #[.int .i64 M] 3) ∧ nn ≤ mo
  odc : w.heap[od]? = some (.cells #[.slice none 0 0] 24) ∧ nn ≤ od
  nbc : w.heap[nb]? = some (.cells #[.int .i64 n] 3) ∧ nn ≤ nb
  low : nn ≤ tv ∧ nn ≤ tb
  mn : mo ≠ nb
theorem Stands.at (h : Stands F nn n tv tb bk br mo od nb M slv sts w) (d : Nat) : Stands F nn n tv tb bk br mo od nb M slv sts (w.at d) :=
  ⟨h.st.at d, h.row, h.mem, h.nd1, h.nd2, h.bkc, h.brc, h.moc, h.odc, h.nbc, h.low, h.mn⟩
theorem Stands.next (h : Stands F nn n tv tb bk br mo od nb M slv sts w) {v' : Value} {p q : Nat} (k : Stood F nn n tv tb bk br sts.length slv (sts.map fun s => .pointer (some ⟨s.1, 0, none⟩)) w w' v' p q) :
    Stands F nn n tv tb bk br mo od nb M v' (sts ++ [(q, p)]) w' := by
  have hcell : ∀ r c e z, w.heap[r]? = some (.cells c e z) → nn ≤ r → e ≠ 145 → e ≠ 144 → w'.heap[r]? = some (.cells c e z) := fun r c e z h1 h2 h3 h4 =>
    (k.old r h2 (Array.getElem?_eq_some_iff.1 h1).1 (by rintro rfl; rw [h.st.tbc] at h1; cases h1; exact h4 rfl) (own_type h.row h1 (Ne.symm h3))).trans h1
  have hchan : ∀ r, w.heap[r]? = some (.chan 0 #[] false 0 0 false) → nn ≤ r → w'.heap[r]? = some (.chan 0 #[] false 0 0 false) := fun r h1 h2 =>
    (k.old r h2 (Array.getElem?_eq_some_iff.1 h1).1 (by rintro rfl; rw [h.st.tbc] at h1; cases h1) (own_chan h.row h1)).trans h1
  have hlt1 : ∀ s ∈ sts, s.1 < w.heap.size ∧ s.2 < w.heap.size := fun s hs => ⟨(Array.getElem?_eq_some_iff.1 (h.mem s hs).1).1, (Array.getElem?_eq_some_iff.1 (h.mem s hs).2.1).1⟩
  have htop := h.st.top
  have hp := k.pl
  have hq := k.ql
  refine ⟨k.st, ?_, fun s hs => ?_, ?_, ?_, ⟨hchan _ h.bkc.1 h.bkc.2.1, h.bkc.2.1, fun s hs => ?_⟩, ⟨hcell _ _ _ _ h.brc.1 h.brc.2 (by decide) (by decide), h.brc.2⟩, ⟨hcell _ _ _ _ h.moc.1 h.moc.2 (by decide) (by decide), h.moc.2⟩, ⟨hcell _ _ _ _ h.odc.1 h.odc.2 (by decide) (by decide), h.odc.2⟩, ⟨hcell _ _ _ _ h.nbc.1 h.nbc.2 (by decide) (by decide), h.nbc.2⟩, h.low, h.mn⟩
  · have := k.row
    simpa using this
  · rcases List.mem_append.1 hs with hs | hs
    · obtain ⟨h1, h2, h3, h4⟩ := h.mem s hs
      exact ⟨hcell _ _ _ _ h1 h3 (by decide) (by decide), hchan _ h2 h4, h3, h4⟩
    · simp only [List.mem_singleton] at hs
      subst hs
      exact ⟨k.qc, k.pc, by simp only; omega, by simp only; omega⟩
  · rw [List.map_append, List.nodup_append]
    refine ⟨h.nd1, by simp, fun a ha b hb => ?_⟩
    obtain ⟨s, hs, rfl⟩ := List.mem_map.1 ha
    simp only [List.map_cons, List.map_nil, List.mem_singleton] at hb
    have := (hlt1 s hs).1
    omega
  · rw [List.map_append, List.nodup_append]
    refine ⟨h.nd2, by simp, fun a ha b hb => ?_⟩
    obtain ⟨s, hs, rfl⟩ := List.mem_map.1 ha
    simp only [List.map_cons, List.map_nil, List.mem_singleton] at hb
    have := (hlt1 s hs).2
    omega
  · rcases List.mem_append.1 hs with hs | hs
    · exact h.bkc.2.2 s hs
    · simp only [List.mem_singleton] at hs
      subst hs
      have := (Array.getElem?_eq_some_iff.1 h.bkc.1).1
      simp only
      omega
theorem ov_stands (hU : Under F nn) (hn64 : n ≤ 64) {thr sch : Value} {cs : List Frame} {main : Bool} {Stop : Goroutine → World → Prop}
    (hk : ∀ (w : World) slv sts A, Stands F nn n tv tb bk br mo od nb M slv sts w → sts.length = n → Slots 129 A [(0, thr), (1, sch), (5, .pointer (some ⟨mo, 0, none⟩)), (6, .pointer (some ⟨od, 0, none⟩)), (7, .bool false), (8, .slice none 0 0), (9, .pointer (some ⟨nb, 0, none⟩)), (10, .pointer (some ⟨tv, 0, none⟩)), (29, .int .i64 n), (30, .int .i64 n)] →
      Own Try.prog main F Stop (G ((Go.Conc.base 62).at ⟨A, []⟩ [.code ovs7, .inLoop ovs7, .inBlock 0, .code ovs10]) cs) w) :
    ∀ (k i : Nat), i + k = n → ∀ (w : World) slv sts A, Stands F nn n tv tb bk br mo od nb M slv sts w → sts.length = i → Slots 129 A [(0, thr), (1, sch), (5, .pointer (some ⟨mo, 0, none⟩)), (6, .pointer (some ⟨od, 0, none⟩)), (7, .bool false), (8, .slice none 0 0), (9, .pointer (some ⟨nb, 0, none⟩)), (10, .pointer (some ⟨tv, 0, none⟩)), (29, .int .i64 n), (30, .int .i64 i)] →
      Own Try.prog main F Stop (G ((Go.Conc.base 62).at ⟨A, []⟩ [.code ovs7, .inLoop ovs7, .inBlock 0, .code ovs10]) cs) w := by
  intro k
  induction k with
  | zero =>
    intro i hi w slv sts A h hl hA
    obtain rfl : i = n := by omega
    exact hk w slv sts A h hl hA
  | succ k ih =>
    intro i hi w slv sts A h hl hA
    refine ov_w3 (by omega) hA fun A hA => ?_
    have hrow := h.row
    subst hl
    refine ov_s6 hU h.st hrow (by omega) h.low hA fun w' v' p q A hS hA => ?_
    refine ov_w4 (by omega) hA fun A hA => ?_
    exact ih (sts.length + 1) (by omega) w' v' (sts ++ [(q, p)]) A (h.next hS) (by simp) hA
structure Made (nn M : Nat) (g : Gate) (v : Mine) (w : World) : Prop where
  ok : g.Ok
  lie : ∀ a u, g.Place a u → Lies w a u
  top : g.top ≤ w.heap.size
  sln : ∃ a, g.sl = .slice a g.n g.sc
  over : ∀ j, j < g.n → Lies w ⟨g.st j, 2, none⟩ (.bool false)
  brk : ∀ j, j < g.n → Lies w ⟨g.br, j, none⟩ (.bool false)
  chans : ∀ c, g.Chan c → w.heap[c]? = some (.chan 0 #[] false 0 0 false) ∧ nn ≤ c
  place : ∀ a u, g.Place a u → nn ≤ a.block
  st : ∀ j, j < g.n → nn ≤ g.st j ∧ g.st j < w.heap.size
  br : nn ≤ g.br ∧ g.br < w.heap.size
  mo : w.heap[v.mo]? = some (.cells #[.int .i64 M] 3)
  od : w.heap[v.od]? = some (.cells #[.slice none 0 0] 24)
  n : w.heap[v.n]? = some (.cells #[.int .i64 g.n] 3)
  lf : w.heap[v.lf]? = some (.cells #[.int .i64 (0 : Nat)] 3)
  low : nn ≤ v.mo ∧ nn ≤ v.od ∧ nn ≤ v.n ∧ nn ≤ v.lf
  dn : v.mo ≠ v.n ∧ v.lf ≠ v.n ∧ v.lf ≠ v.mo
  alone : ∀ b c e, w.heap[b]? = some (.cells c e (0, 0)) → e = 3 ∨ e = 24 → (∀ j, j < g.n → b ≠ g.st j) ∧ b ≠ g.br ∧ ∀ a u, g.Place a u → b ≠ a.block
theorem madeCells_get (n j : Nat) (h : j < n) : (madeCells #[Value.bool false] n)[j]? = some (.bool false) := by
  simp [madeCells, h, Nat.mod_one]
theorem nodup_inj {α : Type} {l : List α} (h : l.Nodup) {i j : Nat} (hi : i < l.length) (hj : j < l.length) (e : l[i] = l[j]) : i = j := by
  have := List.pairwise_iff_getElem.1 h
  rcases Nat.lt_trichotomy i j with h1 | h1 | h1
  · exact absurd e (this i j hi hj h1)
  · exact h1
  · exact absurd e.symm (this j i hj hi h1)
theorem made_of {A : Anchor} (hF : A.b ≤ nn) {slv : Value} {sts : List (Nat × Nat)} (h : Stands F nn n tv tb bk br mo od nb M slv sts w) (hl : sts.length = n) :
    ∃ g : Gate, g.an = A ∧ g.n = n ∧ g.tv = tv ∧ Made nn M g ⟨mo, od, nb, w.heap.size⟩ (w.alloc (.cells #[.int .i64 (0 : Nat)] 3)) := by
  have hk : ∀ r o, w.heap[r]? = some o → (w.alloc (.cells #[.int .i64 (0 : Nat)] 3)).heap[r]? = some o := fun r o hr => (heap_alloc_lt _ _ (Array.getElem?_eq_some_iff.1 hr).1).trans hr
  obtain ⟨sa, sc, hrow⟩ : ∃ sa sc, (0 < n → slv = .slice (some ⟨sa, 0, none⟩) n sc ∧ nn ≤ sa ∧ ∃ cur, w.heap[sa]? = some (.cells cur 145 (0, 0)) ∧ ∀ j, j < n → cur[j]? = some (.pointer (some ⟨(sts.getD j (0, 0)).1, 0, none⟩))) ∧ ∃ a, slv = .slice a n sc := by
    rcases h.row.2 with ⟨h1, h2⟩ | ⟨b, cap, cur, h1, h2, h3, h4, h5, h6, h7⟩
    · exact ⟨0, 0, fun h0 => by omega, none, by rw [h1, ← hl, h2]⟩
    · rw [hl] at h1 h4 h7
      refine ⟨b, cap, fun h0 => ⟨h1, h2, cur, h3, fun j hj => ?_⟩, some ⟨b, 0, none⟩, h1⟩
      have h8 := congrArg (·[j]?) h7
      simp only [Nat.mul_one, List.getElem?_take, if_pos hj, Array.getElem?_toList] at h8
      rw [h8]
      have hj' : j < sts.length := by omega
      simp [hj', List.getD_eq_getElem?_getD]
  obtain ⟨hrow1, a0, hrow2⟩ := hrow
  have hmem : ∀ j, j < n → sts.getD j (0, 0) ∈ sts := fun j hj => by
    have hj' : j < sts.length := by omega
    simp [List.getD_eq_getElem?_getD, hj']
  have hinj1 : ∀ i j, i < n → j < n → (sts.getD i (0, 0)).1 = (sts.getD j (0, 0)).1 → i = j := fun i j hi hj e => by
    have hi' : i < sts.length := by omega
    have hj' : j < sts.length := by omega
    simp only [List.getD_eq_getElem?_getD, List.getElem?_eq_getElem hi', List.getElem?_eq_getElem hj', Option.getD_some] at e
    exact nodup_inj h.nd1 (by simpa using hi') (by simpa using hj') (by simpa using e)
  have hinj2 : ∀ i j, i < n → j < n → (sts.getD i (0, 0)).2 = (sts.getD j (0, 0)).2 → i = j := fun i j hi hj e => by
    have hi' : i < sts.length := by omega
    have hj' : j < sts.length := by omega
    simp only [List.getD_eq_getElem?_getD, List.getElem?_eq_getElem hi', List.getElem?_eq_getElem hj', Option.getD_some] at e
    exact nodup_inj h.nd2 (by simpa using hi') (by simpa using hj') (by simpa using e)
  let g : Gate := { tv := tv, tb := tb, bk := bk, sa := sa, sc := sc, br := br, n := n, sl := slv, bl := .slice (some ⟨br, 0, none⟩) n n, st := fun j => (sts.getD j (0, 0)).1, pc := fun j => (sts.getD j (0, 0)).2, top := w.heap.size, an := A }
  have hstm : ∀ j, j < n → w.heap[(sts.getD j (0, 0)).1]? = some (.cells #[.pointer (some ⟨tb, 0, none⟩), .chan (some (sts.getD j (0, 0)).2), .bool false] 148) := fun j hj => (h.mem _ (hmem j hj)).1
  have hlt : ∀ r o, w.heap[r]? = some o → r < w.heap.size := fun r o hr => (Array.getElem?_eq_some_iff.1 hr).1
  have hplace : ∀ a u, g.Place a u → ∃ c e, w.heap[a.block]? = some (.cells c e (0, 0)) ∧ c[a.off]? = some u ∧ a.spot = none ∧ nn ≤ a.block ∧ (e = 140 ∨ e = 144 ∨ e = 145 ∨ e = 148) ∧ (e = 148 → a.off < 2) := by
    intro a u p
    cases p with
    | tv => exact ⟨_, _, h.st.tvc, rfl, rfl, h.low.1, by simp, by simp⟩
    | back => exact ⟨_, _, h.st.tbc, rfl, rfl, h.low.2, by simp, by simp⟩
    | stands => exact ⟨_, _, h.st.tbc, rfl, rfl, h.low.2, by simp, by simp⟩
    | broken => exact ⟨_, _, h.st.tbc, rfl, rfl, h.low.2, by simp, by simp⟩
    | stand i hi =>
      obtain ⟨_, h2, cur, h3, h4⟩ := hrow1 (Nat.lt_of_le_of_lt (Nat.zero_le _) hi)
      exact ⟨cur, 145, h3, h4 i hi, rfl, h2, by simp, by simp⟩
    | gate i hi => exact ⟨_, _, hstm i hi, rfl, rfl, (h.mem _ (hmem i hi)).2.2.1, by simp, by simp⟩
    | pass i hi => exact ⟨_, _, hstm i hi, rfl, rfl, (h.mem _ (hmem i hi)).2.2.1, by simp, by simp⟩
  have hchan : ∀ c, g.Chan c → w.heap[c]? = some (.chan 0 #[] false 0 0 false) ∧ nn ≤ c := by
    rintro c (rfl | ⟨i, hi, rfl⟩)
    · exact ⟨h.bkc.1, h.bkc.2.1⟩
    · exact ⟨(h.mem _ (hmem i hi)).2.1, (h.mem _ (hmem i hi)).2.2.2⟩
  refine ⟨g, rfl, rfl, rfl, ⟨⟨fun a u c p hc => ?_, fun c hc => Nat.le_trans hF (hchan c hc).2, fun a u p => ?_, fun c hc => hlt _ _ (hchan c hc).1, hinj2, fun i hi => h.bkc.2.2 _ (hmem i hi), fun h0 => (hrow1 h0).1, fun _ => rfl, fun a u p => ?_, fun i a u hi p e => ?_, fun i hi e => ?_, fun _ => hlt _ _ h.brc.1, hinj1⟩, fun a u p => ?_, by simp [g], ⟨a0, hrow2⟩, fun j hj => ⟨⟨_, _, hk _ _ (hstm j hj), rfl⟩, rfl⟩, fun j hj => ⟨⟨_, _, hk _ _ h.brc.1, madeCells_get n j hj⟩, rfl⟩,
    fun c hc => ⟨hk _ _ (hchan c hc).1, (hchan c hc).2⟩, fun a u p => ?_, fun j hj => ⟨(h.mem _ (hmem j hj)).2.2.1, by have := hlt _ _ (hstm j hj); simp only [World.size_alloc, g]; omega⟩, ⟨h.brc.2, by have := hlt _ _ h.brc.1; simp only [World.size_alloc, g]; omega⟩, hk _ _ h.moc.1, hk _ _ h.odc.1, hk _ _ h.nbc.1, heap_alloc_new _ _,
    ⟨h.moc.2, h.odc.2, h.nbc.2, h.st.top⟩, ⟨h.mn, ?_, ?_⟩, fun b c e hb he => ?_⟩⟩
  · obtain ⟨c', e, h1, _⟩ := hplace a u p
    rintro rfl
    rw [(hchan _ hc).1] at h1
    cases h1
  · obtain ⟨c', e, h1, _⟩ := hplace a u p
    exact hlt _ _ h1
  · obtain ⟨c', e, h1, _, _, _, h2, _⟩ := hplace a u p
    intro e1
    have := h.brc.1
    rw [show br = a.block from e1, h1] at this
    simp only [Option.some.injEq, Obj.cells.injEq] at this
    rw [this.2.1] at h2
    simp at h2
  · obtain ⟨c', e', h1, _, _, _, _, h2⟩ := hplace a u p
    have h3 := hstm i hi
    rw [show (sts.getD i (0, 0)).1 = a.block from e, h1] at h3
    cases h3
    exact h2 rfl
  · have := h.brc.1
    rw [show br = (sts.getD i (0, 0)).1 from e, hstm i hi] at this
    simp only [Option.some.injEq, Obj.cells.injEq] at this
    exact absurd this.2.1 (by decide)
  · obtain ⟨c', e, h1, h2, h3, _⟩ := hplace a u p
    exact ⟨⟨c', e, hk _ _ h1, h2⟩, h3⟩
  · obtain ⟨c', e, _, _, _, h1, _⟩ := hplace a u p
    exact h1
  · have := hlt _ _ h.nbc.1; simp only; omega
  · have := hlt _ _ h.moc.1; simp only; omega
  · have hfin : ∀ r c' e', w.heap[r]? = some (.cells c' e' (0, 0)) → e' ≠ 3 → e' ≠ 24 → b ≠ r := fun r c' e' h1 h2 h3 h4 => by
      subst h4
      rw [hk _ _ h1] at hb
      cases hb
      rcases he with rfl | rfl
      · exact h2 rfl
      · exact h3 rfl
    refine ⟨fun j hj => hfin _ _ _ (hstm j hj) (by decide) (by decide), hfin _ _ _ h.brc.1 (by decide) (by decide), fun a u p => ?_⟩
    obtain ⟨c', e', h1, _, _, _, h2, _⟩ := hplace a u p
    refine hfin _ _ _ h1 ?_ ?_
    · rintro rfl; simp at h2
    · rintro rfl; simp at h2
end Go.Proofs.Ytcejbandeikdjaa
namespace Go.Proofs.Ytcejbandeikdjaa
open Go Go.Conc Go.RowKit Go.Proofs
variable {g : Gate} {P : Program} {F : Fz} {w w' : World}
theorem setCell_same {a : Nat} {c : Array Value} {e : TypeId} {z : Nat × Nat} {v : Value} (h : w.heap[a]? = some (.cells c e z)) (hv : c[0]? = some v) : w.setCell ⟨a, 0, none⟩ v = w := by
  have hh : (w.setCell ⟨a, 0, none⟩ v).heap = w.heap := by
    apply Array.ext_getElem?
    intro i
    by_cases e1 : i = a
    · subst e1
      have hc0 := (Array.getElem?_eq_some_iff.1 hv).1
      simp only [World.setCell, Array.getElem?_modify, h, if_true, Option.map_some, Option.isSome_none, Bool.false_eq_true, if_false, Option.some.injEq, Obj.cells.injEq, and_true]
      apply Array.ext_getElem?
      intro j
      rw [Array.getElem?_setIfInBounds]
      split
      · rename_i e2; subst e2; first | exact hv.symm | (rw [if_pos hc0]; exact hv.symm)
      · rfl
    · exact heap_setCell_ne _ _ _ e1
  have e : w.setCell ⟨a, 0, none⟩ v = { w with heap := (w.setCell ⟨a, 0, none⟩ v).heap } := rfl
  rw [e, hh]
theorem stepG_leave' {main : Bool} {b : Frame} {a : Act} {cs : List Frame} {fn : Func} {todo : List Item} {c : Frame} {v : Value} (hn : b.kind = .normal) (hd : a.defers = []) (hf : P.funcs[b.fn]? = some fn)
    (hr : (results fn a.tmps).run P w = .ok v w) :
    stepG P main (G { b.at a todo with mode := .returning } (c :: cs)) w = .go (G (c.finish v) cs) w (seen P b.fn ((results fn a.tmps).events P w #[])) := by
  simp [G, stepG, unwind, doReturn, Frame.at, hn, hd, hf, hr, GStep.after]
theorem own_leave {main : Bool} {b : Frame} {a : Act} {cs : List Frame} {fn : Func} {todo : List Item} {c : Frame} {v : Value} {Stop : Goroutine → World → Prop} (hn : b.kind = .normal) (hd : a.defers = []) (hf : P.funcs[b.fn]? = some fn)
    (hr : ∀ d, (results fn a.tmps).run P (w.at d) = .ok v (w.at d)) (he : ∀ d, ∀ e ∈ (results fn a.tmps).events P (w.at d) #[], EvT F e) (h : Own P main F Stop (G (c.finish v) cs) w) :
    Own P main F Stop (G { b.at a todo with mode := .returning } (c :: cs)) w :=
  .step rfl fun d => ⟨_, _, _, stepG_leave' hn hd hf (hr d), ⟨⟨0, Grew.refl _ _⟩, fun e hm => he d e (mem_seen hm)⟩, h.at d⟩
structure SE (g : Gate) (od : Nat) (oa : Option Addr) (ol oc : Nat) (u : World) : Prop where
  hod : ∃ c e, u.heap[od]? = some (.cells c e (0, 0)) ∧ c[0]? = some (.slice oa ol oc)
  t : Lies u ⟨g.tv, 0, none⟩ (.pointer (some ⟨g.tb, 0, none⟩))
  b : Lies u ⟨g.tb, 2, none⟩ g.bl
section
variable {od ol oc : Nat} {oa : Option Addr} {u : World}
theorem SE.at (h : SE g od oa ol oc u) (d : Nat) : SE g od oa ol oc (u.at d) := ⟨h.hod, h.t.at d, h.b.at d⟩
theorem SE.lo (h : SE g od oa ol oc u) : Lies u ⟨od, 0, none⟩ (.slice oa ol oc) := by obtain ⟨c, e, h1, h2⟩ := h.hod; exact ⟨⟨c, e, h1, h2⟩, rfl⟩
theorem SE.co (h : SE g od oa ol oc u) : u.cell? ⟨od, 0, none⟩ = some (.slice oa ol oc) := h.lo.c
theorem SE.zo (h : SE g od oa ol oc u) : u.frozen? ⟨od, 0, none⟩ = false := h.lo.z
theorem SE.ct (h : SE g od oa ol oc u) : u.cell? ⟨g.tv, 0, none⟩ = some (.pointer (some ⟨g.tb, 0, none⟩)) := h.t.c
theorem SE.zt (h : SE g od oa ol oc u) : u.frozen? ⟨g.tv, 0, none⟩ = false := h.t.z
theorem SE.cb (h : SE g od oa ol oc u) : u.cell? ⟨g.tb, 2, none⟩ = some (g.bl) := h.b.c
theorem SE.zb (h : SE g od oa ol oc u) : u.frozen? ⟨g.tb, 2, none⟩ = false := h.b.z
end
abbrev F0 : Fz := fun _ => none
set_option maxRecDepth 100000 in
set_option maxHeartbeats 4000000 in
theorem ov_end {v : Mine} {st : Bool} {oa : Option Addr} {ol oc : Nat} (hs : SE g v.od oa ol oc w) {A : Array Value} (hA : Slots 129 A (ovEnds g v st g.n)) {c : Frame} {cs : List Frame} {main : Bool} {Stop : Goroutine → World → Prop}
    (h : Own Try.prog main F0 Stop (G (c.finish (.tuple #[.slice oa ol oc, .bool st, g.bl])) cs) w) : Own Try.prog main F0 Stop (G ((Go.Conc.base 62).at ⟨A, []⟩ [.code ovs48]) (c :: cs)) w := by
  obtain ⟨hsz, h7, h107, h108, h109, h5, h6, h8, h9, h10, h11, _⟩ := hA
  obtain ⟨s, rfl⟩ := ovT_of hsz
  change s 7 = _ at h7
  change s 107 = _ at h107
  change s 108 = _ at h108
  change s 109 = _ at h109
  change s 5 = _ at h5
  change s 6 = _ at h6
  change s 8 = _ at h8
  change s 9 = _ at h9
  change s 10 = _ at h10
  change s 11 = _ at h11
  clear hsz
  simp only [ovT, h7, h107, h108, h109, h5, h6, h8, h9, h10, h11]
  clear h7 h107 h108 h109 h5 h6 h8 h9 h10 h11
  have hS : ∀ u d, SE g v.od oa ol oc u → SE g v.od oa ol oc (World.at u d) := fun u d h => h.at d
  rw [ovs48_eq]
  refine ogS ?_
  rw [ovr36_eq]
  refine own_drawnM (SE g v.od oa ol oc) (last := 8) run_mixed (ll_of (by kernel_rfl)) (by decide) ?_
  simp only [ovo36, Code.opsOf, ovr36, Code.piece, ovBody, Try.f62, Option.getD_some, List.size_toArray, List.length_cons, List.length_nil, Nat.reduceAdd, Nat.zero_add, List.range, List.range.loop]
  have hZ : ∀ a u d, Own Try.prog main F0 Stop (G ((Go.Conc.base 62).at a [.inRegion ovo36 [8], .code .ret]) (c :: cs)) u → Own Try.prog main F0 Stop (G ((Go.Conc.base 62).at a [.inRegion ovo36 [8], .code .ret]) (c :: cs)) (World.at u d) := fun a u d h => h.at d
  simp only [ovo36, Code.opsOf, ovr36, Code.piece, ovBody, Try.f62, Option.getD_some, List.size_toArray, List.length_cons, List.length_nil, Nat.reduceAdd, Nat.zero_add, List.range, List.range.loop] at hZ
  refine anyM_take hS hZ (i := 0) (v := .slice oa ol oc) hs rfl rfl (by kernel_rfl) (by kernel_rfl) (by kernel_rfl) (fun u hu => .inl ⟨rfl, fun d => ⟨by simp [go_sem, execOp, Act.eval, hu.co, hu.zo], fun e he => by have hm := mem_listed he; simp [go_sem, execOp, Act.eval, hu.co, hu.zo] at hm; subst hm; exact evT_read _ _⟩⟩) ?_
  walk_nrm
  refine anyM_take hS hZ (i := 1) (v := .bool st) hs rfl rfl (by kernel_rfl) (by kernel_rfl) (by kernel_rfl) (fun u hu => .inl ⟨rfl, fun d => ⟨by simp [go_sem, execOp, Act.eval], fun e he => by have hm := mem_listed he; simp [go_sem, execOp, Act.eval] at hm⟩⟩) ?_
  walk_nrm
  refine anyM_take hS hZ (i := 2) (v := .pointer (some ⟨g.tb, 0, none⟩)) hs rfl rfl (by kernel_rfl) (by kernel_rfl) (by kernel_rfl) (fun u hu => .inl ⟨rfl, fun d => ⟨by simp [go_sem, execOp, Act.eval, hu.ct, hu.zt], fun e he => by have hm := mem_listed he; simp [go_sem, execOp, Act.eval, hu.ct, hu.zt] at hm; subst hm; exact evT_read _ _⟩⟩) ?_
  walk_nrm
  refine anyM_take hS hZ (i := 3) (v := .pointer (some ⟨g.tb, 0, none⟩)) hs rfl rfl (by kernel_rfl) (by kernel_rfl) (by kernel_rfl) (fun u hu => .inl ⟨rfl, fun d => ⟨by simp [go_sem, execOp, Act.eval], fun e he => by have hm := mem_listed he; simp [go_sem, execOp, Act.eval] at hm⟩⟩) ?_
  walk_nrm
  refine anyM_take hS hZ (i := 4) (v := .pointer (some ⟨g.tb, 2, none⟩)) hs rfl rfl (by kernel_rfl) (by kernel_rfl) (by kernel_rfl) (fun u hu => .inl ⟨rfl, fun d => ⟨by simp [go_sem, execOp, Act.eval], fun e he => by have hm := mem_listed he; simp [go_sem, execOp, Act.eval] at hm⟩⟩) ?_
  walk_nrm
  refine anyM_take hS hZ (i := 5) (v := g.bl) hs rfl rfl (by kernel_rfl) (by kernel_rfl) (by kernel_rfl) (fun u hu => .inl ⟨rfl, fun d => ⟨by simp [go_sem, execOp, Act.eval, hu.cb, hu.zb], fun e he => by have hm := mem_listed he; simp [go_sem, execOp, Act.eval, hu.cb, hu.zb] at hm; subst hm; exact evT_read _ _⟩⟩) ?_
  walk_nrm
  refine anyM_all (r := [6]) (by kernel_rfl) (by kernel_rfl) (fun i hi hil => ?_)
  simp only [List.mem_cons, List.not_mem_nil, or_false] at hi
  subst hi
  refine opm_k rfl rfl (fun d K' hK' => ?_)
  have co := (hs.at d).co
  have zo := (hs.at d).zo
  go_simp
  obtain ⟨cc, ee, hh1, hh2⟩ := (hs.at d).hod
  rw [setCell_same hh1 hh2]
  refine hK' _ _ ⟨⟨⟨0, Grew.refl _ _⟩, fun e he => by (have hm := mem_listed he; clear he hK'; simp [go_sem, storedEv, co, zo] at hm; subst hm; exact evT_write _ _ (not_held' rfl))⟩, hs.at d, ?_⟩
  clear hK' K' co zo
  refine anyM_at hS hZ _ _ _ _ ?_ d
  refine anyM_take hS hZ (i := 7) (v := .bool st) hs rfl rfl (by kernel_rfl) (by kernel_rfl) (by kernel_rfl) (fun u hu => .inl ⟨rfl, fun d => ⟨by simp [go_sem, execOp, Act.eval], fun e he => by have hm := mem_listed he; simp [go_sem, execOp, Act.eval] at hm⟩⟩) ?_
  walk_nrm
  refine anyM_end (by kernel_rfl) ?_ _
  (refine oW fun dd K hK => ?_; go_simp; refine qT hK ?_; clear hK K)
  refine ogE ?_
  refine ogX ?_
  refine own_leave (fn := Try.f62) (v := .tuple #[.slice oa ol oc, .bool st, g.bl]) rfl rfl Try.func62 (fun d => ?_) (fun d e he => ?_) h
  · have co := (hs.at d).co
    simp [results, Try.f62, go_sem, co]
  · have co := (hs.at d).co
    have zo := (hs.at d).zo
    simp [results, Try.f62, go_sem, co, zo] at he
    subst he
    exact evT_read _ _
end Go.Proofs.Ytcejbandeikdjaa
