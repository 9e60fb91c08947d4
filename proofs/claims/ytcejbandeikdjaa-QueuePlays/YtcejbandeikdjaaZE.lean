/-
  The law QueuePlays holds of the given program: what queue.Play comes to by any schedule is what the document's reference comes to, for arguments of at most 1048576 items in all (QueuePlaysUptoSaid).
  Part 5 of 6.
-/
import Derived.Test.YtcejbandeikdjaaZD
import Derived.StillTailTactics
import Derived.Deep.RegionLaw
import Derived.Deep.RegionLawGrows
import Derived.Deep.DeepAppendRoom
import Derived.ArgAppend
import Derived.Deep.LoopGhost
set_option linter.unusedSimpArgs false
set_option linter.unusedVariables false
set_option maxRecDepth 100000
set_option maxHeartbeats 2000000
namespace Go.Proofs.Ytcejbandeikdjaa
open Go Go.Conc Go.RowKit Go.Proofs
noncomputable section
variable {w w' : World} {rq cb bb bc : Nat} {q : RQ} {c : RC} {k : Int}
theorem help_keep {r : Nat} {tl T n : Int} (h : r ≠ rq) : (helpW w rq tl T n).heap[r]? = w.heap[r]? := by
 unfold helpW
 split
 ·exact heap_setCell_ne _ _ _ h
 ·rfl
theorem cell_heap {b j : Nat} (hw : w'.heap[b]? = w.heap[b]?) : w'.cell? ⟨b, j, none⟩ = w.cell? ⟨b, j, none⟩ ∧ w'.frozen? ⟨b, j, none⟩ = w.frozen? ⟨b, j, none⟩ := by
 constructor
 ·unfold World.cell?; simp only [hw]
 ·unfold World.frozen?; simp only [hw]
theorem set_heap {a : Addr} {v : Value} {u : World} (h : w.heap = u.heap) : (w.setCell a v).heap = (u.setCell a v).heap := by
 simp only [World.setCell, h]
structure Fc (w : World) (cb : Nat) : Prop where
 c6 : w.cell? ⟨cb, 6, none⟩ = some (.bool false)
 c7 : w.cell? ⟨cb, 7, none⟩ = some (.bool false)
 c8 : w.cell? ⟨cb, 8, none⟩ = some (.int .i64 0)
theorem fc_of (hc : w.heap[cb]? = some (.cells (callC k c false false 0) 48 (0, 0))) : Fc w cb := by
 constructor <;> simp [World.cell?, hc, callC]
set_option maxHeartbeats 1000000 in
theorem put2n (hQ : RefQ w rq bb bc q) (hc : w.heap[cb]? = some (.cells (callC k c false false 0) 48 (0, 0))) (hne : ¬ cb = rq) (hnb : ¬ cb = bb) (hp : c.ph = 2) (hT : c.T < q.B.length) (hl : q.B.length < 100000000) (hn : q.nx c.T = none) :
  Calls Try.prog 49 #[.pointer (some ⟨rq, 0, none⟩), .pointer (some ⟨cb, 0, none⟩)] w fun e w' => e = .returned (.tuple #[]) ∧
   w'.heap = (((w.setCell ⟨cb, 4, none⟩ (.int .i64 (-1))).setCell ⟨cb, 1, none⟩ (.int .i64 4))).heap := by
 have hC := hc
 have hqr := hQ.o
 obtain ⟨q0, q1, q2, c0, c1, c2, c3, c4, c5, zq, zc⟩ := fx_of hQ hc
 obtain ⟨c6, c7, c8⟩ := fc_of hc
 have hne2 : ¬ rq = cb := fun e => hne e.symm
 have hnb2 : ¬ bb = cb := fun e => hnb e.symm
 rw [hp] at c1
 obtain ⟨b1, b0, zb⟩ := hQ.nxt hT
 rw [hn] at b1
 simp only [nxI] at b1
 have zc1 := zc 1
 have zc4 := zc 4
 clear zq zc hQ hc zb hqr hC
 go_enter Try.func49, Try.ntmps49
 go_wp2
 go_region
 all_goals go_wp2
 all_goals go_end0
 all_goals exact ⟨rfl, rfl⟩
set_option maxHeartbeats 1000000 in
theorem put2s (hQ : RefQ w rq bb bc q) (hc : w.heap[cb]? = some (.cells (callC k c false false 0) 48 (0, 0))) (hne : ¬ cb = rq) (hnb : ¬ cb = bb) (hp : c.ph = 2) {n : Nat} (hT : c.T < q.B.length) (hl : q.B.length < 100000000) (hn : q.nx c.T = some n) :
  Calls Try.prog 49 #[.pointer (some ⟨rq, 0, none⟩), .pointer (some ⟨cb, 0, none⟩)] w fun e w' => e = .returned (.tuple #[]) ∧
   w'.heap = ((((w.setCell ⟨cb, 4, none⟩ (.int .i64 n)).setCell ⟨cb, 1, none⟩ (.int .i64 4)).setCell ⟨cb, 1, none⟩ (.int .i64 3))).heap := by
 have hC := hc
 have hqr := hQ.o
 obtain ⟨q0, q1, q2, c0, c1, c2, c3, c4, c5, zq, zc⟩ := fx_of hQ hc
 obtain ⟨c6, c7, c8⟩ := fc_of hc
 have hne2 : ¬ rq = cb := fun e => hne e.symm
 have hnb2 : ¬ bb = cb := fun e => hnb e.symm
 rw [hp] at c1
 obtain ⟨b1, b0, zb⟩ := hQ.nxt hT
 rw [hn] at b1
 simp only [nxI] at b1
 have zc1 := zc 1
 have zc4 := zc 4
 clear zq zc hQ hc zb hqr hC
 have hn0 : (0 : Int) ≤ n := Int.natCast_nonneg n
 go_enter Try.func49, Try.ntmps49
 go_wp2
 go_region
 all_goals go_wp2
 all_goals go_end0
 all_goals exact ⟨rfl, rfl⟩
set_option maxHeartbeats 1000000 in
theorem put3 (hQ : RefQ w rq bb bc q) (hc : w.heap[cb]? = some (.cells (callC k c false false 0) 48 (0, 0))) (hne : ¬ cb = rq) (hnb : ¬ cb = bb) (hp : c.ph = 3) {n : Nat} (hN : c.N = some n) :
  Calls Try.prog 49 #[.pointer (some ⟨rq, 0, none⟩), .pointer (some ⟨cb, 0, none⟩)] w fun e w' => e = .returned (.tuple #[]) ∧
   w'.heap = (((helpW w rq q.tl c.T n).setCell ⟨cb, 1, none⟩ (.int .i64 1))).heap := by
 have hC := hc
 have hqr := hQ.o
 obtain ⟨q0, q1, q2, c0, c1, c2, c3, c4, c5, zq, zc⟩ := fx_of hQ hc
 obtain ⟨c6, c7, c8⟩ := fc_of hc
 have hne2 : ¬ rq = cb := fun e => hne e.symm
 have hnb2 : ¬ bb = cb := fun e => hnb e.symm
 rw [hp] at c1
 rw [hN] at c4
 simp only [nxI] at c4
 have zc1 := zc 1
 go_enter Try.func49, Try.ntmps49
 go_wp2_with (fail)
 go_at_call 64
 refine (help_calls (n := n) hqr hC).mono ?_
 rintro e w1 ⟨rfl, hw⟩
 have hk : w1.heap[cb]? = w.heap[cb]? := by rw [hw]; exact help_keep hne
 have d1 := (cell_heap (j := 1) hk).1.trans c1
 have y1 := (cell_heap (j := 1) hk).2.trans zc1
 go_wp2
 go_end0
 exact ⟨rfl, set_heap hw⟩
set_option maxHeartbeats 1000000 in
theorem put4n (hQ : RefQ w rq bb bc q) (hc : w.heap[cb]? = some (.cells (callC k c false false 0) 48 (0, 0))) (hne : ¬ cb = rq) (hnb : ¬ cb = bb) (hp : c.ph = 4) (hT : c.T < q.B.length) (hl : q.B.length < 100000000) (hn : q.nx c.T = none) :
  Calls Try.prog 49 #[.pointer (some ⟨rq, 0, none⟩), .pointer (some ⟨cb, 0, none⟩)] w fun e w' => e = .returned (.tuple #[]) ∧
   w'.heap = ((((w.setCell ⟨cb, 1, none⟩ (.int .i64 1)).setCell ⟨bb, c.T * 2 + 1, none⟩ (.int .i64 c.new)).setCell ⟨cb, 1, none⟩ (.int .i64 5))).heap := by
 have hC := hc
 have hqr := hQ.o
 obtain ⟨q0, q1, q2, c0, c1, c2, c3, c4, c5, zq, zc⟩ := fx_of hQ hc
 obtain ⟨c6, c7, c8⟩ := fc_of hc
 have hne2 : ¬ rq = cb := fun e => hne e.symm
 have hnb2 : ¬ bb = cb := fun e => hnb e.symm
 rw [hp] at c1
 obtain ⟨b1, b0, zb⟩ := hQ.nxt hT
 rw [hn] at b1
 simp only [nxI] at b1
 have zb1 := zb (c.T * 2 + 1)
 have zc1 := zc 1
 clear zq zc hQ hc zb hqr hC
 go_enter Try.func49, Try.ntmps49
 go_wp2
 go_quiet (fail)
 go_wp2
 go_region
 all_goals go_wp2
 all_goals go_end0
 all_goals exact ⟨rfl, rfl⟩
set_option maxHeartbeats 1000000 in
theorem put4s (hQ : RefQ w rq bb bc q) (hc : w.heap[cb]? = some (.cells (callC k c false false 0) 48 (0, 0))) (hne : ¬ cb = rq) (hnb : ¬ cb = bb) (hp : c.ph = 4) {n : Nat} (hT : c.T < q.B.length) (hl : q.B.length < 100000000) (hn : q.nx c.T = some n) :
  Calls Try.prog 49 #[.pointer (some ⟨rq, 0, none⟩), .pointer (some ⟨cb, 0, none⟩)] w fun e w' => e = .returned (.tuple #[]) ∧
   w'.heap = ((w.setCell ⟨cb, 1, none⟩ (.int .i64 1))).heap := by
 have hC := hc
 have hqr := hQ.o
 obtain ⟨q0, q1, q2, c0, c1, c2, c3, c4, c5, zq, zc⟩ := fx_of hQ hc
 obtain ⟨c6, c7, c8⟩ := fc_of hc
 have hne2 : ¬ rq = cb := fun e => hne e.symm
 have hnb2 : ¬ bb = cb := fun e => hnb e.symm
 rw [hp] at c1
 obtain ⟨b1, b0, zb⟩ := hQ.nxt hT
 rw [hn] at b1
 simp only [nxI] at b1
 have zc1 := zc 1
 clear zq zc hQ hc zb hqr hC
 have hn0 : ¬ (n : Int) < 0 := by omega
 go_enter Try.func49, Try.ntmps49
 go_wp2
 go_quiet (fail)
 go_wp2
 all_goals go_end0
 all_goals exact ⟨rfl, rfl⟩
set_option maxHeartbeats 1000000 in
theorem put5 (hQ : RefQ w rq bb bc q) (hc : w.heap[cb]? = some (.cells (callC k c false false 0) 48 (0, 0))) (hne : ¬ cb = rq) (hnb : ¬ cb = bb) (hp : c.ph = 5) :
  Calls Try.prog 49 #[.pointer (some ⟨rq, 0, none⟩), .pointer (some ⟨cb, 0, none⟩)] w fun e w' => e = .returned (.tuple #[]) ∧
   w'.heap = (((((helpW w rq q.tl c.T c.new).setCell ⟨cb, 6, none⟩ (.bool true)).setCell ⟨cb, 7, none⟩ (.bool true)).setCell ⟨cb, 8, none⟩ (.int .i64 0))).heap := by
 have hC := hc
 have hqr := hQ.o
 obtain ⟨q0, q1, q2, c0, c1, c2, c3, c4, c5, zq, zc⟩ := fx_of hQ hc
 obtain ⟨c6, c7, c8⟩ := fc_of hc
 have hne2 : ¬ rq = cb := fun e => hne e.symm
 have hnb2 : ¬ bb = cb := fun e => hnb e.symm
 rw [hp] at c1
 have zc6 := zc 6
 have zc7 := zc 7
 have zc8 := zc 8
 go_enter Try.func49, Try.ntmps49
 go_wp2_with (fail)
 go_at_call 64
 refine (help_calls (n := c.new) hqr hC).mono ?_
 rintro e w1 ⟨rfl, hw⟩
 have hk : w1.heap[cb]? = w.heap[cb]? := by rw [hw]; exact help_keep hne
 have d6 := (cell_heap (j := 6) hk).1.trans c6
 have y6 := (cell_heap (j := 6) hk).2.trans zc6
 have d7 := (cell_heap (j := 7) hk).1.trans c7
 have y7 := (cell_heap (j := 7) hk).2.trans zc7
 have d8 := (cell_heap (j := 8) hk).1.trans c8
 have y8 := (cell_heap (j := 8) hk).2.trans zc8
 go_wp2
 go_end0
 go_wp2
 go_end0
 exact ⟨rfl, set_heap (set_heap (set_heap hw))⟩
end
noncomputable section
variable {w w' : World} {rq cb bb bc : Nat} {q : RQ} {c : RC} {k : Int}
set_option maxHeartbeats 1000000 in
theorem tak1 (hQ : RefQ w rq bb bc q) (hc : w.heap[cb]? = some (.cells (callC k c false false 0) 48 (0, 0))) (hne : ¬ cb = rq) (hnb : ¬ cb = bb) (hp : c.ph = 1) :
  Calls Try.prog 50 #[.pointer (some ⟨rq, 0, none⟩), .pointer (some ⟨cb, 0, none⟩)] w fun e w' => e = .returned (.tuple #[]) ∧
   w'.heap = (((w.setCell ⟨cb, 2, none⟩ (.int .i64 q.hd)).setCell ⟨cb, 1, none⟩ (.int .i64 2))).heap := by
 have hC := hc
 have hqr := hQ.o
 obtain ⟨q0, q1, q2, c0, c1, c2, c3, c4, c5, zq, zc⟩ := fx_of hQ hc
 obtain ⟨c6, c7, c8⟩ := fc_of hc
 have hne2 : ¬ rq = cb := fun e => hne e.symm
 have hnb2 : ¬ bb = cb := fun e => hnb e.symm
 rw [hp] at c1
 have zc1 := zc 1
 have zc2 := zc 2
 clear zq zc hQ hc hqr hC
 go_enter Try.func50, Try.ntmps50
 go_wp2
 all_goals go_end0
 all_goals exact ⟨rfl, rfl⟩
set_option maxHeartbeats 1000000 in
theorem tak2 (hQ : RefQ w rq bb bc q) (hc : w.heap[cb]? = some (.cells (callC k c false false 0) 48 (0, 0))) (hne : ¬ cb = rq) (hnb : ¬ cb = bb) (hp : c.ph = 2) :
  Calls Try.prog 50 #[.pointer (some ⟨rq, 0, none⟩), .pointer (some ⟨cb, 0, none⟩)] w fun e w' => e = .returned (.tuple #[]) ∧
   w'.heap = (((w.setCell ⟨cb, 3, none⟩ (.int .i64 q.tl)).setCell ⟨cb, 1, none⟩ (.int .i64 3))).heap := by
 have hC := hc
 have hqr := hQ.o
 obtain ⟨q0, q1, q2, c0, c1, c2, c3, c4, c5, zq, zc⟩ := fx_of hQ hc
 obtain ⟨c6, c7, c8⟩ := fc_of hc
 have hne2 : ¬ rq = cb := fun e => hne e.symm
 have hnb2 : ¬ bb = cb := fun e => hnb e.symm
 rw [hp] at c1
 have zc1 := zc 1
 have zc3 := zc 3
 clear zq zc hQ hc hqr hC
 go_enter Try.func50, Try.ntmps50
 go_wp2
 all_goals go_end0
 all_goals exact ⟨rfl, rfl⟩
set_option maxHeartbeats 1000000 in
theorem tak3ne (hQ : RefQ w rq bb bc q) (hc : w.heap[cb]? = some (.cells (callC k c false false 0) 48 (0, 0))) (hne : ¬ cb = rq) (hnb : ¬ cb = bb) (hp : c.ph = 3) (hH : c.H < q.B.length) (hl : q.B.length < 100000000) (hn : q.nx c.H = none) (he : c.H = c.T) :
  Calls Try.prog 50 #[.pointer (some ⟨rq, 0, none⟩), .pointer (some ⟨cb, 0, none⟩)] w fun e w' => e = .returned (.tuple #[]) ∧
   w'.heap = (((((((w.setCell ⟨cb, 4, none⟩ (.int .i64 (-1))).setCell ⟨cb, 1, none⟩ (.int .i64 5)).setCell ⟨cb, 1, none⟩ (.int .i64 4)).setCell ⟨cb, 6, none⟩ (.bool true)).setCell ⟨cb, 7, none⟩ (.bool false)).setCell ⟨cb, 8, none⟩ (.int .i64 0))).heap := by
 have hC := hc
 have hqr := hQ.o
 obtain ⟨q0, q1, q2, c0, c1, c2, c3, c4, c5, zq, zc⟩ := fx_of hQ hc
 obtain ⟨c6, c7, c8⟩ := fc_of hc
 have hne2 : ¬ rq = cb := fun e => hne e.symm
 have hnb2 : ¬ bb = cb := fun e => hnb e.symm
 rw [hp] at c1
 rw [he] at hH c2 hn
 obtain ⟨b1, b0, zb⟩ := hQ.nxt hH
 rw [hn] at b1
 simp only [nxI] at b1
 have zc1 := zc 1
 have zc4 := zc 4
 have zc6 := zc 6
 have zc7 := zc 7
 have zc8 := zc 8
 clear zq zc hQ hc zb hqr hC
 go_enter Try.func50, Try.ntmps50
 go_wp2
 go_region
 all_goals go_wp2
 all_goals go_quiet (fail)
 all_goals go_wp2
 all_goals go_end0
 all_goals go_wp2
 all_goals go_end0
 all_goals exact ⟨rfl, rfl⟩
set_option maxHeartbeats 1000000 in
theorem tak3se (hQ : RefQ w rq bb bc q) (hc : w.heap[cb]? = some (.cells (callC k c false false 0) 48 (0, 0))) (hne : ¬ cb = rq) (hnb : ¬ cb = bb) (hp : c.ph = 3) (hH : c.H < q.B.length) (hl : q.B.length < 100000000) {n : Nat} (hn : q.nx c.H = some n) (he : c.H = c.T) :
  Calls Try.prog 50 #[.pointer (some ⟨rq, 0, none⟩), .pointer (some ⟨cb, 0, none⟩)] w fun e w' => e = .returned (.tuple #[]) ∧
   w'.heap = ((((w.setCell ⟨cb, 4, none⟩ (.int .i64 n)).setCell ⟨cb, 1, none⟩ (.int .i64 5)).setCell ⟨cb, 1, none⟩ (.int .i64 4))).heap := by
 have hC := hc
 have hqr := hQ.o
 obtain ⟨q0, q1, q2, c0, c1, c2, c3, c4, c5, zq, zc⟩ := fx_of hQ hc
 obtain ⟨c6, c7, c8⟩ := fc_of hc
 have hne2 : ¬ rq = cb := fun e => hne e.symm
 have hnb2 : ¬ bb = cb := fun e => hnb e.symm
 rw [hp] at c1
 rw [he] at hH c2 hn
 obtain ⟨b1, b0, zb⟩ := hQ.nxt hH
 rw [hn] at b1
 simp only [nxI] at b1
 have zc1 := zc 1
 have zc4 := zc 4
 clear zq zc hQ hc zb hqr hC
 have hn0 : ¬ (n : Int) < 0 := by omega
 go_enter Try.func50, Try.ntmps50
 go_wp2
 go_region
 all_goals go_wp2
 all_goals go_quiet (fail)
 all_goals go_wp2
 all_goals go_end0
 all_goals exact ⟨rfl, rfl⟩
set_option maxHeartbeats 1000000 in
theorem tak3nd (hQ : RefQ w rq bb bc q) (hc : w.heap[cb]? = some (.cells (callC k c false false 0) 48 (0, 0))) (hne : ¬ cb = rq) (hnb : ¬ cb = bb) (hp : c.ph = 3) (hH : c.H < q.B.length) (hl : q.B.length < 100000000) (hn : q.nx c.H = none) (he : ¬ c.H = c.T) :
  Calls Try.prog 50 #[.pointer (some ⟨rq, 0, none⟩), .pointer (some ⟨cb, 0, none⟩)] w fun e w' => e = .returned (.tuple #[]) ∧
   w'.heap = ((((((w.setCell ⟨cb, 4, none⟩ (.int .i64 (-1))).setCell ⟨cb, 1, none⟩ (.int .i64 5)).setCell ⟨cb, 6, none⟩ (.bool true)).setCell ⟨cb, 7, none⟩ (.bool false)).setCell ⟨cb, 8, none⟩ (.int .i64 0))).heap := by
 have hC := hc
 have hqr := hQ.o
 obtain ⟨q0, q1, q2, c0, c1, c2, c3, c4, c5, zq, zc⟩ := fx_of hQ hc
 obtain ⟨c6, c7, c8⟩ := fc_of hc
 have hne2 : ¬ rq = cb := fun e => hne e.symm
 have hnb2 : ¬ bb = cb := fun e => hnb e.symm
 rw [hp] at c1
 obtain ⟨b1, b0, zb⟩ := hQ.nxt hH
 rw [hn] at b1
 simp only [nxI] at b1
 have zc1 := zc 1
 have zc4 := zc 4
 have zc6 := zc 6
 have zc7 := zc 7
 have zc8 := zc 8
 clear zq zc hQ hc zb hqr hC
 have hh2 : ¬ (c.H : Int) = c.T := by omega
 go_enter Try.func50, Try.ntmps50
 go_wp2
 go_region
 all_goals go_wp2
 all_goals go_quiet (fail)
 all_goals go_wp2
 all_goals go_end0
 all_goals go_wp2
 all_goals go_end0
 all_goals exact ⟨rfl, rfl⟩
set_option maxHeartbeats 1000000 in
theorem tak3sd (hQ : RefQ w rq bb bc q) (hc : w.heap[cb]? = some (.cells (callC k c false false 0) 48 (0, 0))) (hne : ¬ cb = rq) (hnb : ¬ cb = bb) (hp : c.ph = 3) (hH : c.H < q.B.length) (hl : q.B.length < 100000000) {n : Nat} (hn : q.nx c.H = some n) (he : ¬ c.H = c.T) :
  Calls Try.prog 50 #[.pointer (some ⟨rq, 0, none⟩), .pointer (some ⟨cb, 0, none⟩)] w fun e w' => e = .returned (.tuple #[]) ∧
   w'.heap = (((w.setCell ⟨cb, 4, none⟩ (.int .i64 n)).setCell ⟨cb, 1, none⟩ (.int .i64 5))).heap := by
 have hC := hc
 have hqr := hQ.o
 obtain ⟨q0, q1, q2, c0, c1, c2, c3, c4, c5, zq, zc⟩ := fx_of hQ hc
 obtain ⟨c6, c7, c8⟩ := fc_of hc
 have hne2 : ¬ rq = cb := fun e => hne e.symm
 have hnb2 : ¬ bb = cb := fun e => hnb e.symm
 rw [hp] at c1
 obtain ⟨b1, b0, zb⟩ := hQ.nxt hH
 rw [hn] at b1
 simp only [nxI] at b1
 have zc1 := zc 1
 have zc4 := zc 4
 clear zq zc hQ hc zb hqr hC
 have hn0 : ¬ (n : Int) < 0 := by omega
 have hh2 : ¬ (c.H : Int) = c.T := by omega
 go_enter Try.func50, Try.ntmps50
 go_wp2
 go_region
 all_goals go_wp2
 all_goals go_quiet (fail)
 all_goals go_wp2
 all_goals go_end0
 all_goals exact ⟨rfl, rfl⟩
set_option maxHeartbeats 1000000 in
theorem tak4 (hQ : RefQ w rq bb bc q) (hc : w.heap[cb]? = some (.cells (callC k c false false 0) 48 (0, 0))) (hne : ¬ cb = rq) (hnb : ¬ cb = bb) (hp : c.ph = 4) {n : Nat} (hN : c.N = some n) :
  Calls Try.prog 50 #[.pointer (some ⟨rq, 0, none⟩), .pointer (some ⟨cb, 0, none⟩)] w fun e w' => e = .returned (.tuple #[]) ∧
   w'.heap = (((helpW w rq q.tl c.T n).setCell ⟨cb, 1, none⟩ (.int .i64 1))).heap := by
 have hC := hc
 have hqr := hQ.o
 obtain ⟨q0, q1, q2, c0, c1, c2, c3, c4, c5, zq, zc⟩ := fx_of hQ hc
 obtain ⟨c6, c7, c8⟩ := fc_of hc
 have hne2 : ¬ rq = cb := fun e => hne e.symm
 have hnb2 : ¬ bb = cb := fun e => hnb e.symm
 rw [hp] at c1
 rw [hN] at c4
 simp only [nxI] at c4
 have zc1 := zc 1
 go_enter Try.func50, Try.ntmps50
 go_wp2_with (fail)
 go_at_call 64
 refine (help_calls (n := n) hqr hC).mono ?_
 rintro e w1 ⟨rfl, hw⟩
 have hk : w1.heap[cb]? = w.heap[cb]? := by rw [hw]; exact help_keep hne
 have d1 := (cell_heap (j := 1) hk).1.trans c1
 have y1 := (cell_heap (j := 1) hk).2.trans zc1
 go_wp2
 go_end0
 exact ⟨rfl, set_heap hw⟩
set_option maxHeartbeats 1000000 in
theorem tak5n (hQ : RefQ w rq bb bc q) (hc : w.heap[cb]? = some (.cells (callC k c false false 0) 48 (0, 0))) (hne : ¬ cb = rq) (hnb : ¬ cb = bb) (hp : c.ph = 5) (hh : ¬ q.hd = c.H) :
  Calls Try.prog 50 #[.pointer (some ⟨rq, 0, none⟩), .pointer (some ⟨cb, 0, none⟩)] w fun e w' => e = .returned (.tuple #[]) ∧
   w'.heap = ((w.setCell ⟨cb, 1, none⟩ (.int .i64 1))).heap := by
 have hC := hc
 have hqr := hQ.o
 obtain ⟨q0, q1, q2, c0, c1, c2, c3, c4, c5, zq, zc⟩ := fx_of hQ hc
 obtain ⟨c6, c7, c8⟩ := fc_of hc
 have hne2 : ¬ rq = cb := fun e => hne e.symm
 have hnb2 : ¬ bb = cb := fun e => hnb e.symm
 rw [hp] at c1
 have zc1 := zc 1
 clear zq zc hQ hc hqr hC
 have hh2 : ¬ (q.hd : Int) = c.H := by omega
 go_enter Try.func50, Try.ntmps50
 go_wp2
 go_quiet (fail)
 go_wp2
 all_goals go_end0
 all_goals exact ⟨rfl, rfl⟩
set_option maxHeartbeats 1000000 in
theorem tak5y (hQ : RefQ w rq bb bc q) (hc : w.heap[cb]? = some (.cells (callC k c false false 0) 48 (0, 0))) (hne : ¬ cb = rq) (hnb : ¬ cb = bb) (hp : c.ph = 5) {n : Nat} (hN : c.N = some n) (hNl : n < q.B.length) (hl : q.B.length < 100000000) (hh : q.hd = c.H) (hrb : ¬ bb = rq) :
  Calls Try.prog 50 #[.pointer (some ⟨rq, 0, none⟩), .pointer (some ⟨cb, 0, none⟩)] w fun e w' => e = .returned (.tuple #[]) ∧
   w'.heap = ((((((w.setCell ⟨cb, 1, none⟩ (.int .i64 1)).setCell ⟨rq, 1, none⟩ (.int .i64 n)).setCell ⟨cb, 6, none⟩ (.bool true)).setCell ⟨cb, 7, none⟩ (.bool true)).setCell ⟨cb, 8, none⟩ (.int .i64 (q.vl n)))).heap := by
 have hC := hc
 have hqr := hQ.o
 obtain ⟨q0, q1, q2, c0, c1, c2, c3, c4, c5, zq, zc⟩ := fx_of hQ hc
 obtain ⟨c6, c7, c8⟩ := fc_of hc
 have hne2 : ¬ rq = cb := fun e => hne e.symm
 have hnb2 : ¬ bb = cb := fun e => hnb e.symm
 rw [hp] at c1
 rw [hN] at c4
 simp only [nxI] at c4
 obtain ⟨b1, b0, zb⟩ := hQ.nxt hNl
 have zc1 := zc 1
 have zc6 := zc 6
 have zc7 := zc 7
 have zc8 := zc 8
 have zq1 := zq 1
 clear zq zc hQ hc zb hqr hC
 have hh2 : (q.hd : Int) = c.H := by omega
 have hrb2 : ¬ rq = bb := fun e => hrb e.symm
 go_enter Try.func50, Try.ntmps50
 go_wp2
 go_quiet (fail)
 go_wp2
 rename_i nq
 generalize hW : (((w.setCell ⟨cb, 1, none⟩ (.int .i64 1)).drewN nq).setCell ⟨rq, 1, none⟩ (.int .i64 n)) = W
 have f1 : W.cell? ⟨rq, 0, none⟩ = some (.slice (some ⟨bb, 0, none⟩) q.B.length bc) := by rw [← hW]; simpa [go_sem, hne, hne2] using q0
 have f2 : W.cell? ⟨cb, 4, none⟩ = some (.int .i64 n) := by rw [← hW]; simpa [go_sem, hne, hne2] using c4
 have f3 : W.cell? ⟨bb, n * 2, none⟩ = some (.int .i64 (q.vl n)) := by rw [← hW]; simpa [go_sem, hne, hne2, hrb, hrb2, hnb, hnb2] using b0
 have f6 : W.cell? ⟨cb, 6, none⟩ = some (.bool false) := by rw [← hW]; simpa [go_sem, hne, hne2] using c6
 have f7 : W.cell? ⟨cb, 7, none⟩ = some (.bool false) := by rw [← hW]; simpa [go_sem, hne, hne2] using c7
 have f8 : W.cell? ⟨cb, 8, none⟩ = some (.int .i64 0) := by rw [← hW]; simpa [go_sem, hne, hne2] using c8
 have g6 : W.frozen? ⟨cb, 6, none⟩ = false := by rw [← hW]; simpa [go_sem] using zc6
 have g7 : W.frozen? ⟨cb, 7, none⟩ = false := by rw [← hW]; simpa [go_sem] using zc7
 have g8 : W.frozen? ⟨cb, 8, none⟩ = false := by rw [← hW]; simpa [go_sem] using zc8
 go_still_tail 12, (by kernel_rfl)
 change wpList _ _ _ _ _ W.drew
 go_wp2
 go_end0
 go_wp2
 go_end0
 rw [← hW]
 exact ⟨rfl, rfl⟩
end
noncomputable section
variable {w w' : World} {rq cb bb bc : Nat} {q : RQ} {c : RC} {k : Int}
theorem RefQ.heap (h : RefQ w rq bb bc q) (e : w'.heap = w.heap) : RefQ w' rq bb bc q := ⟨by rw [e]; exact h.o, by rw [e]; exact h.b⟩
theorem RefQ.same (h : RefQ w rq bb bc q) (e1 : w'.heap[rq]? = w.heap[rq]?) (e2 : w'.heap[bb]? = w.heap[bb]?) : RefQ w' rq bb bc q := ⟨by rw [e1]; exact h.o, by rw [e2]; exact h.b⟩
theorem RefQ.ne (h : RefQ w rq bb bc q) : bb ≠ rq := by
 rintro rfl
 obtain ⟨cur, h1, _⟩ := h.b
 rw [h.o] at h1
 simp only [Option.some.injEq, Obj.cells.injEq] at h1
 exact absurd h1.2.1 (by decide)
theorem RefQ.other (h : RefQ w rq bb bc q) {r j : Nat} {v : Value} (h1 : r ≠ rq) (h2 : r ≠ bb) : RefQ (w.setCell ⟨r, j, none⟩ v) rq bb bc q :=
 h.same (heap_setCell_ne _ _ _ h1.symm) (heap_setCell_ne _ _ _ h2.symm)
theorem RefQ.setTl (h : RefQ w rq bb bc q) (n : Nat) : RefQ (w.setCell ⟨rq, 2, none⟩ (.int .i64 n)) rq bb bc { q with tl := n } :=
 ⟨by rw [heap_set_eq h.o]; rfl, by rw [heap_setCell_ne _ _ _ h.ne]; exact h.b⟩
theorem RefQ.setHd (h : RefQ w rq bb bc q) (n : Nat) : RefQ (w.setCell ⟨rq, 1, none⟩ (.int .i64 n)) rq bb bc { q with hd := n } :=
 ⟨by rw [heap_set_eq h.o]; rfl, by rw [heap_setCell_ne _ _ _ h.ne]; exact h.b⟩
theorem RefQ.setNx (h : RefQ w rq bb bc q) {T : Nat} (hT : T < q.B.length) (n : Nat) : RefQ (w.setCell ⟨bb, T * 2 + 1, none⟩ (.int .i64 n)) rq bb bc (q.link T n) := by
 obtain ⟨cur, h1, h2, h3, h4, h5⟩ := h.b
 have hl : (q.link T n).B.length = q.B.length := by simp [RQ.link]
 refine ⟨?_, ⟨_, heap_set_eq h1, by simpa using h2, by rw [hl]; exact h3, h4, fun k x hx => ?_⟩⟩
 ·rw [heap_setCell_ne _ _ _ (Ne.symm h.ne), hl]
  exact h.o
 ·simp only [RQ.link, List.getElem?_modify] at hx
  obtain ⟨y, hy, rfl⟩ := Option.map_eq_some_iff.1 hx
  obtain ⟨e1, e2⟩ := h5 k y hy
  by_cases e : T = k
  ·subst e
   rw [if_pos rfl]
   have hlt : T * 2 + 1 < cur.size := by have := (List.getElem?_eq_some_iff.1 hy).1; omega
   refine ⟨?_, ?_⟩
   ·rw [Array.getElem?_setIfInBounds_ne (by omega)]; exact e1
   ·rw [Array.getElem?_setIfInBounds_self_of_lt hlt]; rfl
  ·rw [if_neg e]
   refine ⟨?_, ?_⟩
   ·rw [Array.getElem?_setIfInBounds_ne (by omega)]; exact e1
   ·rw [Array.getElem?_setIfInBounds_ne (by omega)]; exact e2
theorem RefQ.help (h : RefQ w rq bb bc q) (T n : Nat) : RefQ (helpW w rq q.tl T n) rq bb bc (q.help T n) := by
 unfold helpW RQ.help
 by_cases e : q.tl = T
 ·rw [if_pos (by omega), if_pos e]
  exact h.setTl n
 ·rw [if_neg (by omega), if_neg e]
  exact h
def StepOut (w : World) (rq cb bb bc : Nat) (w' : World) (r : RQ × RR) : Prop :=
 RefQ w' rq bb bc r.1 ∧ (match r.2 with
  | .inl c => w'.heap[cb]? = some (.cells (callC c.kd c false false 0) 48 (0, 0))
  | .inr a => ∃ (k : Int) (c : RC), w'.heap[cb]? = some (.cells (callC k c true a.1 a.2) 48 (0, 0))) ∧
 w'.heap.size = w.heap.size ∧ ∀ r, r ≠ rq → r ≠ cb → r ≠ bb → w'.heap[r]? = w.heap[r]?
theorem help_size {tl T n : Int} : (helpW w rq tl T n).heap.size = w.heap.size := by
 unfold helpW; split <;> simp
structure PhC (c : RC) : Prop where
 kd : c.kd = 1 ∨ c.kd = 2 ∨ c.kd = 3
 lo : 1 ≤ c.ph
 hi : c.ph ≤ 5
 e : c.kd = 3 → c.ph ≤ 2
 n1 : c.kd = 1 → c.ph = 3 → ∃ n, c.N = some n
 n2 : c.kd = 2 → 4 ≤ c.ph → ∃ n, c.N = some n
theorem step_put {U : World} (hc : w.heap[cb]? = some (.cells (callC 1 c false false 0) 48 (0, 0))) (H : Calls Try.prog 49 #[.pointer (some ⟨rq, 0, none⟩), .pointer (some ⟨cb, 0, none⟩)] w fun e w' => e = .returned (.tuple #[]) ∧ w'.heap = U.heap) :
  Calls Try.prog 20 #[.pointer (some ⟨rq, 0, none⟩), .pointer (some ⟨cb, 0, none⟩)] w fun e w' => e = .returned (.tuple #[]) ∧ w'.heap = U.heap := by
 have c0 : w.cell? ⟨cb, 0, none⟩ = some (.int .i64 1) := by simp [World.cell?, hc, callC]
 go_enter Try.func20, Try.ntmps20
 go_wp2_with (fail)
 go_at_call 49
 refine H.mono ?_
 rintro e w1 ⟨rfl, hw⟩
 go_wp2
 go_end0
 exact ⟨rfl, hw⟩
theorem step_take {U : World} (hc : w.heap[cb]? = some (.cells (callC 2 c false false 0) 48 (0, 0))) (H : Calls Try.prog 50 #[.pointer (some ⟨rq, 0, none⟩), .pointer (some ⟨cb, 0, none⟩)] w fun e w' => e = .returned (.tuple #[]) ∧ w'.heap = U.heap) :
  Calls Try.prog 20 #[.pointer (some ⟨rq, 0, none⟩), .pointer (some ⟨cb, 0, none⟩)] w fun e w' => e = .returned (.tuple #[]) ∧ w'.heap = U.heap := by
 have c0 : w.cell? ⟨cb, 0, none⟩ = some (.int .i64 2) := by simp [World.cell?, hc, callC]
 go_enter Try.func20, Try.ntmps20
 go_wp2_with (fail)
 go_at_call 50
 refine H.mono ?_
 rintro e w1 ⟨rfl, hw⟩
 go_wp2
 go_end0
 exact ⟨rfl, hw⟩
theorem emp1 (hQ : RefQ w rq bb bc q) (hc : w.heap[cb]? = some (.cells (callC 3 c false false 0) 48 (0, 0))) (hne : ¬ cb = rq) (hp : c.ph = 1) :
  Calls Try.prog 20 #[.pointer (some ⟨rq, 0, none⟩), .pointer (some ⟨cb, 0, none⟩)] w fun e w' => e = .returned (.tuple #[]) ∧ w'.heap = ((w.setCell ⟨cb, 2, none⟩ (.int .i64 q.hd)).setCell ⟨cb, 1, none⟩ (.int .i64 2)).heap := by
 obtain ⟨q0, q1, q2, c0, c1, c2, c3, c4, c5, zq, zc⟩ := fx_of hQ hc
 have hne2 : ¬ rq = cb := fun e => hne e.symm
 rw [hp] at c1
 have zc1 := zc 1
 have zc2 := zc 2
 clear zq zc hQ hc
 go_enter Try.func20, Try.ntmps20
 go_wp2
 go_end0
 exact ⟨rfl, rfl⟩
theorem emp2n (hQ : RefQ w rq bb bc q) (hc : w.heap[cb]? = some (.cells (callC 3 c false false 0) 48 (0, 0))) (hne : ¬ cb = rq) (hnb : ¬ cb = bb) (hp : c.ph = 2) (hH : c.H < q.B.length) (hl : q.B.length < 100000000) (hn : q.nx c.H = none) :
  Calls Try.prog 20 #[.pointer (some ⟨rq, 0, none⟩), .pointer (some ⟨cb, 0, none⟩)] w fun e w' => e = .returned (.tuple #[]) ∧ w'.heap = (((w.setCell ⟨cb, 6, none⟩ (.bool true)).setCell ⟨cb, 7, none⟩ (.bool true)).setCell ⟨cb, 8, none⟩ (.int .i64 1)).heap := by
 obtain ⟨q0, q1, q2, c0, c1, c2, c3, c4, c5, zq, zc⟩ := fx_of hQ hc
 obtain ⟨c6, c7, c8⟩ := fc_of hc
 obtain ⟨b1, _, zb⟩ := hQ.nxt hH
 rw [hn] at b1
 simp only [nxI] at b1
 rw [hp] at c1
 have zc6 := zc 6
 have zc7 := zc 7
 have zc8 := zc 8
 clear zq zc hQ hc zb
 go_enter Try.func20, Try.ntmps20
 go_wp2
 go_quiet (fail)
 go_wp2
 go_end0
 go_wp2
 go_end0
 exact ⟨rfl, rfl⟩
theorem emp2s {n : Nat} (hQ : RefQ w rq bb bc q) (hc : w.heap[cb]? = some (.cells (callC 3 c false false 0) 48 (0, 0))) (hne : ¬ cb = rq) (hnb : ¬ cb = bb) (hp : c.ph = 2) (hH : c.H < q.B.length) (hl : q.B.length < 100000000) (hn : q.nx c.H = some n) :
  Calls Try.prog 20 #[.pointer (some ⟨rq, 0, none⟩), .pointer (some ⟨cb, 0, none⟩)] w fun e w' => e = .returned (.tuple #[]) ∧ w'.heap = (((w.setCell ⟨cb, 6, none⟩ (.bool true)).setCell ⟨cb, 7, none⟩ (.bool true)).setCell ⟨cb, 8, none⟩ (.int .i64 0)).heap := by
 obtain ⟨q0, q1, q2, c0, c1, c2, c3, c4, c5, zq, zc⟩ := fx_of hQ hc
 obtain ⟨c6, c7, c8⟩ := fc_of hc
 obtain ⟨b1, _, zb⟩ := hQ.nxt hH
 rw [hn] at b1
 simp only [nxI] at b1
 rw [hp] at c1
 have zc6 := zc 6
 have zc7 := zc 7
 have zc8 := zc 8
 clear zq zc hQ hc zb
 have hn0 : ¬ (n : Int) < 0 := by omega
 go_enter Try.func20, Try.ntmps20
 go_wp2
 go_quiet (fail)
 go_wp2
 go_end0
 go_wp2
 go_end0
 exact ⟨rfl, rfl⟩
end
noncomputable section
variable {w w' U : World} {rq cb bb bc : Nat} {q : RQ} {c : RC} {k : Int} {a : Array Value}
structure Mid (w : World) (rq cb bb bc : Nat) (U : World) (q : RQ) (a : Array Value) : Prop where
 q : RefQ U rq bb bc q
 c : U.heap[cb]? = some (.cells a 48 (0, 0))
 s : U.heap.size = w.heap.size
 o : ∀ r, r ≠ rq → r ≠ cb → r ≠ bb → U.heap[r]? = w.heap[r]?
theorem Mid.st (h : Mid w rq cb bb bc U q a) (h1 : cb ≠ rq) (h2 : cb ≠ bb) (j : Nat) (v : Value) : Mid w rq cb bb bc (U.setCell ⟨cb, j, none⟩ v) q (a.setIfInBounds j v) :=
 ⟨h.q.other h1 h2, heap_set_eq h.c, by rw [World.size_setCell]; exact h.s, fun r e1 e2 e3 => (heap_setCell_ne _ _ _ e2).trans (h.o r e1 e2 e3)⟩
theorem Mid.hd (h : Mid w rq cb bb bc U q a) (h1 : cb ≠ rq) (n : Nat) : Mid w rq cb bb bc (U.setCell ⟨rq, 1, none⟩ (.int .i64 n)) { q with hd := n } a :=
 ⟨h.q.setHd n, (heap_setCell_ne _ _ _ h1).trans h.c, by rw [World.size_setCell]; exact h.s, fun r e1 e2 e3 => (heap_setCell_ne _ _ _ e1).trans (h.o r e1 e2 e3)⟩
theorem Mid.nx (h : Mid w rq cb bb bc U q a) (h2 : cb ≠ bb) {T : Nat} (hT : T < q.B.length) (n : Nat) : Mid w rq cb bb bc (U.setCell ⟨bb, T * 2 + 1, none⟩ (.int .i64 n)) (q.link T n) a :=
 ⟨h.q.setNx hT n, (heap_setCell_ne _ _ _ h2).trans h.c, by rw [World.size_setCell]; exact h.s, fun r e1 e2 e3 => (heap_setCell_ne _ _ _ e3).trans (h.o r e1 e2 e3)⟩
theorem Mid.help (h : Mid w rq cb bb bc U q a) (h1 : cb ≠ rq) (T n : Nat) : Mid w rq cb bb bc (helpW U rq q.tl T n) (q.help T n) a :=
 ⟨h.q.help T n, (help_keep h1).trans h.c, help_size.trans h.s, fun r e1 e2 e3 => (help_keep e1).trans (h.o r e1 e2 e3)⟩
theorem Mid.heap (h : Mid w rq cb bb bc U q a) (e : w'.heap = U.heap) : Mid w rq cb bb bc w' q a :=
 ⟨h.q.heap e, by rw [e]; exact h.c, by rw [e]; exact h.s, fun r e1 e2 e3 => by rw [e]; exact h.o r e1 e2 e3⟩
theorem Mid.out {q' : RQ} {c' : RC} (h : Mid w rq cb bb bc U q' a) (ha : a = callC c'.kd c' false false 0) : StepOut w rq cb bb bc U (q', .inl c') := ⟨h.q, by subst ha; exact h.c, h.s, h.o⟩
theorem Mid.end {q' : RQ} {c' : RC} {x : Bool × Int} (h : Mid w rq cb bb bc U q' a) (ha : a = callC k c' true x.1 x.2) : StepOut w rq cb bb bc U (q', .inr x) := ⟨h.q, ⟨k, c', by subst ha; exact h.c⟩, h.s, h.o⟩
theorem step_ref (hQ : RefQ w rq bb bc q) (hc : w.heap[cb]? = some (.cells (callC c.kd c false false 0) 48 (0, 0))) (hne : cb ≠ rq) (hnb : cb ≠ bb) (hv : VdC q c) (hp : PhC c) (hl : q.B.length < 100000000) :
  Calls Try.prog 20 #[.pointer (some ⟨rq, 0, none⟩), .pointer (some ⟨cb, 0, none⟩)] w fun e w' => e = .returned (.tuple #[]) ∧ StepOut w rq cb bb bc w' (q.step c) := by
 obtain ⟨kd, ph, H, T, N, new⟩ := c
 have M0 : Mid w rq cb bb bc w q (callC kd ⟨kd, ph, H, T, N, new⟩ false false 0) := ⟨hQ, hc, rfl, fun _ _ _ _ => rfl⟩
 obtain ⟨hkd, hlo, hhi, he, hn1, hn2⟩ := hp
 obtain ⟨vH, vT, vN, vw⟩ := hv
 simp only at hkd hlo hhi he hn1 hn2 vH vT vN vw hc M0
 rcases hkd with rfl | rfl | rfl
 ·have hph : ph = 1 ∨ ph = 2 ∨ ph = 3 ∨ ph = 4 ∨ ph = 5 := by omega
  rcases hph with rfl | rfl | rfl | rfl | rfl
  ·refine (step_put hc (put1_calls hQ hc rfl)).mono ?_
   rintro e w1 ⟨rfl, hw⟩
   exact ⟨by first | rfl | trivial, (((M0.st hne hnb _ _).st hne hnb _ _).heap hw).out rfl⟩
  ·cases hn : q.nx T with
   | none =>
    refine (step_put hc (put2n hQ hc hne hnb rfl vT hl hn)).mono ?_
    rintro e w1 ⟨rfl, hw⟩
    simp only [RQ.step, RQ.put, hn]
    exact ⟨by first | rfl | trivial, (((M0.st hne hnb _ _).st hne hnb _ _).heap hw).out rfl⟩
   | some n =>
    refine (step_put hc (put2s hQ hc hne hnb rfl vT hl hn)).mono ?_
    rintro e w1 ⟨rfl, hw⟩
    simp only [RQ.step, RQ.put, hn]
    exact ⟨by first | rfl | trivial, ((((M0.st hne hnb _ _).st hne hnb _ _).st hne hnb _ _).heap hw).out rfl⟩
  ·obtain ⟨n, rfl⟩ := hn1 rfl rfl
   refine (step_put hc (put3 hQ hc hne hnb rfl rfl)).mono ?_
   rintro e w1 ⟨rfl, hw⟩
   exact ⟨by first | rfl | trivial, (((M0.help hne T n).st hne hnb _ _).heap hw).out rfl⟩
  ·cases hn : q.nx T with
   | none =>
    refine (step_put hc (put4n hQ hc hne hnb rfl vT hl hn)).mono ?_
    rintro e w1 ⟨rfl, hw⟩
    simp only [RQ.step, RQ.put, hn]
    exact ⟨by first | rfl | trivial, ((((M0.st hne hnb _ _).nx hnb vT new).st hne hnb _ _).heap hw).out rfl⟩
   | some n =>
    refine (step_put hc (put4s hQ hc hne hnb rfl vT hl hn)).mono ?_
    rintro e w1 ⟨rfl, hw⟩
    simp only [RQ.step, RQ.put, hn]
    exact ⟨by first | rfl | trivial, ((M0.st hne hnb _ _).heap hw).out rfl⟩
  ·refine (step_put hc (put5 hQ hc hne hnb rfl)).mono ?_
   rintro e w1 ⟨rfl, hw⟩
   exact ⟨by first | rfl | trivial, (((((M0.help hne T new).st hne hnb _ _).st hne hnb _ _).st hne hnb _ _).heap hw).end (c' := ⟨1, 5, H, T, N, new⟩) rfl⟩
 ·have hph : ph = 1 ∨ ph = 2 ∨ ph = 3 ∨ ph = 4 ∨ ph = 5 := by omega
  rcases hph with rfl | rfl | rfl | rfl | rfl
  ·refine (step_take hc (tak1 hQ hc hne hnb rfl)).mono ?_
   rintro e w1 ⟨rfl, hw⟩
   exact ⟨by first | rfl | trivial, (((M0.st hne hnb _ _).st hne hnb _ _).heap hw).out rfl⟩
  ·refine (step_take hc (tak2 hQ hc hne hnb rfl)).mono ?_
   rintro e w1 ⟨rfl, hw⟩
   exact ⟨by first | rfl | trivial, (((M0.st hne hnb _ _).st hne hnb _ _).heap hw).out rfl⟩
  ·cases hn : q.nx H with
   | none =>
    by_cases hHT : H = T
    ·refine (step_take hc (tak3ne hQ hc hne hnb rfl vH hl hn hHT)).mono ?_
     rintro e w1 ⟨rfl, hw⟩
     simp only [RQ.step, RQ.take, hn]
     exact ⟨by first | rfl | trivial, (((((((M0.st hne hnb _ _).st hne hnb _ _).st hne hnb _ _).st hne hnb _ _).st hne hnb _ _).st hne hnb _ _).heap hw).end (c' := ⟨2, 4, H, T, none, new⟩) rfl⟩
    ·refine (step_take hc (tak3nd hQ hc hne hnb rfl vH hl hn hHT)).mono ?_
     rintro e w1 ⟨rfl, hw⟩
     simp only [RQ.step, RQ.take, hn]
     exact ⟨by first | rfl | trivial, ((((((M0.st hne hnb _ _).st hne hnb _ _).st hne hnb _ _).st hne hnb _ _).st hne hnb _ _).heap hw).end (c' := ⟨2, 5, H, T, none, new⟩) rfl⟩
   | some n =>
    by_cases hHT : H = T
    ·refine (step_take hc (tak3se hQ hc hne hnb rfl vH hl hn hHT)).mono ?_
     rintro e w1 ⟨rfl, hw⟩
     simp only [RQ.step, RQ.take, hn, if_pos hHT]
     exact ⟨by first | rfl | trivial, ((((M0.st hne hnb _ _).st hne hnb _ _).st hne hnb _ _).heap hw).out rfl⟩
    ·refine (step_take hc (tak3sd hQ hc hne hnb rfl vH hl hn hHT)).mono ?_
     rintro e w1 ⟨rfl, hw⟩
     simp only [RQ.step, RQ.take, hn, if_neg hHT]
     exact ⟨by first | rfl | trivial, (((M0.st hne hnb _ _).st hne hnb _ _).heap hw).out rfl⟩
  ·obtain ⟨n, rfl⟩ := hn2 rfl (by omega)
   refine (step_take hc (tak4 hQ hc hne hnb rfl rfl)).mono ?_
   rintro e w1 ⟨rfl, hw⟩
   exact ⟨by first | rfl | trivial, (((M0.help hne T n).st hne hnb _ _).heap hw).out rfl⟩
  ·obtain ⟨n, rfl⟩ := hn2 rfl (by omega)
   by_cases hh : q.hd = H
   ·refine (step_take hc (tak5y hQ hc hne hnb rfl rfl (vN n rfl) hl hh hQ.ne)).mono ?_
    rintro e w1 ⟨rfl, hw⟩
    simp only [RQ.step, RQ.take, if_pos hh]
    exact ⟨by first | rfl | trivial, ((((((M0.st hne hnb _ _).hd hne n).st hne hnb _ _).st hne hnb _ _).st hne hnb _ _).heap hw).end (c' := ⟨2, 1, H, T, some n, new⟩) rfl⟩
   ·refine (step_take hc (tak5n hQ hc hne hnb rfl hh)).mono ?_
    rintro e w1 ⟨rfl, hw⟩
    simp only [RQ.step, RQ.take, if_neg hh]
    exact ⟨by first | rfl | trivial, ((M0.st hne hnb _ _).heap hw).out rfl⟩
 ·have hph : ph = 1 ∨ ph = 2 := by have := he rfl; omega
  rcases hph with rfl | rfl
  ·refine (emp1 hQ hc hne rfl).mono ?_
   rintro e w1 ⟨rfl, hw⟩
   exact ⟨by first | rfl | trivial, (((M0.st hne hnb _ _).st hne hnb _ _).heap hw).out rfl⟩
  ·cases hn : q.nx H with
   | none =>
    refine (emp2n hQ hc hne hnb rfl vH hl hn).mono ?_
    rintro e w1 ⟨rfl, hw⟩
    simp only [RQ.step, RQ.emp, hn]
    exact ⟨by first | rfl | trivial, ((((M0.st hne hnb _ _).st hne hnb _ _).st hne hnb _ _).heap hw).end (c' := ⟨3, 2, H, T, N, new⟩) rfl⟩
   | some n =>
    refine (emp2s hQ hc hne hnb rfl vH hl hn).mono ?_
    rintro e w1 ⟨rfl, hw⟩
    simp only [RQ.step, RQ.emp, hn]
    exact ⟨by first | rfl | trivial, ((((M0.st hne hnb _ _).st hne hnb _ _).st hne hnb _ _).heap hw).end (c' := ⟨3, 2, H, T, N, new⟩) rfl⟩
end
noncomputable section
variable {w w' : World} {rq cb bb bc : Nat} {q : RQ} {c : RC} {k : Int}
theorem step_append_own {P : Program} {ops : Array Oper} {o : Oper} {a : Act} {w : World} {K : Act → World → Prop} {Q : Exit → Act → World → Prop} {E : Prop}
  (hg : o.guard = none) (s x : Operand) (t : TypeId) (hop : o.op = Op.call { callee := Callee.builtin Builtin.append, args := #[s, x], argTypes := #[t, t] })
  (base : Nat) (e : TypeId) (i : TypeInfo) (z : Value) (size bytes : Nat) (h1 : P.underlying t = some (.slice e)) (h2 : P.info? e = some i) (h3 : i.zero = some z) (h4 : i.size = size) (h5 : i.bytes = bytes) (h6 : z.cells.size = size) (h7 : 0 < size)
  (v : Value) (n : Nat) (olds : List Value) (hs : a.eval s = v) (hown : w.ownsRow base e size v n olds)
  (ad : Addr) (m c : Nat) (news : List Value) (hx : a.eval x = .slice (some ad) m c) (hn : news.length = m * size) (hc : ∀ j u, news[j]? = some u → w.cell? (ad.add j) = some u) (h1c : ∀ u ∈ news, u.oneCell' = true)
  (b1 : n + m ≤ maxLen) (b2 : (n + m) * bytes ≤ 140737488355328) (hbase : base ≤ w.heap.size)
  (hK : ∀ v' w', w'.ownsRow base e size v' (n + m) (olds ++ news) → w.grownBy w' v.ownBlock → K (a.put o.dst v') w') :
  if Region.wanted o (yielded ops a.tmps) = true then Oper.wp P o a w K Q else E := by
 have hw : Region.wanted o (yielded ops a.tmps) = true := by simp [Region.wanted, hg]
 rw [if_pos hw]
 obtain ⟨v', w', hrun, r1, r2, _⟩ := run_append_own (P := P) w base t o.type e i z size bytes h1 h2 h3 h4 h5 h6 h7 v n olds hown ad m c news hn hc h1c b1 b2 hbase
 unfold Oper.wp
 simp [execOp, hop, resolve, invoke, builtin, hs, hx, hrun, Result.andThen]
 exact hK v' w' r1 r2
theorem row_cells {base n size cap g : Nat} {e : TypeId} {xs : List Value} (h : w.ownsRow base e size (.slice (some ⟨g, 0, none⟩) n cap) n xs) : ∀ j u, xs[j]? = some u → w.cell? ((⟨g, 0, none⟩ : Addr).add j) = some u := by
 intro j u hj
 obtain ⟨b, c, e1, h1⟩ := row_get h hj
 cases e1
 have e1 : (⟨g, 0, none⟩ : Addr).add j = ⟨g, j, none⟩ := by
  unfold Addr.add
  split
  ·subst_vars; rfl
  ·simp
 rw [e1]
 exact h1.c
theorem run_append_fresh {P : Program} {w : World} (t ty e : TypeId) (i : TypeInfo) (z : Value) (size bytes : Nat) (ht : P.underlying t = some (.slice e)) (hi : P.info? e = some i) (hz : i.zero = some z)
  (hsize : i.size = size) (hby : i.bytes = bytes) (hzs : z.cells.size = size) (hsz : 0 < size)
  (v : Value) (n : Nat) (xs : List Value) (hown : w.ownsRow 0 e size v n xs)
  (a : Addr) (m c : Nat) (news : List Value) (hl : news.length = m * size) (hnews : ∀ j u, news[j]? = some u → w.cell? (a.add j) = some u) (h1 : ∀ u ∈ news, u.oneCell' = true)
  (h63 : n + m ≤ maxLen) (hbytes : (n + m) * bytes ≤ 140737488355328) :
  ∃ v' w', (Builtin.append_ #[t, t] ty #[v, .slice (some a) m c]).run P w = .ok v' w' ∧ w'.ownsRow 0 e size v' (n + m) (xs ++ news) ∧ w.grownBy w' v.ownBlock ∧ (v'.ownBlock = v.ownBlock ∨ ∃ g, v'.ownBlock = some g ∧ w.heap.size ≤ g) := by
 rcases hown.2 with ⟨rfl, rfl⟩ | ⟨g, cap, cur, rfl, h2, h3, h4, h5, h6, h7⟩
 ·have hxs : xs = [] := List.eq_nil_of_length_eq_zero (by have := hown.1; simpa using this)
  subst hxs
  obtain ⟨v', w', hrun, r1, r2, _⟩ := run_append_own (P := P) w w.heap.size t ty e i z size bytes ht hi hz hsize hby hzs hsz (.slice none 0 0) 0 [] (World.ownsRow_nil w _ e size) a m c news hl hnews h1 h63 hbytes (Nat.le_refl _)
  refine ⟨v', w', hrun, ownsRow_mono_base (Nat.zero_le _) r1, r2, ?_⟩
  rcases r1.2 with ⟨rfl, _⟩ | ⟨g', cap', cur', rfl, h2, _⟩
  ·exact .inl rfl
  ·exact .inr ⟨g', rfl, h2⟩
 ·by_cases hroom : n + m ≤ cap
  ·obtain ⟨w', hr, r1, r2⟩ := run_append_own_spare (P := P) w 0 t ty e i size ht hi hsize g n cap xs hown a m c news hl hnews h1 hroom
   exact ⟨_, w', hr, r1, r2, .inl rfl⟩
  ·obtain ⟨v', w', hrun, r1, r2⟩ := run_append_arg_grows (P := P) w t ty e i z size bytes ht hi hz hsize hby hzs hsz ⟨g, 0, none⟩ n cap xs hown.1 (row_cells hown) a m c news hl hnews (by omega) h63 hbytes
   refine ⟨v', w', hrun, ownsRow_mono_base (Nat.zero_le _) r1, ⟨r2.os, r2.tape, r2.output, r2.size, fun k hk _ => r2.block k hk (by simp)⟩, ?_⟩
   rcases r1.2 with ⟨rfl, h0⟩ | ⟨g', cap', cur', rfl, h2, _⟩
   ·omega
   ·exact .inr ⟨g', rfl, h2⟩
theorem step_append_fresh {P : Program} {ops : Array Oper} {o : Oper} {a : Act} {w : World} {K : Act → World → Prop} {Q : Exit → Act → World → Prop} {E : Prop}
  (hg : o.guard = none) (s x : Operand) (t : TypeId) (hop : o.op = Op.call { callee := Callee.builtin Builtin.append, args := #[s, x], argTypes := #[t, t] })
  (e : TypeId) (i : TypeInfo) (z : Value) (size bytes : Nat) (h1 : P.underlying t = some (.slice e)) (h2 : P.info? e = some i) (h3 : i.zero = some z) (h4 : i.size = size) (h5 : i.bytes = bytes) (h6 : z.cells.size = size) (h7 : 0 < size)
  (v : Value) (n : Nat) (olds : List Value) (hs : a.eval s = v) (hown : w.ownsRow 0 e size v n olds)
  (ad : Addr) (m c : Nat) (news : List Value) (hx : a.eval x = .slice (some ad) m c) (hn : news.length = m * size) (hc : ∀ j u, news[j]? = some u → w.cell? (ad.add j) = some u) (h1c : ∀ u ∈ news, u.oneCell' = true)
  (b1 : n + m ≤ maxLen) (b2 : (n + m) * bytes ≤ 140737488355328)
  (hK : ∀ v' w', w'.ownsRow 0 e size v' (n + m) (olds ++ news) → w.grownBy w' v.ownBlock → (v'.ownBlock = v.ownBlock ∨ ∃ g, v'.ownBlock = some g ∧ w.heap.size ≤ g) → K (a.put o.dst v') w') :
  if Region.wanted o (yielded ops a.tmps) = true then Oper.wp P o a w K Q else E := by
 have hw : Region.wanted o (yielded ops a.tmps) = true := by simp [Region.wanted, hg]
 rw [if_pos hw]
 obtain ⟨v', w', hrun, r1, r2, r3⟩ := run_append_fresh (P := P) (w := w) t o.type e i z size bytes h1 h2 h3 h4 h5 h6 h7 v n olds hown ad m c news hn hc h1c b1 b2
 unfold Oper.wp
 simp [execOp, hop, resolve, invoke, builtin, hs, hx, hrun, Result.andThen]
 exact hK v' w' r1 r2 r3
theorem wpList_append_fresh {P : Program} {ops : Array Oper} {rest : List Oper} {o : Oper} {a : Act} {w : World} {Q : Exit → Act → World → Prop} (hgd : o.guard = none) (s x : Operand) (t : TypeId)
  (ho : o.op = .call { callee := .builtin .append, args := #[s, x], argTypes := #[t, t] })
  (e : TypeId) (i : TypeInfo) (z : Value) (size bytes : Nat) (h1 : P.underlying t = some (.slice e)) (h2 : P.info? e = some i) (h3 : i.zero = some z) (h4 : i.size = size) (h5 : i.bytes = bytes) (h6 : z.cells.size = size) (h7 : 0 < size)
  (v : Value) (n : Nat) (olds : List Value) (hs : a.eval s = v) (hown : w.ownsRow 0 e size v n olds)
  (ad : Addr) (m c : Nat) (news : List Value) (hx : a.eval x = .slice (some ad) m c) (hn : news.length = m * size) (hc : ∀ j u, news[j]? = some u → w.cell? (ad.add j) = some u) (h1c : ∀ u ∈ news, u.oneCell' = true)
  (b1 : n + m ≤ maxLen) (b2 : (n + m) * bytes ≤ 140737488355328)
  (h : ∀ v' w', w'.ownsRow 0 e size v' (n + m) (olds ++ news) → w.grownBy w' v.ownBlock → (v'.ownBlock = v.ownBlock ∨ ∃ g, v'.ownBlock = some g ∧ w.heap.size ≤ g) → wpList P ops Q rest (a.put o.dst v') w') : wpList P ops Q (o :: rest) a w :=
 wpList_plain hgd fun _ hK => by
  obtain ⟨v', w', hrun, r1, r2, r3⟩ := run_append_fresh (P := P) (w := w) t o.type e i z size bytes h1 h2 h3 h4 h5 h6 h7 v n olds hown ad m c news hn hc h1c b1 b2
  unfold Oper.wp execOp
  simp only [ho, resolve, invoke, builtin, Sem.run_bind, Sem.run_pure, Result.andThen_ok, List.map_toArray, List.map_cons, List.map_nil, hs, hx, hrun]
  exact hK _ _ (h v' w' r1 r2 r3)
theorem infoOf {P : Program} {t : TypeId} {s b : Nat} (h : (P.info? t).map (fun i => (i.zero.map (·.cells.size), i.size, i.bytes)) = some (some s, s, b)) : ∃ i z, P.info? t = some i ∧ i.zero = some z ∧ i.size = s ∧ i.bytes = b ∧ z.cells.size = s := by
 obtain ⟨i, hi, h1⟩ := Option.map_eq_some_iff.1 h
 simp only [Prod.mk.injEq] at h1
 obtain ⟨z, hz, h2⟩ := Option.map_eq_some_iff.1 h1.1
 exact ⟨i, z, hi, hz, h1.2.1, h1.2.2, h2⟩
theorem infoA46 : ∃ i z, Try.prog.info? 46 = some i ∧ i.zero = some z ∧ i.size = 3 ∧ i.bytes = 40 ∧ z.cells.size = 3 := infoOf (by kernel_rfl)
theorem infoA92 : ∃ i z, Try.prog.info? 92 = some i ∧ i.zero = some z ∧ i.size = 1 ∧ i.bytes = 8 ∧ z.cells.size = 1 := infoOf (by kernel_rfl)
theorem infoA4 : ∃ i z, Try.prog.info? 4 = some i ∧ i.zero = some z ∧ i.size = 1 ∧ i.bytes = 1 ∧ z.cells.size = 1 := infoOf (by kernel_rfl)
theorem infoA3 : ∃ i z, Try.prog.info? 3 = some i ∧ i.zero = some z ∧ i.size = 1 ∧ i.bytes = 8 ∧ z.cells.size = 1 := infoOf (by kernel_rfl)
theorem infoA2 : ∃ i z, Try.prog.info? 2 = some i ∧ i.zero = some z ∧ i.size = 1 ∧ i.bytes = 8 ∧ z.cells.size = 1 := infoOf (by kernel_rfl)
theorem infoA84 : ∃ i z, Try.prog.info? 84 = some i ∧ i.zero = some z ∧ i.size = 1 ∧ i.bytes = 24 ∧ z.cells.size = 1 := infoOf (by kernel_rfl)
theorem fresh_or {g bb n m c d X Y : Nat} (h : (Value.slice (some ⟨g, 0, none⟩) n c).ownBlock = (Value.slice (some ⟨bb, 0, none⟩) m d).ownBlock ∨ ∃ g', (Value.slice (some ⟨g, 0, none⟩) n c).ownBlock = some g' ∧ X ≤ g') (hX : Y ≤ X) : g = bb ∨ Y ≤ g := by
 rcases h with h | ⟨g', h, hle⟩
 ·left; simpa [Value.ownBlock] using h
 ·right
  simp only [Value.ownBlock, Option.some.injEq] at h
  omega
theorem info109 : ∃ i z, Try.prog.info? 109 = some i ∧ i.zero = some z ∧ i.size = 2 ∧ i.bytes = 16 ∧ z.cells.size = 2 := by
 have h : (Try.prog.info? 109).map (fun i => (i.zero.map (·.cells.size), i.size, i.bytes)) = some (some 2, 2, 16) := by kernel_rfl
 obtain ⟨i, hi, h1⟩ := Option.map_eq_some_iff.1 h
 simp only [Prod.mk.injEq] at h1
 obtain ⟨z, hz, h2⟩ := Option.map_eq_some_iff.1 h1.1
 exact ⟨i, z, hi, hz, h1.2.1, h1.2.2, h2⟩
theorem boxC_len (l : List (Int × Option Nat)) : (boxC l).length = l.length * 2 := by
 induction l with
 | nil => rfl
 | cons x l ih => simp [boxC] at ih ⊢; omega
theorem boxC_get (l : List (Int × Option Nat)) (k : Nat) : (boxC l)[k * 2]? = (l[k]?).map (fun b => Value.int .i64 b.1) ∧ (boxC l)[k * 2 + 1]? = (l[k]?).map (fun b => Value.int .i64 (nxI b.2)) := by
 induction l generalizing k with
 | nil => simp [boxC]
 | cons x l ih =>
  cases k with
  | zero => simp [boxC]
  | succ k =>
   have := ih k
   have e1 : (k + 1) * 2 = k * 2 + 1 + 1 := by omega
   have e2 : boxC (x :: l) = Value.int .i64 x.1 :: Value.int .i64 (nxI x.2) :: boxC l := rfl
   rw [e1, e2]
   simpa using this
theorem boxC_app (l m : List (Int × Option Nat)) : boxC (l ++ m) = boxC l ++ boxC m := by simp [boxC]
theorem RefQ.row (h : RefQ w rq bb bc q) : w.ownsRow 0 109 2 (.slice (some ⟨bb, 0, none⟩) q.B.length bc) q.B.length (boxC q.B) := by
 obtain ⟨cur, h1, h2, h3, h4, h5⟩ := h.b
 refine ⟨boxC_len _, .inr ⟨bb, bc, cur, rfl, Nat.zero_le _, h1, h3, h4, h2, ?_⟩⟩
 apply List.ext_getElem?
 intro j
 rcases Nat.lt_or_ge j (q.B.length * 2) with hj | hj
 ·rw [List.getElem?_take_of_lt hj]
  have hk : j / 2 < q.B.length := by omega
  obtain ⟨e1, e2⟩ := h5 (j / 2) _ (List.getElem?_eq_getElem hk)
  obtain ⟨g1, g2⟩ := boxC_get q.B (j / 2)
  rw [List.getElem?_eq_getElem hk] at g1 g2
  rcases Nat.mod_two_eq_zero_or_one j with hm | hm
  ·have : j / 2 * 2 = j := by omega
   rw [this] at e1 g1
   rw [g1]; simpa using e1
  ·have : j / 2 * 2 + 1 = j := by omega
   rw [this] at e2 g2
   rw [g2]; simpa using e2
 ·rw [List.getElem?_eq_none (by simp; omega), List.getElem?_eq_none (by rw [boxC_len]; exact hj)]
theorem refQ_of_row {bv : Value} (ho : w.heap[rq]? = some (.cells #[bv, .int .i64 q.hd, .int .i64 q.tl] 112 (0, 0))) (h : w.ownsRow 0 109 2 bv q.B.length (boxC q.B)) (hp : 0 < q.B.length) : ∃ bb bc, bv = .slice (some ⟨bb, 0, none⟩) q.B.length bc ∧ RefQ w rq bb bc q := by
 rcases h.2 with ⟨_, h0⟩ | ⟨g, cap, cur, rfl, _, h3, h4, h5, h6, h7⟩
 ·omega
 ·refine ⟨g, cap, rfl, ⟨ho, cur, h3, h6, h4, h5, fun k x hx => ?_⟩⟩
  obtain ⟨g1, g2⟩ := boxC_get q.B k
  have hk := (List.getElem?_eq_some_iff.1 hx).1
  rw [hx] at g1 g2
  rw [← h7] at g1 g2
  rw [List.getElem?_take_of_lt (by omega)] at g1 g2
  exact ⟨by simpa using g1, by simpa using g2⟩
theorem begin23 {kd a b d : Int} (hk : kd = 2 ∨ kd = 3) : Calls Try.prog 19 #[.pointer (some ⟨rq, 0, none⟩), .agg #[.int .i64 kd, .int .i64 a, .int .i64 b, .int .i64 d]] w fun e w' => e = .returned (.pointer (some ⟨w.heap.size + 1, 0, none⟩)) ∧
  w'.heap = ((w.alloc (.cells #[.int .i64 kd, .int .i64 a, .int .i64 b, .int .i64 d] 44)).alloc (.cells (callC kd ⟨0, 1, 0, 0, some 0, 0⟩ false false 0) 48)).heap := by
 rcases hk with rfl | rfl
 ·go_enter Try.func19, Try.ntmps19
  go_wp2
  go_ret
  exact ⟨rfl, rfl⟩
 ·go_enter Try.func19, Try.ntmps19
  go_wp2
  go_ret
  exact ⟨rfl, rfl⟩
theorem beginx {kd a b d : Int} (h1 : ¬ kd = 1) (h2 : ¬ kd = 2) (h3 : ¬ kd = 3) : Calls Try.prog 19 #[.pointer (some ⟨rq, 0, none⟩), .agg #[.int .i64 kd, .int .i64 a, .int .i64 b, .int .i64 d]] w fun e w' => e = .returned (.pointer (some ⟨w.heap.size + 1, 0, none⟩)) ∧
  w'.heap = ((w.alloc (.cells #[.int .i64 kd, .int .i64 a, .int .i64 b, .int .i64 d] 44)).alloc (.cells (callC kd ⟨0, 1, 0, 0, some 0, 0⟩ true false 0) 48)).heap := by
 go_enter Try.func19, Try.ntmps19
 go_wp2
 go_end0
 go_wp2
 go_ret
 exact ⟨rfl, by simp [callC, nxI, World.setCell]⟩
theorem new_cells {X : World} {l : List Value} {e : TypeId} {z : Nat} (hz : X.heap.size = z) : ∀ (j : Nat) (u : Value), l[j]? = some u → (X.alloc (.cells l.toArray e)).cell? ((⟨z, 0, none⟩ : Addr).add j) = some u := by
 intro j u h
 subst hz
 have hb := heap_alloc_new X (.cells l.toArray e)
 have e1 : (⟨X.heap.size, 0, none⟩ : Addr).add j = ⟨X.heap.size, j, none⟩ := by
  unfold Addr.add
  split
  ·subst_vars; rfl
  ·simp
 rw [e1]
 simp only [World.cell?, hb]
 simpa using h
theorem own_slice {v : Value} {base n size : Nat} {e : TypeId} {xs : List Value} (h : w.ownsRow base e size v (n + 1) xs) : ∃ g cap, v = .slice (some ⟨g, 0, none⟩) (n + 1) cap := by
 rcases h.2 with ⟨_, h⟩ | ⟨g, cap, _, h, _⟩
 ·omega
 ·exact ⟨g, cap, h⟩
theorem grown_old {W w1 : World} {o : Obj} {row : Option Nat} (hg : (W.alloc o).grownBy w1 row) {r : Nat} (hr : r < W.heap.size) (hne : some r ≠ row) : w1.heap[r]? = W.heap[r]? :=
 (hg.block r (by simp; omega) hne).trans (heap_alloc_lt _ _ hr)
theorem begin1 {a b d : Int} (hQ : RefQ w rq bb bc q) (hl : q.B.length < 100000000) : Calls Try.prog 19 #[.pointer (some ⟨rq, 0, none⟩), .agg #[.int .i64 1, .int .i64 a, .int .i64 b, .int .i64 d]] w fun e w' => e = .returned (.pointer (some ⟨w.heap.size + 1, 0, none⟩)) ∧
  ∃ (w1 : World) (g cap : Nat) (W : World), W.heap = ((w.alloc (.cells #[.int .i64 1, .int .i64 a, .int .i64 b, .int .i64 d] 44)).alloc (.cells #[.int .i64 1, .int .i64 1, .int .i64 0, .int .i64 0, .int .i64 0, .int .i64 q.B.length, .bool false, .bool false, .int .i64 0, .slice none 0 0] 48)).heap ∧
   w1.ownsRow 0 109 2 (.slice (some ⟨g, 0, none⟩) (q.B.length + 1) cap) (q.B.length + 1) (boxC q.B ++ [.int .i64 a, .int .i64 (-1)]) ∧ (W.alloc (.cells #[.int .i64 a, .int .i64 (-1)] 109)).grownBy w1 (some bb) ∧ (g = bb ∨ W.heap.size ≤ g) ∧ w'.heap = (w1.setCell ⟨rq, 0, none⟩ (.slice (some ⟨g, 0, none⟩) (q.B.length + 1) cap)).heap := by
 obtain ⟨i0, z0, hi, hz0, hz1, hz2, hz3⟩ := info109
 have hr := (Array.getElem?_eq_some_iff.1 hQ.o).1
 have q0 : w.cell? ⟨rq, 0, none⟩ = some (.slice (some ⟨bb, 0, none⟩) q.B.length bc) := by simp [World.cell?, hQ.o]
 have zq0 : w.frozen? ⟨rq, 0, none⟩ = false := by simp [World.frozen?, hQ.o]
 have hbr := hQ.ne
 have hr1 : ¬ rq = w.heap.size := by omega
 have hr2 : ¬ rq = w.heap.size + 1 := by omega
 have hr3 : ¬ w.heap.size + 1 = rq := by omega
 have hr4 : ¬ w.heap.size = rq := by omega
 go_enter Try.func19, Try.ntmps19
 go_wp2
 generalize hW : (w.alloc (.cells #[.int .i64 1, .int .i64 a, .int .i64 b, .int .i64 d] 44)).alloc (.cells #[.int .i64 1, .int .i64 1, .int .i64 0, .int .i64 0, .int .i64 0, .int .i64 q.B.length, .bool false, .bool false, .int .i64 0, .slice none 0 0] 48) = W
 have hWo : ∀ r, r < w.heap.size → W.heap[r]? = w.heap[r]? := fun r hr => by
  rw [← hW, heap_alloc_lt _ _ (by simp; omega), heap_alloc_lt _ _ hr]
 have hWs : W.heap.size = w.heap.size + 2 := by rw [← hW]; simp
 have hWQ : RefQ W rq bb bc q := hQ.same (hWo _ hr) (hWo _ (by obtain ⟨cur, h1, _⟩ := hQ.b; exact (Array.getElem?_eq_some_iff.1 h1).1))
 have f0 : W.cell? ⟨rq, 0, none⟩ = some (.slice (some ⟨bb, 0, none⟩) q.B.length bc) := by simp [World.cell?, hWQ.o]
 have f1 : W.cell? ⟨w.heap.size, 1, none⟩ = some (.int .i64 a) := by
  have : W.heap[w.heap.size]? = some (.cells #[.int .i64 1, .int .i64 a, .int .i64 b, .int .i64 d] 44 (0, 0)) := by
   rw [← hW, heap_alloc_lt _ _ (by simp)]
   exact heap_alloc_new _ _
  simp [World.cell?, this]
 have hrow := hWQ.row
 have g1 : ¬ rq = W.heap.size := by omega
 have g2 : ¬ w.heap.size = W.heap.size := by omega
 have hz1' : W.frozen? ⟨rq, 0, none⟩ = false := by simp [World.frozen?, hWQ.o]
 have p0 := (cellB_alloc f0 (.cells #[.int .i64 a, .int .i64 (-1)] 109)).1
 clear q0 zq0 hr1 hr2 hr3 hr4 hQ
 go_region_law (refine step_append_fresh rfl (.tmp 28) (.tmp 32) 110 rfl 109 i0 z0 2 16 Try.underlying110 hi hz0 hz1 hz2 hz3 (by decide) (.slice (some ⟨bb, 0, none⟩) q.B.length bc) q.B.length (boxC q.B) (by simp [Act.eval, Act.put]) ((show W.drew.ownsRow 0 109 2 _ _ _ from hrow).alloc _) ⟨W.heap.size, 0, none⟩ 1 1 [.int .i64 a, .int .i64 (-1)] (by simp [Act.eval, Act.put]) rfl (new_cells (X := W.drew) (l := [.int .i64 a, .int .i64 (-1)]) rfl) (by intro u hu; simp at hu; rcases hu with rfl | rfl <;> rfl) (by unfold maxLen; omega) (by omega) ?_; intro v' w1 hown hgrow hfr; obtain ⟨g, cap, rfl⟩ := own_slice hown; have hk1 := grown_old (W := W.drew) hgrow (r := rq) (by show rq < W.heap.size; omega) (by simp [Value.ownBlock]; omega); have k0 := (cell_heap (j := 0) hk1).1.trans f0; have k1 := (cell_heap (j := 0) hk1).2.trans hz1')
 all_goals go_wp2
 all_goals go_ret
 all_goals exact ⟨rfl, w1, g, cap, W, by rw [← hW], hown, ⟨hgrow.os, hgrow.tape, hgrow.output, hgrow.size, hgrow.block⟩, fresh_or hfr (by simp [World.drew]), rfl⟩
end
noncomputable section
variable {w w' : World} {rq cb bb bc : Nat} {q : RQ} {c : RC} {k : Int}
def BeginOut (w : World) (rq bb cb : Nat) (w' : World) (r : RQ × RR) : Prop :=
 (∃ bb' bc', RefQ w' rq bb' bc' r.1 ∧ (bb' = bb ∨ w.heap.size ≤ bb')) ∧ (match r.2 with
  | .inl c => w'.heap[cb]? = some (.cells (callC c.kd c false false 0) 48 (0, 0))
  | .inr a => ∃ (k : Int) (c : RC), w'.heap[cb]? = some (.cells (callC k c true a.1 a.2) 48 (0, 0))) ∧
 w.heap.size ≤ w'.heap.size ∧ ∀ r, r < w.heap.size → r ≠ rq → r ≠ bb → w'.heap[r]? = w.heap[r]?
theorem RefQ.bblt (h : RefQ w rq bb bc q) : bb < w.heap.size := by obtain ⟨cur, h1, _⟩ := h.b; exact (Array.getElem?_eq_some_iff.1 h1).1
theorem RefQ.rqlt (h : RefQ w rq bb bc q) : rq < w.heap.size := (Array.getElem?_eq_some_iff.1 h.o).1
theorem begin_ref (hQ : RefQ w rq bb bc q) (hl : q.B.length < 100000000) (hp : 0 < q.B.length) (o : Op4) :
  Calls Try.prog 19 #[.pointer (some ⟨rq, 0, none⟩), o.v] w fun e w' => e = .returned (.pointer (some ⟨w.heap.size + 1, 0, none⟩)) ∧ BeginOut w rq bb (w.heap.size + 1) w' (q.begin o) := by
 obtain ⟨kd, a, b, d⟩ := o
 have hr := hQ.rqlt
 have hb := hQ.bblt
 have two : ∀ {w' : World} {o1 o2 : Obj}, w'.heap = ((w.alloc o1).alloc o2).heap → (∀ r, r < w.heap.size → w'.heap[r]? = w.heap[r]?) ∧ w'.heap[w.heap.size + 1]? = some o2 ∧ w'.heap.size = w.heap.size + 2 := fun {w' o1 o2} e => by
  refine ⟨fun r hr => ?_, ?_, by rw [e]; simp⟩
  ·rw [e, heap_alloc_lt _ _ (by simp; omega), heap_alloc_lt _ _ hr]
  ·rw [e]; exact new_at (by simp) _
 by_cases h1 : kd = 1
 ·subst h1
  refine (begin1 hQ hl).mono ?_
  rintro e w2 ⟨rfl, w1, g, cap, W, hW, hown, hgrow, hfr, hw⟩
  obtain ⟨t1, t2, t3⟩ := two hW
  have hold : ∀ r, r < w.heap.size + 2 → r ≠ bb → w1.heap[r]? = W.heap[r]? := fun r hr hne => grown_old hgrow (by omega) (by simpa using hne)
  have ho1 : w1.heap[rq]? = _ := (hold rq (by omega) (Ne.symm hQ.ne)).trans ((t1 _ hr).trans hQ.o)
  refine ⟨rfl, ?_, ?_, ?_, fun r h1 h2 h3 => ?_⟩
  ·have hne : rq ≠ g := by
    rintro rfl
    rcases hown.2 with ⟨h0, _⟩ | ⟨g', cap', cur, h3, _, h4, _⟩
    ·cases h0
    ·cases h3
     rw [ho1] at h4
     simp only [Option.some.injEq, Obj.cells.injEq] at h4
     exact absurd h4.2.1 (by decide)
   have hq2 : w2.heap[rq]? = some (.cells #[.slice (some ⟨g, 0, none⟩) (q.B.length + 1) cap, .int .i64 q.hd, .int .i64 q.tl] 112 (0, 0)) := by
    rw [hw, heap_set_eq ho1]; rfl
   have hrow2 : w2.ownsRow 0 109 2 (.slice (some ⟨g, 0, none⟩) (q.B.length + 1) cap) (q.B.length + 1) (boxC q.B ++ [.int .i64 a, .int .i64 (-1)]) := ownsRow_same2 hown fun b hb _ => by
    simp only [Value.ownBlock, Option.some.injEq] at hb
    subst hb
    rw [hw, heap_setCell_ne _ _ _ hne.symm]
   have e2 : boxC (q.B ++ [(a, none)]) = boxC q.B ++ [.int .i64 a, .int .i64 (-1)] := by rw [boxC_app]; rfl
   have e3 : (q.B ++ [(a, (none : Option Nat))]).length = q.B.length + 1 := by simp
   obtain ⟨bb', bc', e4, hR⟩ := refQ_of_row (q := ⟨q.B ++ [(a, none)], q.hd, q.tl⟩) hq2 (by rw [e2, e3]; exact hrow2) (by simp)
   refine ⟨bb', bc', hR, ?_⟩
   simp only [Value.slice.injEq, Option.some.injEq, Addr.mk.injEq] at e4
   rw [← e4.1.1]
   rcases hfr with h | h
   ·exact .inl h
   ·exact .inr (by omega)
  ·simp only [RQ.begin, if_true]
   rw [hw, heap_setCell_ne _ _ _ (show w.heap.size + 1 ≠ rq by omega), hold _ (by omega) (by omega), t2]
   rfl
  ·have := hgrow.size
   rw [hw]
   simp at this ⊢
   omega
  ·rw [hw, heap_setCell_ne _ _ _ h2, hold r (by omega) h3, t1 r h1]
 ·by_cases h23 : kd = 2 ∨ kd = 3
  ·refine (begin23 h23).mono ?_
   rintro e w2 ⟨rfl, hw⟩
   obtain ⟨t1, t2, t3⟩ := two hw
   refine ⟨rfl, ⟨bb, bc, ?_, .inl rfl⟩, ?_, by omega, fun r h1 _ _ => t1 r h1⟩
   ·have : (q.begin ⟨kd, a, b, d⟩).1 = q := by
     simp only [RQ.begin, if_neg h1]
     rcases h23 with rfl | rfl <;> simp
    rw [this]
    exact hQ.same (t1 _ hr) (t1 _ hb)
   ·rcases h23 with rfl | rfl
    ·exact t2
    ·exact t2
  ·refine (beginx h1 (fun h => h23 (.inl h)) (fun h => h23 (.inr h))).mono ?_
   rintro e w2 ⟨rfl, hw⟩
   obtain ⟨t1, t2, t3⟩ := two hw
   have hb0 : q.begin ⟨kd, a, b, d⟩ = (q, .inr (false, 0)) := by
    simp only [RQ.begin, if_neg h1, if_neg (fun h => h23 (.inl h)), if_neg (fun h => h23 (.inr h))]
   rw [hb0]
   exact ⟨rfl, ⟨bb, bc, hQ.same (t1 _ hr) (t1 _ hb), .inl rfl⟩, ⟨_, _, t2⟩, by omega, fun r h1 _ _ => t1 r h1⟩
end
noncomputable section
variable {w w' : World} {rq tb cb bb bc : Nat} {q : RQ} {c : RC} {k : Int}
theorem callableX19 : Callable 19 := callable Try.func19 rfl rfl
theorem step_call {P : Program} {ops : Array Oper} {o : Oper} {a : Act} {w : World} {K : Act → World → Prop} {Q : Exit → Act → World → Prop} {E : Prop} (hg : o.guard = none) (f : FuncId) (args : Array Value) (v : Value)
  (hr : (execOp a.eval o).run P w = .ok (.enter f args) w) {R : World → Prop} (hC : Calls P f args w fun e w' => e = .returned v ∧ R w') (hK : ∀ w', R w' → K (a.put o.dst v) w') :
  if Region.wanted o (yielded ops a.tmps) = true then Oper.wp P o a w K Q else E := by
 have hw : Region.wanted o (yielded ops a.tmps) = true := by simp [Region.wanted, hg]
 rw [if_pos hw]
 unfold Oper.wp
 rw [hr, Oper.upon_enter]
 exact hC.mono fun e w' ⟨h1, h2⟩ => by subst h1; exact hK w' h2
inductive CSt
 | nil
 | live (c : RC)
 | fin (a : Bool × Int)
def CAt (w : World) (cp : Option Addr) : CSt → Prop
 | .nil => cp = none
 | .live c => ∃ cb, cp = some ⟨cb, 0, none⟩ ∧ w.heap[cb]? = some (.cells (callC c.kd c false false 0) 48 (0, 0))
 | .fin a => ∃ (cb : Nat) (k : Int) (c : RC), cp = some ⟨cb, 0, none⟩ ∧ w.heap[cb]? = some (.cells (callC k c true a.1 a.2) 48 (0, 0))
structure TMem (w : World) (tb : Nat) (oa : Option Addr) (ol oc k : Nat) (s : CSt) (ans : List (Bool × Int)) (ov : Value) : Prop where
 o : ∃ cp, w.heap[tb]? = some (.cells #[.slice oa ol oc, .int .i64 k, .pointer cp, ov] 95 (0, 0)) ∧ CAt w cp s
 row : w.ownsRow 0 46 3 ov ans.length (ansC ans)
structure OpsMem (w : World) (oa : Option Addr) (ol : Nat) (ops : List Op4) (X : Nat → Prop) : Prop where
 len : ops.length = ol
 op : ∀ k x, ops[k]? = some x → ∃ opb oo, oa = some ⟨opb, oo, none⟩ ∧ opb < w.heap.size ∧ ¬ X opb ∧
  w.cell? ⟨opb, oo + k * 4, none⟩ = some (.int .i64 x.kd) ∧ w.cell? ⟨opb, oo + k * 4 + 1, none⟩ = some (.int .i64 x.a) ∧ w.cell? ⟨opb, oo + k * 4 + 2, none⟩ = some (.int .i64 x.b) ∧ w.cell? ⟨opb, oo + k * 4 + 3, none⟩ = some (.int .i64 x.c)
def nextF (ops : List Op4) (q : RQ) (k : Nat) (ans : List (Bool × Int)) : CSt → RQ × RT
 | .nil => advL (ops.drop k) q ⟨k, none, ans⟩
 | .live c => (q, ⟨k, some c, ans⟩)
 | .fin a => advL (ops.drop (k + 1)) q ⟨k + 1, none, ans ++ [a]⟩
structure NKept (w wr : World) (rq tb bb : Nat) (ov : Value) (bb' : Nat) (ov' : Value) : Prop where
 size : w.heap.size ≤ wr.heap.size
 old : ∀ r, r < w.heap.size → r ≠ rq → r ≠ tb → r ≠ bb → some r ≠ ov.ownBlock → wr.heap[r]? = w.heap[r]?
 fb : bb' = bb ∨ w.heap.size ≤ bb'
 fo : ov'.ownBlock = ov.ownBlock ∨ ∃ g, ov'.ownBlock = some g ∧ w.heap.size ≤ g
theorem NKept.refl (w : World) (rq tb bb : Nat) (ov : Value) : NKept w w rq tb bb ov bb ov := ⟨Nat.le_refl _, fun _ _ _ _ _ _ => rfl, .inl rfl, .inl rfl⟩
theorem NKept.trans {u v : World} {ov ov1 ov2 : Value} {b b1 b2 : Nat} (h : NKept w u rq tb b ov b1 ov1) (k : NKept u v rq tb b1 ov1 b2 ov2) : NKept w v rq tb b ov b2 ov2 := by
 have hs := h.size
 refine ⟨Nat.le_trans hs k.size, fun r h1 h2 h3 h4 h5 => ?_, ?_, ?_⟩
 ·refine (k.old r (by omega) h2 h3 ?_ ?_).trans (h.old r h1 h2 h3 h4 h5)
  ·rcases h.fb with e | e
   ·rw [e]; exact h4
   ·omega
  ·rcases h.fo with e | ⟨g, e, hg⟩
   ·rw [e]; exact h5
   ·rw [e]; intro e2; cases e2; omega
 ·rcases k.fb with e | e
  ·rw [e]; exact h.fb
  ·exact .inr (by omega)
 ·rcases k.fo with e | ⟨g, e, hg⟩
  ·rw [e]; exact h.fo
  ·exact .inr ⟨g, e, by omega⟩
structure NAt (w wr : World) (rq tb bb : Nat) (ov : Value) (oa : Option Addr) (ol oc : Nat) (q : RQ) (k : Nat) (s : CSt) (ans : List (Bool × Int)) (ov' : Value) (bb' bc' : Nat) : Prop where
 q : RefQ wr rq bb' bc' q
 t : TMem wr tb oa ol oc k s ans ov'
 kept : NKept w wr rq tb bb ov bb' ov'
 cp : ∀ cb, wr.cell? ⟨tb, 2, none⟩ = some (.pointer (some ⟨cb, 0, none⟩)) → w.cell? ⟨tb, 2, none⟩ = some (.pointer (some ⟨cb, 0, none⟩)) ∨ w.heap.size ≤ cb
theorem CAt.heap {wr : World} {cp : Option Addr} {s : CSt} (h : CAt wr cp s) (e : w'.heap = wr.heap) : CAt w' cp s := by
 cases s <;> simp only [CAt, e] at h ⊢ <;> exact h
theorem NAt.heap {wr : World} {ov : Value} {oa : Option Addr} {ol oc k : Nat} {s : CSt} {ans : List (Bool × Int)} {ov' : Value} {bb' bc' : Nat} (h : NAt w wr rq tb bb ov oa ol oc q k s ans ov' bb' bc') (e : w'.heap = wr.heap) : NAt w w' rq tb bb ov oa ol oc q k s ans ov' bb' bc' := by
 obtain ⟨h1, ⟨⟨cp, h2, h3⟩, h4⟩, h5, h6⟩ := h
 exact ⟨h1.heap e, ⟨⟨cp, by rw [e]; exact h2, h3.heap e⟩, ownsRow_same2 h4 fun _ _ _ => by rw [e]⟩, ⟨by rw [e]; exact h5.size, fun r a b c d f => by rw [e]; exact h5.old r a b c d f, h5.fb, h5.fo⟩, fun cb hc => h6 cb (by simpa only [World.cell?, e] using hc)⟩
def cst : Option RC → CSt
 | none => .nil
 | some c => .live c
def NextOut (w : World) (rq tb bb : Nat) (ov : Value) (oa : Option Addr) (ol oc : Nat) (w' : World) (r : RQ × RT) : Prop :=
 ∃ bb' bc' ov', NAt w w' rq tb bb ov oa ol oc r.1 r.2.k (cst r.2.call) r.2.ans ov' bb' bc'
theorem lt_or_nil {k ol : Nat} (h : k < ol) : k + 1 < ol ∨ (k + 1 = ol ∧ CSt.nil = CSt.nil) := by
 rcases Nat.lt_or_ge (k + 1) ol with h1 | h1
 ·exact .inl h1
 ·exact .inr ⟨by omega, rfl⟩
theorem next_fin {wd w1 u : World} {ov0 ov1 v' : Value} {oa : Option Addr} {ol oc k1 bb1 bc1 : Nat} {s : CSt} {ans1 : List (Bool × Int)} {a : Bool × Int} {cp : Option Addr} {X : Nat} (N : NAt w wd rq tb bb ov0 oa ol oc q k1 s ans1 ov1 bb1 bc1)
  (T : wd.heap[tb]? = some (.cells #[.slice oa ol oc, .int .i64 k1, .pointer cp, ov1] 95 (0, 0))) (hown : w1.ownsRow 0 46 3 v' (ans1.length + 1) (ansC ans1 ++ [.bool a.1, .int .i64 a.2, .slice none 0 0]))
  (hold : ∀ r, r < wd.heap.size → some r ≠ ov1.ownBlock → w1.heap[r]? = wd.heap[r]?) (hsz : wd.heap.size ≤ w1.heap.size) (hfr : v'.ownBlock = ov1.ownBlock ∨ ∃ g, v'.ownBlock = some g ∧ X ≤ g) (hX : wd.heap.size ≤ X)
  (hu : u.heap = (((w1.setCell ⟨tb, 3, none⟩ v').setCell ⟨tb, 2, none⟩ (.pointer none)).setCell ⟨tb, 1, none⟩ (.int .i64 (k1 + 1 : Nat))).heap) : NAt w u rq tb bb ov0 oa ol oc q (k1 + 1) .nil (ans1 ++ [a]) v' bb1 bc1 := by
 have hrow := N.t.row
 have htb := (Array.getElem?_eq_some_iff.1 T).1
 have hne : some tb ≠ ov1.ownBlock := own_type hrow T (by decide)
 have T1 := (hold tb htb hne).trans T
 have hrt : rq ≠ tb := by
  rintro rfl
  have := N.q.o
  rw [T] at this
  simp only [Option.some.injEq, Obj.cells.injEq] at this
  exact absurd this.2.1 (by decide)
 obtain ⟨cur, hb1, hb2⟩ := N.q.b
 have hbt : bb1 ≠ tb := by
  rintro rfl
  rw [T] at hb1
  simp only [Option.some.injEq, Obj.cells.injEq] at hb1
  exact absurd hb1.2.1 (by decide)
 have hou : ∀ r, r ≠ tb → u.heap[r]? = w1.heap[r]? := fun r hr => by
  rw [hu, heap_setCell_ne _ _ _ hr, heap_setCell_ne _ _ _ hr, heap_setCell_ne _ _ _ hr]
 have hsu : u.heap.size = w1.heap.size := by rw [hu]; simp
 have hvt : v'.ownBlock ≠ some tb := by
  rcases hfr with e | ⟨g, e, hg⟩
  ·rw [e]; exact fun h => hne h.symm
  ·rw [e]; intro h; cases h; omega
 refine ⟨N.q.same ((hou _ hrt).trans (hold _ N.q.rqlt (own_type hrow N.q.o (by decide)))) ((hou _ hbt).trans (hold _ N.q.bblt (own_type hrow hb1 (by decide)))), ⟨⟨none, ?_, rfl⟩, ?_⟩, N.kept.trans ⟨by omega, fun r h1 h2 h3 h4 h5 => (hou r h3).trans (hold r h1 h5), .inl rfl, ?_⟩, fun cb h => ?_⟩
 ·rw [hu, heap_set_eq (heap_set_eq (heap_set_eq T1))]
  rfl
 ·have e1 : ansC (ans1 ++ [a]) = ansC ans1 ++ [.bool a.1, .int .i64 a.2, .slice none 0 0] := by simp [ansC]
  rw [e1, List.length_append]
  exact ownsRow_same2 hown fun b hb _ => hou b (fun e => hvt (e ▸ hb))
 ·rcases hfr with e | ⟨g, e, hg⟩
  ·exact .inl e
  ·exact .inr ⟨g, e, by omega⟩
 ·simp only [World.cell?, hu, heap_set_eq (heap_set_eq (heap_set_eq T1))] at h
  simp at h
def rst : RR → CSt
 | .inl c => .live c
 | .inr a => .fin a
theorem next_begun {wd w1 u : World} {ov0 ov1 : Value} {oa : Option Addr} {ol oc k1 bb1 bc1 : Nat} {s : CSt} {ans1 : List (Bool × Int)} {cp : Option Addr} {r : RQ × RR} (N : NAt w wd rq tb bb ov0 oa ol oc q k1 s ans1 ov1 bb1 bc1)
  (T : wd.heap[tb]? = some (.cells #[.slice oa ol oc, .int .i64 k1, .pointer cp, ov1] 95 (0, 0))) (hB : BeginOut wd rq bb1 (wd.heap.size + 1) w1 r)
  (hu : u.heap = (w1.setCell ⟨tb, 2, none⟩ (.pointer (some ⟨wd.heap.size + 1, 0, none⟩))).heap) : ∃ bb' bc', NAt w u rq tb bb ov0 oa ol oc r.1 k1 (rst r.2) ans1 ov1 bb' bc' := by
 obtain ⟨⟨bb', bc', hQ, hfb⟩, hc, hsz, hold⟩ := hB
 have hrow := N.t.row
 have htb := (Array.getElem?_eq_some_iff.1 T).1
 have hrt : tb ≠ rq := by
  rintro rfl
  have := N.q.o
  rw [T] at this
  simp only [Option.some.injEq, Obj.cells.injEq] at this
  exact absurd this.2.1 (by decide)
 obtain ⟨cur, hb1, hb2⟩ := N.q.b
 have hbt : tb ≠ bb1 := by
  rintro rfl
  rw [T] at hb1
  simp only [Option.some.injEq, Obj.cells.injEq] at hb1
  exact absurd hb1.2.1 (by decide)
 have T1 := (hold tb htb hrt hbt).trans T
 have hbt' : tb ≠ bb' := by rcases hfb with e | e <;> omega
 have hou : ∀ r, r ≠ tb → u.heap[r]? = w1.heap[r]? := fun r hr => by rw [hu, heap_setCell_ne _ _ _ hr]
 have hsu : u.heap.size = w1.heap.size := by rw [hu]; simp
 refine ⟨bb', bc', hQ.same (hou _ hrt.symm) (hou _ hbt'.symm), ⟨⟨_, by rw [hu, heap_set_eq T1]; rfl, ?_⟩, ?_⟩, N.kept.trans ⟨by omega, fun r h1 h2 h3 h4 h5 => (hou r h3).trans (hold r h1 h2 h4), hfb, .inl rfl⟩, fun cb h => ?_⟩
 ·cases h2 : r.2 with
  | inl c => rw [h2] at hc; exact ⟨_, rfl, (hou _ (by omega)).trans hc⟩
  | inr a =>
   rw [h2] at hc
   obtain ⟨k, c, hc⟩ := hc
   exact ⟨_, k, c, rfl, (hou _ (by omega)).trans hc⟩
 ·refine ownsRow_same2 hrow fun b hb _ => ?_
  have hbl : b < wd.heap.size := by have := hrow.lt b hb; omega
  have hne : tb ≠ b := fun e => own_type hrow T (by decide) (by rw [e, hb])
  have hne1 : b ≠ rq := fun e => own_type hrow N.q.o (by decide) (by rw [← e, hb])
  have hne2 : b ≠ bb1 := fun e => own_type hrow hb1 (by decide) (by rw [← e, hb])
  exact (hou _ hne.symm).trans (hold b hbl hne1 hne2)
 ·simp only [World.cell?, hu, heap_set_eq T1] at h
  have := N.kept.size
  simp at h
  exact .inr (by omega)
theorem next_inl {ops : List Op4} {x : Op4} {q2 : RQ} {k1 : Nat} {ans : List (Bool × Int)} (hx : ops[k1]? = some x) (hb : q.begin x = (q2, .inl c)) : nextF ops q k1 ans .nil = (q2, ⟨k1, some c, ans⟩) := by
 obtain ⟨hlt, e⟩ := List.getElem?_eq_some_iff.1 hx
 simp only [nextF]
 rw [List.drop_eq_getElem_cons hlt, e]
 simp only [advL, hb]
theorem next_inr {ops : List Op4} {x : Op4} {q2 : RQ} {k1 : Nat} {a : Bool × Int} {ans : List (Bool × Int)} (hx : ops[k1]? = some x) (hb : q.begin x = (q2, .inr a)) : nextF ops q k1 ans .nil = nextF ops q2 k1 ans (.fin a) := by
 obtain ⟨hlt, e⟩ := List.getElem?_eq_some_iff.1 hx
 simp only [nextF]
 rw [List.drop_eq_getElem_cons hlt, e]
 simp only [advL, hb]
theorem begin_len (q : RQ) (x : Op4) : (q.begin x).1.B.length ≤ q.B.length + 1 ∧ q.B.length ≤ (q.begin x).1.B.length := by
 unfold RQ.begin
 split
 ·simp
 ·split
  ·simp
  ·split <;> simp
set_option maxHeartbeats 8000000 in
theorem next_ref {oa : Option Addr} {ol oc k0 LIM : Nat} {s0 : CSt} {ans0 : List (Bool × Int)} {ov0 : Value} {ops : List Op4} (hQ : RefQ w rq bb bc q) (hT : TMem w tb oa ol oc k0 s0 ans0 ov0) (hO : OpsMem w oa ol ops (fun r => r = rq ∨ r = tb ∨ r = bb ∨ some r = ov0.ownBlock))
  (hk : k0 < ol ∨ (k0 = ol ∧ s0 = .nil)) (hlim : q.B.length + (ol - k0) < LIM) (hL : LIM < 100000000) (hp : 0 < q.B.length) (hol : ol ≤ 65536) (han : ans0.length = k0) :
  Calls Try.prog 42 #[.pointer (some ⟨rq, 0, none⟩), .pointer (some ⟨tb, 0, none⟩)] w fun e w' => e = .returned (.bool (nextF ops q k0 ans0 s0).2.call.isNone) ∧ NextOut w rq tb bb ov0 oa ol oc w' (nextF ops q k0 ans0 s0) := by
 obtain ⟨i0, z0, hi, hz0, hz1, hz2, hz3⟩ := infoA46
 have A0 : Aside (NAt w w rq tb bb ov0 oa ol oc q k0 s0 ans0 ov0 bb bc) := ⟨hQ, hT, NKept.refl _ _ _ _ _, fun _ h => .inl h⟩
 generalize hR : nextF ops q k0 ans0 s0 = R
 have B0 : Aside (nextF ops q k0 ans0 s0 = R ∧ (k0 < ol ∨ (k0 = ol ∧ s0 = .nil)) ∧ q.B.length + (ol - k0) < LIM ∧ 0 < q.B.length ∧ ans0.length = k0) := ⟨hR, hk, hlim, hp, han⟩
 have O0 : Aside (OpsMem w oa ol ops (fun r => r = rq ∨ r = tb ∨ r = bb ∨ some r = ov0.ownBlock)) := hO
 clear hQ hT hR hk hlim hp hO han
 go_enter Try.func42, Try.ntmps42
 go_wp2
 go_loopg [] (ol - k0 + 1) (fun n wr => ∃ q k s ans ov' bb' bc', NAt w wr rq tb bb ov0 oa ol oc q k s ans ov' bb' bc' ∧ nextF ops q k ans s = R ∧ (k < ol ∨ (k = ol ∧ s = .nil)) ∧ q.B.length + (ol - k) < LIM ∧ 0 < q.B.length ∧ ans.length = k ∧ n = ol - k + 1)
 case atStart =>
  obtain ⟨h1, h2, h3, h4, h5⟩ := B0.out
  exact ⟨q, k0, s0, ans0, ov0, bb, bc, A0.out, h1, h2, h3, h4, h5, rfl⟩
 case round =>
  obtain ⟨q1, k1, s1, ans1, ov1, bb1, bc1, hN, h1, h2, h3, h4, h5, rfl⟩ := hrel
  have C : Aside (nextF ops q1 k1 ans1 s1 = R ∧ (k1 < ol ∨ (k1 = ol ∧ s1 = .nil)) ∧ q1.B.length + (ol - k1) < LIM ∧ 0 < q1.B.length ∧ ans1.length = k1) := ⟨h1, h2, h3, h4, h5⟩
  obtain ⟨t0, t1⟩ : wr.cell? ⟨tb, 0, none⟩ = some (.slice oa ol oc) ∧ wr.cell? ⟨tb, 1, none⟩ = some (.int .i64 k1) := by
   obtain ⟨⟨cp, ht, hcp⟩, hrow⟩ := hN.t
   exact ⟨by simp [World.cell?, ht], by simp [World.cell?, ht]⟩
  have N0 : Aside (NAt w wr rq tb bb ov0 oa ol oc q1 k1 s1 ans1 ov1 bb1 bc1) := hN
  have hle : ans1.length + 1 ≤ 65537 ∧ k1 ≤ 65536 := by omega
  clear hN h1 h3 h4 h5 A0 B0
  rcases h2 with hlt | ⟨rfl, rfl⟩
  ·go_wp2
   go_quiet (fail)
   rename_i nq
   have hN := N0.out.heap (w' := wr.drewN nq) rfl
   generalize wr.drewN nq = wd at hN ⊢
   clear t0 t1 N0
   have N1 : Aside (NAt w wd rq tb bb ov0 oa ol oc q1 k1 s1 ans1 ov1 bb1 bc1) := hN
   obtain ⟨⟨cp, ht, hcp⟩, hrow⟩ := hN.t
   have t0 : wd.cell? ⟨tb, 0, none⟩ = some (.slice oa ol oc) := by simp [World.cell?, ht]
   have t1 : wd.cell? ⟨tb, 1, none⟩ = some (.int .i64 k1) := by simp [World.cell?, ht]
   have t2 : wd.cell? ⟨tb, 2, none⟩ = some (.pointer cp) := by simp [World.cell?, ht]
   have t3 : wd.cell? ⟨tb, 3, none⟩ = some ov1 := by simp [World.cell?, ht]
   cases s1 with
   | nil =>
    have hcp : cp = none := hcp
    subst hcp
    have hlen := O0.out.len
    obtain ⟨x, hx⟩ : ∃ x, ops[k1]? = some x := ⟨_, List.getElem?_eq_getElem (by omega)⟩
    obtain ⟨opb, oo, rfl, hop1, hop2, e0, e1, e2, e3⟩ := O0.out.op k1 x hx
    have hopk : wd.heap[opb]? = w.heap[opb]? := hN.kept.old opb hop1 (fun h => hop2 (.inl h)) (fun h => hop2 (.inr (.inl h))) (fun h => hop2 (.inr (.inr (.inl h)))) (fun h => hop2 (.inr (.inr (.inr h))))
    replace e0 := (cell_heap hopk).1.trans e0
    replace e1 := (cell_heap hopk).1.trans e1
    replace e2 := (cell_heap hopk).1.trans e2
    replace e3 := (cell_heap hopk).1.trans e3
    have z2 : wd.frozen? ⟨tb, 2, none⟩ = false := by simp [World.frozen?, ht]
    have T1 : Aside (wd.heap[tb]? = some (.cells #[.slice (some ⟨opb, oo, none⟩) ol oc, .int .i64 k1, .pointer none, ov1] 95 (0, 0)) ∧ ops[k1]? = some x) := ⟨ht, hx⟩
    have htb := (Array.getElem?_eq_some_iff.1 ht).1
    have Q1 : Aside (RefQ wd.drew rq bb1 bc1 q1 ∧ q1.B.length < 100000000 ∧ 0 < q1.B.length) := by
     obtain ⟨g1, g2, g3, g4, g5⟩ := C.out
     exact ⟨hN.q.heap rfl, by omega, g4⟩
    have hrt : tb ≠ rq ∧ tb ≠ bb1 := by
     obtain ⟨cur, hb1, hb2⟩ := hN.q.b
     constructor
     ·rintro rfl
      have := hN.q.o
      rw [ht] at this
      simp only [Option.some.injEq, Obj.cells.injEq] at this
      exact absurd this.2.1 (by decide)
     ·rintro rfl
      rw [ht] at hb1
      simp only [Option.some.injEq, Obj.cells.injEq] at hb1
      exact absurd hb1.2.1 (by decide)
    clear hN ht hrow hop1 hop2 hopk hlen hx
    go_wp2
    go_region_law (refine step_call rfl 19 #[.pointer (some ⟨rq, 0, none⟩), x.v] (.pointer (some ⟨wd.heap.size + 1, 0, none⟩)) (by simp [execOp, Act.eval, Act.put, resolve, invoke, Deferred.ofValue, callableX19.run, Op4.v]) (begin_ref Q1.out.1 Q1.out.2.1 Q1.out.2.2 x) ?_; intro w1 hB; have B1 : Aside (BeginOut wd rq bb1 (wd.heap.size + 1) w1 (q1.begin x)) := hB; have hk1 : w1.heap[tb]? = wd.heap[tb]? := hB.2.2.2 tb htb hrt.1 hrt.2; have m2 := (cell_heap (j := 2) hk1).1.trans t2; have m3 := (cell_heap (j := 2) hk1).2.trans z2; clear hB hk1)
    all_goals (
     obtain ⟨q2, r2, hbe⟩ : ∃ q2 r2, q1.begin x = (q2, r2) := ⟨_, _, rfl⟩
     obtain ⟨bb2, bc2, hN2⟩ := next_begun (u := w1.setCell ⟨tb, 2, none⟩ (.pointer (some ⟨wd.heap.size + 1, 0, none⟩))) N1.out T1.out.1 B1.out rfl
     rw [hbe] at hN2
     generalize w1.setCell ⟨tb, 2, none⟩ (.pointer (some ⟨wd.heap.size + 1, 0, none⟩)) = we at hN2 ⊢
     have N2 : Aside (NAt w we rq tb bb ov0 (some ⟨opb, oo, none⟩) ol oc q2 k1 (rst r2) ans1 ov1 bb2 bc2) := hN2
     have E2 : Aside (q1.begin x = (q2, r2)) := hbe
     obtain ⟨⟨cp, ht, hcp⟩, hrow⟩ := hN2.t
     have t0 : we.cell? ⟨tb, 0, none⟩ = some (.slice (some ⟨opb, oo, none⟩) ol oc) := by simp [World.cell?, ht]
     have t1 : we.cell? ⟨tb, 1, none⟩ = some (.int .i64 k1) := by simp [World.cell?, ht]
     have t2 : we.cell? ⟨tb, 2, none⟩ = some (.pointer cp) := by simp [World.cell?, ht]
     have t3 : we.cell? ⟨tb, 3, none⟩ = some ov1 := by simp [World.cell?, ht]
     clear hN2 hbe m2 m3 B1 N1 Q1 hrt htb e0 e1 e2 e3 z2
     cases r2 with
     | inl c =>
      obtain ⟨cb, rfl, hcb⟩ := hcp
      have c6 : we.cell? ⟨cb, 6, none⟩ = some (.bool false) := by simp [World.cell?, hcb, callC]
      clear hrow ht hcb
      go_wp2
      go_ret
      obtain ⟨h1, h2, h3, h4, h5⟩ := C.out
      rw [next_inl T1.out.2 E2.out] at h1
      subst h1
      exact ⟨rfl, bb2, bc2, ov1, N2.out⟩
     | inr a =>
      have D : Aside (nextF ops q2 k1 ans1 (.fin a) = R ∧ q2.B.length ≤ q1.B.length + 1 ∧ 0 < q2.B.length) := by
       obtain ⟨h1, h2, h3, h4, h5⟩ := C.out
       rw [next_inr T1.out.2 E2.out] at h1
       have := begin_len q1 x
       rw [E2.out] at this
       exact ⟨h1, this.1, by have := this.2; simp only at this; omega⟩
      clear E2 T1
      obtain ⟨cb, kk, cc, rfl, hcb⟩ := hcp
      have c6 : we.cell? ⟨cb, 6, none⟩ = some (.bool true) := by simp [World.cell?, hcb, callC]
      have c7 : we.cell? ⟨cb, 7, none⟩ = some (.bool a.1) := by simp [World.cell?, hcb, callC]
      have c8 : we.cell? ⟨cb, 8, none⟩ = some (.int .i64 a.2) := by simp [World.cell?, hcb, callC]
      have c9 : we.cell? ⟨cb, 9, none⟩ = some (.slice none 0 0) := by simp [World.cell?, hcb, callC]
      have p0 := (cellB_alloc t3 (.cells #[.bool a.1, .int .i64 a.2, .slice none 0 0] 46)).1
      have z0' : ∀ j, we.frozen? ⟨tb, j, none⟩ = false := fun j => by simp [World.frozen?, ht]
      have z1 := z0' 1
      have z2 := z0' 2
      have z3 := z0' 3
      have htb := (Array.getElem?_eq_some_iff.1 ht).1
      have hne : some tb ≠ ov1.ownBlock := own_type hrow ht (by decide)
      have hwr : IntKind.i64.wrap ((k1 : Int) + 1) = (k1 : Int) + 1 := IntWalk.i64_in _ (by omega)
      have T2 : Aside (we.heap[tb]? = some (.cells #[.slice (some ⟨opb, oo, none⟩) ol oc, .int .i64 k1, .pointer (some ⟨cb, 0, none⟩), ov1] 95 (0, 0))) := ht
      clear ht hcb z0'
      go_wp2
      go_region_law (refine step_append_fresh rfl (.tmp 47) (.tmp 55) 84 rfl 46 i0 z0 3 40 Try.underlying84 hi hz0 hz1 hz2 hz3 (by decide) ov1 ans1.length (ansC ans1) (by simp [Act.eval, Act.put]) ((show we.drew.ownsRow 0 46 3 _ _ _ from hrow).alloc _) ⟨we.heap.size, 0, none⟩ 1 1 [.bool a.1, .int .i64 a.2, .slice none 0 0] (by simp [Act.eval, Act.put]) rfl (new_cells (X := we.drew) (l := [.bool a.1, .int .i64 a.2, .slice none 0 0]) rfl) (by intro u hu; simp at hu; rcases hu with rfl | rfl | rfl <;> rfl) (by unfold maxLen; omega) (by omega) ?_; intro v' w3 hown hgrow hfr; obtain ⟨g, cap, rfl⟩ := own_slice hown; have hk1 := grown_old (W := we.drew) hgrow (r := tb) htb hne; have k0 := (cell_heap (j := 3) hk1).1.trans t3; have k1' := (cell_heap (j := 3) hk1).2.trans z3; have m1 := (cell_heap (j := 1) hk1).1.trans t1; have m2 := (cell_heap (j := 1) hk1).2.trans z1; have n1 := (cell_heap (j := 2) hk1).1.trans t2; have n2 := (cell_heap (j := 2) hk1).2.trans z2; have F : Aside ((∀ r, r < we.heap.size → some r ≠ ov1.ownBlock → w3.heap[r]? = we.heap[r]?) ∧ we.heap.size ≤ w3.heap.size ∧ ((Value.slice (some ⟨g, 0, none⟩) (ans1.length + 1) cap).ownBlock = ov1.ownBlock ∨ ∃ g', (Value.slice (some ⟨g, 0, none⟩) (ans1.length + 1) cap).ownBlock = some g' ∧ we.heap.size ≤ g')) := ⟨fun r hr hn => grown_old (W := we.drew) hgrow hr hn, Nat.le_trans (by simp [World.drew]) hgrow.size, hfr.imp id fun ⟨g', h1, h2⟩ => ⟨g', h1, Nat.le_trans (by simp [World.drew]) h2⟩⟩; clear hgrow hfr hk1)
      all_goals go_wp2
      all_goals (
       go_roundg (ol - (k1 + 1) + 1)
       case measure => omega
       case rel =>
        obtain ⟨f1, f2, f3⟩ := F.out
        obtain ⟨h1, h2, h3, h4, h5⟩ := C.out
        obtain ⟨hR2, hl2, hp2⟩ := D.out
        exact ⟨q2, k1 + 1, .nil, ans1 ++ [a], _, bb2, bc2, next_fin N2.out T2.out hown f1 f2 f3 (Nat.le_refl _) rfl, hR2, lt_or_nil hlt, by omega, hp2, by simp; omega, rfl⟩))
   | live c =>
    obtain ⟨cb, rfl, hcb⟩ := hcp
    have c6 : wd.cell? ⟨cb, 6, none⟩ = some (.bool false) := by simp [World.cell?, hcb, callC]
    clear hN hrow ht hcb
    go_wp2
    go_ret
    obtain ⟨h1, h2, h3, h4, h5⟩ := C.out
    subst h1
    exact ⟨rfl, bb1, bc1, ov1, N1.out⟩
   | fin a =>
    obtain ⟨cb, kk, cc, rfl, hcb⟩ := hcp
    have c6 : wd.cell? ⟨cb, 6, none⟩ = some (.bool true) := by simp [World.cell?, hcb, callC]
    have c7 : wd.cell? ⟨cb, 7, none⟩ = some (.bool a.1) := by simp [World.cell?, hcb, callC]
    have c8 : wd.cell? ⟨cb, 8, none⟩ = some (.int .i64 a.2) := by simp [World.cell?, hcb, callC]
    have c9 : wd.cell? ⟨cb, 9, none⟩ = some (.slice none 0 0) := by simp [World.cell?, hcb, callC]
    have p0 := (cellB_alloc t3 (.cells #[.bool a.1, .int .i64 a.2, .slice none 0 0] 46)).1
    have z0' : ∀ j, wd.frozen? ⟨tb, j, none⟩ = false := fun j => by simp [World.frozen?, ht]
    have z1 := z0' 1
    have z2 := z0' 2
    have z3 := z0' 3
    have htb := (Array.getElem?_eq_some_iff.1 ht).1
    have hne : some tb ≠ ov1.ownBlock := own_type hrow ht (by decide)
    have hwr : IntKind.i64.wrap ((k1 : Int) + 1) = (k1 : Int) + 1 := IntWalk.i64_in _ (by omega)
    have T1 : Aside (wd.heap[tb]? = some (.cells #[.slice oa ol oc, .int .i64 k1, .pointer (some ⟨cb, 0, none⟩), ov1] 95 (0, 0))) := ht
    clear hN ht hcb z0'
    go_wp2
    go_region_law (refine step_append_fresh rfl (.tmp 47) (.tmp 55) 84 rfl 46 i0 z0 3 40 Try.underlying84 hi hz0 hz1 hz2 hz3 (by decide) ov1 ans1.length (ansC ans1) (by simp [Act.eval, Act.put]) ((show wd.drew.ownsRow 0 46 3 _ _ _ from hrow).alloc _) ⟨wd.heap.size, 0, none⟩ 1 1 [.bool a.1, .int .i64 a.2, .slice none 0 0] (by simp [Act.eval, Act.put]) rfl (new_cells (X := wd.drew) (l := [.bool a.1, .int .i64 a.2, .slice none 0 0]) rfl) (by intro u hu; simp at hu; rcases hu with rfl | rfl | rfl <;> rfl) (by unfold maxLen; omega) (by omega) ?_; intro v' w1 hown hgrow hfr; obtain ⟨g, cap, rfl⟩ := own_slice hown; have hk1 := grown_old (W := wd.drew) hgrow (r := tb) htb hne; have k0 := (cell_heap (j := 3) hk1).1.trans t3; have k1' := (cell_heap (j := 3) hk1).2.trans z3; have m1 := (cell_heap (j := 1) hk1).1.trans t1; have m2 := (cell_heap (j := 1) hk1).2.trans z1; have n1 := (cell_heap (j := 2) hk1).1.trans t2; have n2 := (cell_heap (j := 2) hk1).2.trans z2; have F : Aside ((∀ r, r < wd.heap.size → some r ≠ ov1.ownBlock → w1.heap[r]? = wd.heap[r]?) ∧ wd.heap.size ≤ w1.heap.size ∧ ((Value.slice (some ⟨g, 0, none⟩) (ans1.length + 1) cap).ownBlock = ov1.ownBlock ∨ ∃ g', (Value.slice (some ⟨g, 0, none⟩) (ans1.length + 1) cap).ownBlock = some g' ∧ wd.heap.size ≤ g')) := ⟨fun r hr hn => grown_old (W := wd.drew) hgrow hr hn, Nat.le_trans (by simp [World.drew]) hgrow.size, hfr.imp id fun ⟨g', h1, h2⟩ => ⟨g', h1, Nat.le_trans (by simp [World.drew]) h2⟩⟩; clear hgrow hfr hk1)
    all_goals go_wp2
    all_goals (
     go_roundg (ol - (k1 + 1) + 1)
     case measure => omega
     case rel =>
      obtain ⟨f1, f2, f3⟩ := F.out
      obtain ⟨h1, h2, h3, h4, h5⟩ := C.out
      exact ⟨q1, k1 + 1, .nil, ans1 ++ [a], _, bb1, bc1, next_fin N1.out T1.out hown f1 f2 f3 (Nat.le_refl _) rfl, h1, lt_or_nil hlt, by omega, h4, by simp; omega, rfl⟩)
  ·go_wp2
   go_quiet (fail)
   go_wp2
   go_ret
   obtain ⟨h1, h2, h3, h4, h5⟩ := C.out
   have e : nextF ops q1 k1 ans1 .nil = (q1, ⟨k1, none, ans1⟩) := by
    have hl := O0.out.len
    simp only [nextF]
    rw [← hl, List.drop_length]
    rfl
   rw [e] at h1
   subst h1
   exact ⟨rfl, bb1, bc1, ov1, N0.out.heap rfl⟩
end
noncomputable section
structure Chain (q : RQ) (ch : List Nat) : Prop where
 nd : ch.Nodup
 lt : ∀ k, k ∈ ch → k < q.B.length
 ln : ∀ i k, ch[i]? = some k → q.nx k = ch[i + 1]?
 hd : q.hd ∈ ch
 tl : q.tl ∈ ch
 z : 0 ∈ ch
structure Knows (q : RQ) (ch : List Nat) (c : RC) : Prop where
 H : c.H ∈ ch
 T : c.T ∈ ch
 n : c.n ∈ ch
 new : c.kd = 1 → (c.ph = 5 → c.new ∈ ch) ∧ (c.ph ≠ 5 → c.new ∉ ch ∧ c.new < q.B.length ∧ q.nx c.new = none)
theorem Chain.path {q : RQ} {ch : List Nat} (h : Chain q ch) : ∀ (m i : Nat) (k : Nat), ch.length - i = m → ch[i]? = some k → Path q (q.nx k) (ch.drop (i + 1)) := by
 intro m
 induction m with
 | zero =>
  intro i k hm hk
  have := (List.getElem?_eq_some_iff.1 hk).1
  omega
 | succ m ih =>
  intro i k hm hk
  rw [h.ln i k hk]
  cases e : ch[i + 1]? with
  | none =>
   rw [List.drop_eq_nil_of_le (by have := List.getElem?_eq_none_iff.1 e; omega)]
   exact .nil
  | some k2 =>
   obtain ⟨h1, h2⟩ := List.getElem?_eq_some_iff.1 e
   rw [List.drop_eq_getElem_cons h1, h2]
   exact .cons (h.lt k2 (h2 ▸ List.getElem_mem h1)) (ih (i + 1) k2 (by omega) e)
theorem Chain.mem_path {q : RQ} {ch : List Nat} (h : Chain q ch) {k : Nat} (hk : k ∈ ch) : ∃ l, Path q (q.nx k) l ∧ l.length < ch.length := by
 obtain ⟨i, hi, e⟩ := List.mem_iff_getElem.1 hk
 refine ⟨_, h.path _ i k rfl (by rw [List.getElem?_eq_getElem hi, e]), ?_⟩
 rw [List.length_drop]
 omega
theorem Chain.next {q : RQ} {ch : List Nat} (h : Chain q ch) {k n : Nat} (hk : k ∈ ch) (hn : q.nx k = some n) : n ∈ ch := by
 obtain ⟨i, hi, e⟩ := List.mem_iff_getElem.1 hk
 rw [h.ln i k (by rw [List.getElem?_eq_getElem hi, e])] at hn
 exact List.mem_of_getElem? hn
theorem Chain.length {q : RQ} {ch : List Nat} (h : Chain q ch) : ch.length ≤ q.B.length := by
 have := List.Nodup.length_le_of_subset (l₁ := ch) (l₂ := List.range q.B.length) h.nd fun k hk => List.mem_range.2 (h.lt k hk)
 simpa using this
end
noncomputable section
variable {q : RQ} {ch : List Nat}
theorem nx_link {t n : Nat} (ht : t < q.B.length) (k : Nat) : (q.link t n).nx k = if t = k then some n else q.nx k := by
 unfold RQ.nx RQ.link
 simp only [List.getElem?_modify]
 by_cases e : t = k
 ·subst e
  rw [List.getElem?_eq_getElem ht]
  simp
 ·rw [if_neg e]
  cases h : q.B[k]? with
  | none => rfl
  | some x => simp [if_neg e]
theorem Chain.last (h : Chain q ch) {t : Nat} (hT : t ∈ ch) (hx : q.nx t = none) : ch[ch.length - 1]? = some t := by
 obtain ⟨i, hi, e⟩ := List.mem_iff_getElem.1 hT
 have h1 := h.ln i t (by rw [List.getElem?_eq_getElem hi, e])
 rw [hx] at h1
 have := List.getElem?_eq_none_iff.1 h1.symm
 have e2 : ch.length - 1 = i := by omega
 rw [e2, List.getElem?_eq_getElem hi, e]
theorem Chain.link (h : Chain q ch) {t n : Nat} (hT : t ∈ ch) (hx : q.nx t = none) (hn : n ∉ ch) (hlt : n < q.B.length) (hnn : q.nx n = none) : Chain (q.link t n) (ch ++ [n]) := by
 have ht := h.lt t hT
 have hl : (q.link t n).B.length = q.B.length := by simp [RQ.link]
 have hlast := h.last hT hx
 have hpos : 0 < ch.length := List.length_pos_of_mem hT
 refine ⟨?_, ?_, ?_, List.mem_append_left _ h.hd, List.mem_append_left _ h.tl, List.mem_append_left _ h.z⟩
 ·rw [List.nodup_append]
  exact ⟨h.nd, by simp, fun a ha b hb => by rw [List.mem_singleton] at hb; subst hb; rintro rfl; exact hn ha⟩
 ·intro k hk
  rw [hl]
  rcases List.mem_append.1 hk with hk | hk
  ·exact h.lt k hk
  ·rw [List.mem_singleton] at hk
   subst hk
   exact hlt
 ·intro i k hk
  rw [nx_link ht]
  rcases Nat.lt_or_ge i ch.length with hi | hi
  ·rw [List.getElem?_append_left hi] at hk
   by_cases e : i = ch.length - 1
   ·subst e
    rw [hlast] at hk
    simp only [Option.some.injEq] at hk
    rw [if_pos hk, show ch.length - 1 + 1 = ch.length by omega, List.getElem?_append_right (Nat.le_refl _)]
    simp
   ·rw [if_neg, List.getElem?_append_left (by omega)]
    ·exact h.ln i k hk
    ·rintro rfl
     obtain ⟨h1, h2⟩ := List.getElem?_eq_some_iff.1 hk
     obtain ⟨h3, h4⟩ := List.getElem?_eq_some_iff.1 hlast
     rcases Nat.lt_or_gt_of_ne e with h5 | h5
     ·exact List.pairwise_iff_getElem.1 h.nd i (ch.length - 1) h1 h3 h5 (h2.trans h4.symm)
     ·omega
  ·rw [List.getElem?_append_right hi] at hk
   have e : i - ch.length = 0 := by
    rcases Nat.eq_zero_or_pos (i - ch.length) with h1 | h1
    ·exact h1
    ·rw [List.getElem?_eq_none (by simp; omega)] at hk
     cases hk
   rw [e] at hk
   simp only [List.getElem?_cons_zero, Option.some.injEq] at hk
   subst hk
   rw [if_neg (fun e2 : t = n => hn (e2 ▸ hT)), hnn, List.getElem?_eq_none]
   simp
   omega
end
noncomputable section
variable {q : RQ} {ch : List Nat}
def Loose (c : RC) : Prop := c.kd = 1 ∧ c.ph ≠ 5
theorem Chain.help (h : Chain q ch) {t n : Nat} (hn : n ∈ ch) : Chain (q.help t n) ch := by
 unfold RQ.help
 split
 ·exact ⟨h.nd, h.lt, h.ln, h.hd, hn, h.z⟩
 ·exact h
theorem nx_help {t n k : Nat} : (q.help t n).nx k = q.nx k := by
 unfold RQ.help
 split <;> rfl
theorem Knows.help {c : RC} (h : Knows q ch c) {t n : Nat} : Knows (q.help t n) ch c :=
 ⟨h.H, h.T, h.n, fun hk => ⟨(h.new hk).1, fun hp => by
  obtain ⟨h1, h2, h3⟩ := (h.new hk).2 hp
  exact ⟨h1, by rw [help_len]; exact h2, by rw [nx_help]; exact h3⟩⟩⟩
theorem Knows.link {c : RC} (h : Knows q ch c) {t n : Nat} (hT : t ∈ ch) (ht : t < q.B.length) (hd : Loose c → c.new ≠ n) : Knows (q.link t n) (ch ++ [n]) c :=
 ⟨List.mem_append_left _ h.H, List.mem_append_left _ h.T, List.mem_append_left _ h.n, fun hk => ⟨fun hp => List.mem_append_left _ ((h.new hk).1 hp), fun hp => by
  obtain ⟨h1, h2, h3⟩ := (h.new hk).2 hp
  refine ⟨fun hm => ?_, by simpa [RQ.link] using h2, ?_⟩
  ·rcases List.mem_append.1 hm with hm | hm
   ·exact h1 hm
   ·rw [List.mem_singleton] at hm
    exact hd ⟨hk, hp⟩ hm
  ·rw [nx_link ht, if_neg (fun e2 : t = c.new => h1 (e2 ▸ hT))]
   exact h3⟩⟩
def Tgt (q : RQ) (ch : List Nat) : Prop := ∀ (k : Nat) (v : Int) (m : Nat), q.B[k]? = some (v, some m) → m ∈ ch
theorem Tgt.help (h : Tgt q ch) (t n : Nat) : Tgt (q.help t n) ch := by
 unfold RQ.help
 split <;> exact h
theorem Tgt.link (h : Tgt q ch) (t n : Nat) : Tgt (q.link t n) (ch ++ [n]) := by
 intro k v m hk
 simp only [RQ.link, List.getElem?_modify] at hk
 obtain ⟨y, hy, hy2⟩ := Option.map_eq_some_iff.1 hk
 split at hy2
 ·simp only [Prod.mk.injEq, Option.some.injEq] at hy2
  simp [hy2.2]
 ·subst hy2
  exact List.mem_append_left _ (h k v m hy)
structure Kept2 (q : RQ) (ch : List Nat) (c : RC) (q' : RQ) (ch' : List Nat) : Prop where
 kc : Chain q' ch'
 ko : ∀ d, Knows q ch d → (Loose c → Loose d → d.new ≠ c.new) → Knows q' ch' d
 kl : q'.B.length = q.B.length
 kt : Tgt q ch → Tgt q' ch'
theorem put_chain (h : Chain q ch) {c : RC} (hk : Knows q ch c) (hkd : c.kd = 1) (hph : 1 ≤ c.ph ∧ c.ph ≤ 5) : ∃ ch', Kept2 q ch c (q.put c).1 ch' ∧ ∀ c', (q.put c).2 = .inl c' → Knows (q.put c).1 ch' c' ∧ c'.kd = 1 ∧ c'.new = c.new ∧ (Loose c' → Loose c) := by
 obtain ⟨kd, ph, H, T, N, new⟩ := c
 simp only at hkd hph
 subst hkd
 have hself : Kept2 q ch ⟨1, ph, H, T, N, new⟩ q ch := ⟨h, fun d hd _ => hd, rfl, id⟩
 have hnew := hk.new rfl
 have hp : ph = 1 ∨ ph = 2 ∨ ph = 3 ∨ ph = 4 ∨ ph = 5 := by omega
 rcases hp with rfl | rfl | rfl | rfl | rfl
 ·refine ⟨ch, hself, fun c' e => ?_⟩
  simp only [RQ.put, Sum.inl.injEq] at e
  subst e
  exact ⟨⟨hk.H, h.tl, hk.n, fun _ => ⟨fun e => absurd e (by simp), fun _ => hnew.2 (by simp)⟩⟩, rfl, rfl, fun _ => ⟨rfl, by simp⟩⟩
 ·cases e1 : q.nx T with
  | none =>
   refine ⟨ch, by simpa only [RQ.put, e1] using hself, fun c' e => ?_⟩
   simp only [RQ.put, e1, Sum.inl.injEq] at e ⊢
   subst e
   exact ⟨⟨hk.H, hk.T, h.z, fun _ => ⟨fun e => absurd e (by simp), fun _ => hnew.2 (by simp)⟩⟩, rfl, rfl, fun _ => ⟨rfl, by simp⟩⟩
  | some n =>
   refine ⟨ch, by simpa only [RQ.put, e1] using hself, fun c' e => ?_⟩
   simp only [RQ.put, e1, Sum.inl.injEq] at e ⊢
   subst e
   exact ⟨⟨hk.H, hk.T, h.next hk.T e1, fun _ => ⟨fun e => absurd e (by simp), fun _ => hnew.2 (by simp)⟩⟩, rfl, rfl, fun _ => ⟨rfl, by simp⟩⟩
 ·refine ⟨ch, ⟨h.help hk.n, fun d hd _ => hd.help, help_len _ _ _, fun ht => ht.help _ _⟩, fun c' e => ?_⟩
  simp only [RQ.put, Sum.inl.injEq] at e
  subst e
  have := hk.help (t := T) (n := N.getD 0)
  exact ⟨⟨this.H, this.T, this.n, fun _ => ⟨fun e => absurd e (by simp), fun _ => (this.new rfl).2 (by simp)⟩⟩, rfl, rfl, fun _ => ⟨rfl, by simp⟩⟩
 ·cases e1 : q.nx T with
  | none =>
   obtain ⟨n1, n2, n3⟩ := hnew.2 (by simp)
   have hT : T < q.B.length := h.lt T hk.T
   refine ⟨ch ++ [new], by simp only [RQ.put, e1]; exact ⟨h.link hk.T e1 n1 n2 n3, fun d hd hne => hd.link hk.T hT (fun hl => hne ⟨rfl, by simp⟩ hl), by simp [RQ.link], fun ht => ht.link _ _⟩, fun c' e => ?_⟩
   simp only [RQ.put, e1, Sum.inl.injEq] at e ⊢
   subst e
   exact ⟨⟨List.mem_append_left _ hk.H, List.mem_append_left _ hk.T, List.mem_append_left _ hk.n, fun _ => ⟨fun _ => List.mem_append_right _ (by simp), fun e => absurd rfl e⟩⟩, rfl, rfl, fun hl => absurd rfl hl.2⟩
  | some n =>
   refine ⟨ch, by simpa only [RQ.put, e1] using hself, fun c' e => ?_⟩
   simp only [RQ.put, e1, Sum.inl.injEq] at e ⊢
   subst e
   exact ⟨⟨hk.H, hk.T, hk.n, fun _ => ⟨fun e => absurd e (by simp), fun _ => hnew.2 (by simp)⟩⟩, rfl, rfl, fun _ => ⟨rfl, by simp⟩⟩
 ·refine ⟨ch, ⟨h.help (hnew.1 rfl), fun d hd _ => hd.help, help_len _ _ _, fun ht => ht.help _ _⟩, fun c' e => ?_⟩
  simp only [RQ.put] at e
  cases e
end
noncomputable section
variable {q : RQ} {ch : List Nat}
theorem Chain.setHd (h : Chain q ch) {n : Nat} (hn : n ∈ ch) : Chain { q with hd := n } ch := ⟨h.nd, h.lt, h.ln, hn, h.tl, h.z⟩
theorem take_chain (h : Chain q ch) {c : RC} (hk : Knows q ch c) (hkd : c.kd ≠ 1) (hph : 1 ≤ c.ph ∧ c.ph ≤ 5) : Kept2 q ch c (q.take c).1 ch ∧ ∀ c', (q.take c).2 = .inl c' → Knows (q.take c).1 ch c' ∧ c'.kd = c.kd := by
 obtain ⟨kd, ph, H, T, N, new⟩ := c
 simp only at hkd hph
 have hself : Kept2 q ch ⟨kd, ph, H, T, N, new⟩ q ch := ⟨h, fun d hd _ => hd, rfl, id⟩
 have hp : ph = 1 ∨ ph = 2 ∨ ph = 3 ∨ ph = 4 ∨ ph = 5 := by omega
 rcases hp with rfl | rfl | rfl | rfl | rfl
 ·refine ⟨hself, fun c' e => ?_⟩
  simp only [RQ.take, Sum.inl.injEq] at e
  subst e
  exact ⟨⟨h.hd, hk.T, hk.n, fun e => absurd e hkd⟩, rfl⟩
 ·refine ⟨hself, fun c' e => ?_⟩
  simp only [RQ.take, Sum.inl.injEq] at e
  subst e
  exact ⟨⟨hk.H, h.tl, hk.n, fun e => absurd e hkd⟩, rfl⟩
 ·cases e1 : q.nx H with
  | none =>
   refine ⟨by simpa only [RQ.take, e1] using hself, fun c' e => ?_⟩
   simp only [RQ.take, e1] at e
   cases e
  | some n =>
   refine ⟨by simpa only [RQ.take, e1] using hself, fun c' e => ?_⟩
   simp only [RQ.take, e1, Sum.inl.injEq] at e ⊢
   subst e
   exact ⟨⟨hk.H, hk.T, h.next hk.H e1, fun e => absurd e hkd⟩, rfl⟩
 ·refine ⟨⟨h.help hk.n, fun d hd _ => hd.help, help_len _ _ _, fun ht => ht.help _ _⟩, fun c' e => ?_⟩
  simp only [RQ.take, Sum.inl.injEq] at e
  subst e
  exact ⟨⟨hk.H, hk.T, hk.n, fun e => absurd e hkd⟩, rfl⟩
 ·by_cases e1 : q.hd = H
  ·refine ⟨by simp only [RQ.take, if_pos e1]; exact ⟨h.setHd hk.n, fun d hd _ => ⟨hd.H, hd.T, hd.n, hd.new⟩, rfl, id⟩, fun c' e => ?_⟩
   simp only [RQ.take, if_pos e1] at e
   cases e
  ·refine ⟨by simpa only [RQ.take, if_neg e1] using hself, fun c' e => ?_⟩
   simp only [RQ.take, if_neg e1, Sum.inl.injEq] at e ⊢
   subst e
   exact ⟨⟨hk.H, hk.T, hk.n, fun e => absurd e hkd⟩, rfl⟩
end
noncomputable section
variable {q : RQ} {ch : List Nat}
structure CInv (q : RQ) (ch : List Nat) (c : RC) : Prop where
 kn : Knows q ch c
 ph : PhC c
 nw : c.kd ≠ 1 → c.new = 0
theorem CInv.vd {c : RC} (hc : Chain q ch) (h : CInv q ch c) : VdC q c := by
 refine ⟨hc.lt _ h.kn.H, hc.lt _ h.kn.T, fun n e => hc.lt _ ?_, ?_⟩
 ·have := h.kn.n
  simpa [RC.n, e] using this
 ·by_cases hk : c.kd = 1
  ·by_cases hp : c.ph = 5
   ·exact hc.lt _ ((h.kn.new hk).1 hp)
   ·exact ((h.kn.new hk).2 hp).2.1
  ·rw [h.nw hk]
   exact hc.lt _ hc.z
theorem wf_of (hc : Chain q ch) (ht : Tgt q ch) : WfQ q := ⟨hc.lt _ hc.hd, hc.lt _ hc.tl, fun k v n h => hc.lt _ (ht k v n h)⟩
def rcall : RR → Option RC
 | .inl c => some c
 | .inr _ => none
structure QMove (q : RQ) (ch : List Nat) (mine : Option RC) (q' : RQ) (ch' : List Nat) (mine' : Option RC) : Prop where
 kc : Chain q' ch'
 kt : Tgt q' ch'
 ko : ∀ d, CInv q ch d → (∀ c, mine = some c → Loose c → Loose d → d.new ≠ c.new) → CInv q' ch' d
 km : ∀ c', mine' = some c' → CInv q' ch' c'
 kl : ∀ c', mine' = some c' → Loose c' → ∀ d, CInv q ch d → Loose d → (∀ c, mine = some c → Loose c → d.new ≠ c.new) → d.new ≠ c'.new
theorem QMove.trans {m m' : Option RC} {q1 q2 : RQ} {ch1 ch2 : List Nat} (h : QMove q ch m q1 ch1 none) (k : QMove q1 ch1 none q2 ch2 m') : QMove q ch m q2 ch2 m' :=
 ⟨k.kc, k.kt, fun d hd hc => k.ko d (h.ko d hd fun c e lc ld => hc c e lc ld) (fun c e => by cases e), k.km, fun c' e hl d hd hld hc => k.kl c' e hl d (h.ko d hd fun c e lc _ => hc c e lc) hld (fun c e => by cases e)⟩
theorem QMove.refl {m : Option RC} (hc : Chain q ch) (ht : Tgt q ch) (hm : ∀ c, m = some c → CInv q ch c) : QMove q ch m q ch m :=
 ⟨hc, ht, fun d hd _ => hd, hm, fun c' e hl d hd hld h => h c' e hl⟩
theorem nx_grow (a : Int) (k : Nat) : RQ.nx { q with B := q.B ++ [(a, none)] } k = q.nx k := by
 unfold RQ.nx
 simp only
 rcases Nat.lt_or_ge k q.B.length with h | h
 ·rw [List.getElem?_append_left h]
 ·rw [List.getElem?_append_right h, List.getElem?_eq_none h]
  rcases Nat.eq_zero_or_pos (k - q.B.length) with e | e
  ·rw [e]; rfl
  ·rw [List.getElem?_eq_none (by simp; omega)]
theorem Chain.grow (h : Chain q ch) (a : Int) : Chain { q with B := q.B ++ [(a, none)] } ch :=
 ⟨h.nd, fun k hk => by have := h.lt k hk; simp; omega, fun i k hi => by rw [nx_grow]; exact h.ln i k hi, h.hd, h.tl, h.z⟩
theorem Tgt.grow (h : Tgt q ch) (a : Int) : Tgt { q with B := q.B ++ [(a, none)] } ch := by
 intro k v m hk
 simp only at hk
 rcases Nat.lt_or_ge k q.B.length with hl | hl
 ·rw [List.getElem?_append_left hl] at hk
  exact h k v m hk
 ·rw [List.getElem?_append_right hl] at hk
  rcases Nat.eq_zero_or_pos (k - q.B.length) with e | e
  ·rw [e] at hk; simp at hk
  ·rw [List.getElem?_eq_none (by simp; omega)] at hk
   cases hk
theorem CInv.grow {c : RC} (h : CInv q ch c) (a : Int) : CInv { q with B := q.B ++ [(a, none)] } ch c :=
 ⟨⟨h.kn.H, h.kn.T, h.kn.n, fun hk => ⟨(h.kn.new hk).1, fun hp => by
  obtain ⟨h1, h2, h3⟩ := (h.kn.new hk).2 hp
  exact ⟨h1, by simp; omega, by rw [nx_grow]; exact h3⟩⟩⟩, h.ph, h.nw⟩
theorem begin_move (hc : Chain q ch) (ht : Tgt q ch) (o : Op4) : QMove q ch none (q.begin o).1 ch (rcall (q.begin o).2) := by
 by_cases h1 : o.kd = 1
 ·simp only [RQ.begin, if_pos h1, rcall]
  refine ⟨hc.grow _, ht.grow _, fun d hd _ => hd.grow _, fun c' e => ?_, fun c' e hl d hd hld _ => ?_⟩
  ·cases e
   refine ⟨⟨hc.z, hc.z, hc.z, fun _ => ⟨fun h => absurd h (by simp), fun _ => ⟨fun h => ?_, by simp, ?_⟩⟩⟩, ⟨by simp, by simp, by simp, by simp, by simp, by simp⟩, fun h => absurd rfl h⟩
   ·have := hc.lt _ h
    simp at this
   ·rw [nx_grow]
    simp [RQ.nx]
  ·cases e
   have := ((hd.kn.new hld.1).2 hld.2).2.1
   simp
   omega
 ·have hq : (q.begin o).1 = q := by
   simp only [RQ.begin, if_neg h1]
   split
   ·rfl
   ·split <;> rfl
  rw [hq]
  refine ⟨hc, ht, fun d hd _ => hd, fun c' e => ?_, fun c' e hl d hd hld _ => ?_⟩
  ·simp only [RQ.begin, if_neg h1] at e
   split at e
   ·cases e
    exact ⟨⟨hc.z, hc.z, hc.z, fun h => absurd h (by simp)⟩, ⟨by simp, by simp, by simp, by simp, by simp, by simp⟩, fun _ => rfl⟩
   ·split at e
    ·cases e
     exact ⟨⟨hc.z, hc.z, hc.z, fun h => absurd h (by simp)⟩, ⟨by simp, by simp, by simp, by simp, by simp, by simp⟩, fun _ => rfl⟩
    ·cases e
  ·simp only [RQ.begin, if_neg h1] at e
   split at e
   ·cases e
    exact absurd hl.1 (by simp)
   ·split at e
    ·cases e
     exact absurd hl.1 (by simp)
    ·cases e
theorem PhC.step {c c' : RC} (h : PhC c) (e : (q.step c).2 = .inl c') : PhC c' ∧ c'.kd = c.kd ∧ c'.new = c.new := by
 obtain ⟨kd, ph, H, T, N, new⟩ := c
 obtain ⟨hkd, hlo, hhi, he, hn1, hn2⟩ := h
 simp only at hkd hlo hhi he hn1 hn2
 have hp : ph = 1 ∨ ph = 2 ∨ ph = 3 ∨ ph = 4 ∨ ph = 5 := by omega
 rcases hkd with rfl | rfl | rfl
 ·rcases hp with rfl | rfl | rfl | rfl | rfl
  ·simp only [RQ.step, RQ.put, Sum.inl.injEq] at e
   subst e
   exact ⟨⟨by simp, by simp, by simp, by simp, by simp, by simp⟩, rfl, rfl⟩
  ·simp only [RQ.step, RQ.put] at e
   split at e
   ·cases e
    exact ⟨⟨by simp, by simp, by simp, by simp, by simp, by simp⟩, rfl, rfl⟩
   ·cases e
    exact ⟨⟨by simp, by simp, by simp, by simp, by simp, by simp⟩, rfl, rfl⟩
  ·simp only [RQ.step, RQ.put, Sum.inl.injEq] at e
   subst e
   exact ⟨⟨by simp, by simp, by simp, by simp, by simp, by simp⟩, rfl, rfl⟩
  ·simp only [RQ.step, RQ.put] at e
   split at e
   ·cases e
    exact ⟨⟨by simp, by simp, by simp, by simp, by simp, by simp⟩, rfl, rfl⟩
   ·cases e
    exact ⟨⟨by simp, by simp, by simp, by simp, by simp, by simp⟩, rfl, rfl⟩
  ·simp only [RQ.step, RQ.put] at e
   cases e
 ·rcases hp with rfl | rfl | rfl | rfl | rfl
  ·simp only [RQ.step, RQ.take, Sum.inl.injEq] at e
   subst e
   exact ⟨⟨by simp, by simp, by simp, by simp, by simp, by simp⟩, rfl, rfl⟩
  ·simp only [RQ.step, RQ.take, Sum.inl.injEq] at e
   subst e
   exact ⟨⟨by simp, by simp, by simp, by simp, by simp, by simp⟩, rfl, rfl⟩
  ·simp only [RQ.step, RQ.take] at e
   split at e
   ·cases e
   ·cases e
    refine ⟨⟨by simp, ?_, ?_, by simp, by simp, by simp⟩, rfl, rfl⟩
    ·simp only; split <;> omega
    ·simp only; split <;> omega
  ·simp only [RQ.step, RQ.take, Sum.inl.injEq] at e
   subst e
   exact ⟨⟨by simp, by simp, by simp, by simp, by simp, by simp⟩, rfl, rfl⟩
  ·simp only [RQ.step, RQ.take] at e
   split at e
   ·cases e
   ·cases e
    exact ⟨⟨by simp, by simp, by simp, by simp, by simp, by simp⟩, rfl, rfl⟩
 ·have hp : ph = 1 ∨ ph = 2 := by have := he rfl; omega
  rcases hp with rfl | rfl
  ·simp only [RQ.step, RQ.emp, Sum.inl.injEq] at e
   subst e
   exact ⟨⟨by simp, by simp, by simp, by simp, by simp, by simp⟩, rfl, rfl⟩
  ·simp only [RQ.step, RQ.emp] at e
   split at e <;> cases e
theorem step_move {c : RC} (hc : Chain q ch) (ht : Tgt q ch) (h : CInv q ch c) : ∃ ch', QMove q ch (some c) (q.step c).1 ch' (rcall (q.step c).2) := by
 have hPh : ∀ c', (q.step c).2 = .inl c' → PhC c' ∧ c'.kd = c.kd ∧ c'.new = c.new := fun c' e => h.ph.step e
 have hin : ∀ {c' : RC}, rcall (q.step c).2 = some c' → (q.step c).2 = .inl c' := fun {c'} e => by
  cases hr : (q.step c).2 with
  | inl d => rw [hr] at e; simp only [rcall, Option.some.injEq] at e; rw [e]
  | inr a => rw [hr] at e; cases e
 have hlim : 1 ≤ c.ph ∧ c.ph ≤ 5 := ⟨h.ph.lo, h.ph.hi⟩
 by_cases h1 : c.kd = 1
 ·obtain ⟨ch', hk, hn⟩ := put_chain hc h.kn h1 hlim
  have hs : q.step c = q.put c := by simp [RQ.step, h1]
  rw [← hs] at hk hn
  refine ⟨ch', hk.kc, hk.kt ht, fun d hd hne => ⟨hk.ko d hd.kn fun a b => hne c rfl a b, hd.ph, hd.nw⟩, fun c' e => ?_, fun c' e hl d hd hld hne => ?_⟩
  ·obtain ⟨a1, a2, a3, a4⟩ := hn c' (hin e)
   exact ⟨a1, (hPh c' (hin e)).1, fun h => absurd a2 h⟩
  ·obtain ⟨a1, a2, a3, a4⟩ := hn c' (hin e)
   rw [a3]
   exact hne c rfl (a4 hl)
 ·have hnl : ¬ Loose c := fun h => h1 h.1
  have hmain : Kept2 q ch c (q.step c).1 ch ∧ ∀ c', (q.step c).2 = .inl c' → Knows (q.step c).1 ch c' ∧ c'.kd = c.kd := by
   rcases h.ph.kd with e | e | e
   ·exact absurd e h1
   ·have hs : q.step c = q.take c := by simp [RQ.step, e]
    rw [hs]
    exact take_chain hc h.kn h1 hlim
   ·have hs : q.step c = q.emp c := by simp [RQ.step, e]
    rw [hs]
    obtain ⟨kd, ph, H, T, N, new⟩ := c
    have hself : Kept2 q ch ⟨kd, ph, H, T, N, new⟩ q ch := ⟨hc, fun d hd _ => hd, rfl, id⟩
    have hp : ph = 1 ∨ ph = 2 := by have := h.ph.e e; have := h.ph.lo; simp only at *; omega
    have hk := h.kn
    rcases hp with rfl | rfl
    ·refine ⟨hself, fun c' e => ?_⟩
     simp only [RQ.emp, Sum.inl.injEq] at e
     subst e
     exact ⟨⟨hc.hd, hk.T, hk.n, fun e => absurd e h1⟩, rfl⟩
    ·simp only [RQ.emp]
     cases q.nx H with
     | none => exact ⟨hself, fun c' e => by cases e⟩
     | some n => exact ⟨hself, fun c' e => by cases e⟩
  obtain ⟨hk, hn⟩ := hmain
  refine ⟨ch, hk.kc, hk.kt ht, fun d hd _ => ⟨hk.ko d hd.kn fun a => absurd a hnl, hd.ph, hd.nw⟩, fun c' e => ?_, fun c' e hl => ?_⟩
  ·obtain ⟨a1, a2⟩ := hn c' (hin e)
   obtain ⟨b1, b2, b3⟩ := hPh c' (hin e)
   exact ⟨a1, b1, fun h' => by rw [b3]; exact h.nw h1⟩
  ·obtain ⟨b1, b2, b3⟩ := hPh c' (hin e)
   exact absurd (b2 ▸ hl.1) h1
theorem advL_move : ∀ (l : List Op4) (q : RQ) (ch : List Nat) (t : RT), Chain q ch → Tgt q ch → t.call = none → QMove q ch none (advL l q t).1 ch (advL l q t).2.call := by
 intro l
 induction l with
 | nil =>
  intro q ch t hc ht e
  have := QMove.refl (m := none) hc ht fun c e => by cases e
  simpa [advL, e] using this
 | cons o l ih =>
  intro q ch t hc ht e
  have hb := begin_move hc ht o
  simp only [advL]
  cases hr : q.begin o with
  | mk q' r =>
   rw [hr] at hb
   cases r with
   | inl c => exact hb
   | inr a => exact hb.trans (ih q' ch _ hb.kc hb.kt rfl)
theorem stpF_move {ops : List Op4} {t : RT} (hc : Chain q ch) (ht : Tgt q ch) (h : ∀ c, t.call = some c → CInv q ch c) : ∃ ch', QMove q ch t.call (stpF ops q t).1 ch' (stpF ops q t).2.call := by
 cases e : t.call with
 | none =>
  refine ⟨ch, ?_⟩
  have : stpF ops q t = (q, t) := by simp only [stpF, e]
  rw [this, e]
  exact QMove.refl hc ht fun c e => by cases e
 | some c =>
  obtain ⟨ch', hm⟩ := step_move hc ht (h c e)
  refine ⟨ch', ?_⟩
  simp only [stpF, e]
  cases hr : q.step c with
  | mk q' r =>
   rw [hr] at hm
   cases r with
   | inl c => exact hm
   | inr a => exact hm.trans (advL_move _ q' ch' _ hm.kc hm.kt rfl)
end
noncomputable section
variable {q : RQ} {ch : List Nat} {ops : Nat → List Op4} {n M L : Nat}
def begun (t : RT) : Nat := t.k + if t.call.isSome then 1 else 0
def sm (f : Nat → Nat) : Nat → Nat
 | 0 => 0
 | n + 1 => sm f n + f n
theorem sm_upd {f g : Nat → Nat} {i : Nat} (h : ∀ j, j ≠ i → g j = f j) : ∀ n, (n ≤ i → sm g n = sm f n) ∧ (i < n → sm g n + f i = sm f n + g i) := by
 intro n
 induction n with
 | zero => exact ⟨fun _ => rfl, fun h => by omega⟩
 | succ n ih =>
  simp only [sm]
  refine ⟨fun hi => ?_, fun hi => ?_⟩
  ·rw [ih.1 (by omega), h n (by omega)]
  ·rcases Nat.lt_or_ge i n with hl | hl
   ·have := ih.2 hl
    rw [h n (by omega)]
    omega
   ·obtain rfl : i = n := by omega
    rw [ih.1 hl]
    omega
theorem sm_le {f : Nat → Nat} {B : Nat} : ∀ n, (∀ j, j < n → f j ≤ B) → sm f n ≤ n * B := by
 intro n
 induction n with
 | zero => intro _; simp [sm]
 | succ n ih =>
  intro h
  have := ih fun j hj => h j (by omega)
  have := h n (by omega)
  simp only [sm, Nat.succ_mul]
  omega
theorem step_len (q : RQ) (c : RC) : (q.step c).1.B.length = q.B.length := by
 unfold RQ.step
 split
 ·unfold RQ.put
  split
  ·rfl
  ·split <;> rfl
  ·exact help_len _ _ _
  ·split
   ·simp [RQ.link]
   ·rfl
  ·exact help_len _ _ _
 ·unfold RQ.take
  split
  ·rfl
  ·rfl
  ·split <;> rfl
  ·exact help_len _ _ _
  ·split <;> rfl
 ·unfold RQ.emp
  split
  ·rfl
  ·split <;> rfl
theorem advL_len : ∀ (l : List Op4) (q : RQ) (t : RT), t.call = none → t.ans.length = t.k → begun (advL l q t).2 ≤ t.k + l.length ∧ (advL l q t).1.B.length + (t.k + l.length - begun (advL l q t).2) ≤ q.B.length + l.length ∧ (advL l q t).2.ans.length = (advL l q t).2.k ∧ q.B.length ≤ (advL l q t).1.B.length := by
 intro l
 induction l with
 | nil =>
  intro q t e ha
  simp [advL, begun, e, ha]
 | cons o l ih =>
  intro q t e ha
  have hb : (q.begin o).1.B.length ≤ q.B.length + 1 ∧ q.B.length ≤ (q.begin o).1.B.length := by
   unfold RQ.begin
   split
   ·simp
   ·split
    ·simp
    ·split <;> simp
  simp only [advL]
  cases hr : q.begin o with
  | mk q' r =>
   rw [hr] at hb
   simp only at hb
   cases r with
   | inl c =>
    simp only [begun, Option.isSome_some, if_true, List.length_cons, ha]
    refine ⟨by omega, by omega, trivial, hb.2⟩
   | inr a =>
    obtain ⟨h1, h2, h3, h4⟩ := ih q' ⟨t.k + 1, none, t.ans ++ [a]⟩ rfl (by simp [ha])
    simp only [List.length_cons] at h1 h2 h3 h4 ⊢
    refine ⟨by omega, by omega, h3, by omega⟩
theorem stpF_len {l : List Op4} {t : RT} (hb : begun t ≤ l.length) (ha : t.ans.length = t.k) : begun (stpF l q t).2 ≤ l.length ∧ (stpF l q t).1.B.length + (l.length - begun (stpF l q t).2) ≤ q.B.length + (l.length - begun t) ∧ (stpF l q t).2.ans.length = (stpF l q t).2.k := by
 cases e : t.call with
 | none =>
  have : stpF l q t = (q, t) := by simp only [stpF, e]
  rw [this]
  exact ⟨hb, Nat.le_refl _, ha⟩
 | some c =>
  have hl := step_len q c
  have hbt : begun t = t.k + 1 := by simp [begun, e]
  simp only [stpF, e]
  cases hr : q.step c with
  | mk q' r =>
   rw [hr] at hl
   simp only at hl
   cases r with
   | inl c' =>
    have : begun { t with call := some c' } = t.k + 1 := by simp [begun]
    simp only [this]
    exact ⟨by omega, by omega, ha⟩
   | inr a =>
    obtain ⟨h1, h2, h3, h4⟩ := advL_len (l.drop (t.k + 1)) q' ⟨t.k + 1, none, t.ans ++ [a]⟩ rfl (by simp [ha])
    rw [List.length_drop] at h1 h2
    simp only at h1 h2 h3 ⊢
    refine ⟨by omega, by omega, h3⟩
structure PInv (ops : Nat → List Op4) (n L : Nat) (s : PS) (ch : List Nat) : Prop where
 kc : Chain s.q ch
 kt : Tgt s.q ch
 ki : ∀ i c, (s.th i).call = some c → CInv s.q ch c
 kd : ∀ i j c d, i ≠ j → (s.th i).call = some c → (s.th j).call = some d → Loose c → Loose d → d.new ≠ c.new
 kb : ∀ i, i < n → begun (s.th i) ≤ (ops i).length
 ka : ∀ i, (s.th i).ans.length = (s.th i).k
 sz : s.q.B.length + sm (fun i => (ops i).length - begun (s.th i)) n ≤ L
theorem PInv.move {s : PS} (h : PInv ops n L s ch) {i : Nat} (hi : i < n) {q' : RQ} {t' : RT} {ch' : List Nat} (hm : QMove s.q ch (s.th i).call q' ch' t'.call) (hb : begun t' ≤ (ops i).length) (ha : t'.ans.length = t'.k)
  (hl : q'.B.length + ((ops i).length - begun t') ≤ s.q.B.length + ((ops i).length - begun (s.th i))) : PInv ops n L (s.put i (q', t')) ch' := by
 have e1 : (s.put i (q', t')).th i = t' := by simp [PS.put]
 have e2 : ∀ j, j ≠ i → (s.put i (q', t')).th j = s.th j := fun j hj => by simp [PS.put, hj]
 refine ⟨hm.kc, hm.kt, fun j d hd => ?_, fun a b c d hab hc hd lc ld => ?_, fun j hj => ?_, fun j => ?_, ?_⟩
 ·by_cases e : j = i
  ·rw [e, e1] at hd
   exact hm.km d hd
  ·rw [e2 j e] at hd
   exact hm.ko d (h.ki j d hd) fun c hc lc ld => h.kd i j c d (Ne.symm e) hc hd lc ld
 ·by_cases ea : a = i
  ·have eb : b ≠ i := fun e => hab (ea.trans e.symm)
   rw [ea, e1] at hc
   rw [e2 b eb] at hd
   exact hm.kl c hc lc d (h.ki b d hd) ld fun c0 hc0 lc0 => h.kd i b c0 d (Ne.symm eb) hc0 hd lc0 ld
  ·rw [e2 a ea] at hc
   by_cases eb : b = i
   ·rw [eb, e1] at hd
    exact Ne.symm (hm.kl d hd ld c (h.ki a c hc) lc fun c0 hc0 lc0 => h.kd i a c0 c (Ne.symm ea) hc0 hc lc0 lc)
   ·rw [e2 b eb] at hd
    exact h.kd a b c d hab hc hd lc ld
 ·by_cases e : j = i
  ·rw [e, e1]; exact hb
  ·rw [e2 j e]; exact h.kb j hj
 ·by_cases e : j = i
  ·rw [e, e1]; exact ha
  ·rw [e2 j e]; exact h.ka j
 ·have hs := h.sz
  have := (sm_upd (f := fun i => (ops i).length - begun (s.th i)) (g := fun j => (ops j).length - begun ((s.put i (q', t')).th j)) (i := i) (fun j hj => by simp only [e2 j hj]) n).2 hi
  simp only [e1] at this
  show q'.B.length + _ ≤ L
  omega
theorem PInv.turn {s : PS} (h : PInv ops n L s ch) {i : Nat} (hi : i < n) : ∃ ch', PInv ops n L (s.put i (stpF (ops i) s.q (s.th i))) ch' := by
 obtain ⟨ch', hm⟩ := stpF_move (ops := ops i) h.kc h.kt fun c e => h.ki i c e
 obtain ⟨h1, h2, h3⟩ := stpF_len (q := s.q) (h.kb i hi) (h.ka i)
 exact ⟨ch', h.move hi hm h1 h3 h2⟩
theorem PInv.born {s : PS} (h : PInv ops n L s ch) {i : Nat} (hi : i < n) (h0 : s.th i = ⟨0, none, []⟩) : PInv ops n L (s.put i (advL (ops i) s.q (s.th i))) ch := by
 obtain ⟨h1, h2, h3, _⟩ := advL_len (ops i) s.q (s.th i) (by rw [h0]) (by rw [h0]; rfl)
 have hk : (s.th i).k = 0 := by rw [h0]
 have hb : begun (s.th i) = 0 := by rw [h0]; rfl
 have hc : (s.th i).call = none := by rw [h0]
 refine h.move hi ?_ (by omega) h3 (by rw [hb]; omega)
 rw [hc]
 exact advL_move _ _ _ _ h.kc h.kt hc
theorem PInv.pTurn {s : PS × List Nat} (h : ∃ ch, PInv ops n L s.1 ch) (i : Int) : ∃ ch, PInv ops n L (pTurn ops n M s i).1 ch := by
 unfold Go.Proofs.Ytcejbandeikdjaa.pTurn
 split
 ·rename_i hc
  obtain ⟨ch, h⟩ := h
  exact h.turn (by omega)
 ·exact h
theorem PInv.pTurns : ∀ (l : List Int) (s : PS × List Nat), (∃ ch, PInv ops n L s.1 ch) → ∃ ch, PInv ops n L (pTurns ops n M l s).1 ch
 | [], s, h => h
 | i :: l, s, h => PInv.pTurns l _ (PInv.pTurn h i)
theorem PInv.pRounds : ∀ (f : Nat) (s : PS × List Nat), (∃ ch, PInv ops n L s.1 ch) → ∃ ch, PInv ops n L (pRounds ops n M f s).1 ch
 | 0, s, h => h
 | f + 1, s, h => by
  simp only [Go.Proofs.Ytcejbandeikdjaa.pRounds]
  split
  ·exact h
  ·exact PInv.pRounds f _ (PInv.pTurns _ _ h)
theorem pBorns_th (s : PS) : ∀ i j, i ≤ j → (pBorns ops i s).th j = s.th j := by
 intro i
 induction i with
 | zero => intro j _; rfl
 | succ i ih =>
  intro j hj
  simp only [pBorns, PS.put]
  rw [if_neg (by omega)]
  exact ih j (by omega)
theorem PInv.pBorns {s : PS} (h : PInv ops n L s ch) (h0 : ∀ j, s.th j = ⟨0, none, []⟩) : ∀ i, i ≤ n → PInv ops n L (pBorns ops i s) ch
 | 0, _ => h
 | i + 1, hi => (PInv.pBorns h h0 i (by omega)).born (by omega) (by rw [pBorns_th _ _ _ (Nat.le_refl _)]; exact h0 i)
theorem nx_new (vs : List Int) {k : Nat} (hk : k ≤ vs.length) : (newRQ vs).nx k = if k < vs.length then some (k + 1) else none := by
 unfold RQ.nx newRQ
 simp only [List.getElem?_map]
 rw [List.getElem?_range (by omega)]
 rfl
theorem PInv.q00 (vs : List Int) (ops : Nat → List Op4) (n : Nat) : PInv ops n (1 + vs.length + sm (fun i => (ops i).length) n) (q00 vs) (List.range (vs.length + 1)) := by
 have hl : (newRQ vs).B.length = vs.length + 1 := by simp [newRQ]
 refine ⟨⟨List.nodup_range, fun k hk => ?_, fun i k hk => ?_, ?_, ?_, ?_⟩, ?_, ?_, ?_, ?_, ?_, ?_⟩
 ·have := List.mem_range.1 hk
  show k < (newRQ vs).B.length
  omega
 ·obtain ⟨h1, h2⟩ := List.getElem?_eq_some_iff.1 hk
  simp only [List.length_range] at h1
  simp only [List.getElem_range] at h2
  subst h2
  show (newRQ vs).nx i = _
  rw [nx_new vs (by omega)]
  split
  ·rw [List.getElem?_range (by omega)]
  ·rw [List.getElem?_eq_none (by simp; omega)]
 ·exact List.mem_range.2 (by show 0 < _; omega)
 ·exact List.mem_range.2 (by show vs.length < _; omega)
 ·exact List.mem_range.2 (by omega)
 ·intro k v m hk
  show m ∈ List.range (vs.length + 1)
  simp only [Go.Proofs.Ytcejbandeikdjaa.q00, newRQ, List.getElem?_map, Option.map_eq_some_iff, Prod.mk.injEq] at hk
  obtain ⟨j, hj, _, e⟩ := hk
  split at e
  ·simp only [Option.some.injEq] at e
   exact List.mem_range.2 (by omega)
  ·cases e
 ·intro i c e; cases e
 ·intro i j c d _ e; cases e
 ·intro i _; exact Nat.zero_le _
 ·intro i; rfl
 ·show (newRQ vs).B.length + _ ≤ _
  rw [hl]
  have : (fun i => (ops i).length - begun ((Go.Proofs.Ytcejbandeikdjaa.q00 vs).th i)) = fun i => (ops i).length := by
   funext i; rfl
  rw [this]
  omega
theorem run_paths {vs : List Int} {S : List Int} {s : PS} {order : List Nat} (hlen : vs.length < 5000000) (hn : n ≤ 64) (hol : ∀ j, j < n → (ops j).length ≤ 65536) (h : ∃ k, ∀ f, k ≤ f → pOver ops n M S f (q00 vs) = (s, order)) :
  ∃ lb lv, Path s.q (s.q.nx s.q.tl) lb ∧ Path s.q (s.q.nx s.q.hd) lv ∧ lb.length < 10000000 ∧ lv.length < 10000000 := by
 obtain ⟨k, hk⟩ := h
 have e := hk k (Nat.le_refl _)
 obtain ⟨ch, hI⟩ := PInv.pRounds (M := M) k _ (PInv.pTurns (M := M) S (Go.Proofs.Ytcejbandeikdjaa.pBorns ops n (Go.Proofs.Ytcejbandeikdjaa.q00 vs), []) ⟨_, PInv.pBorns (PInv.q00 vs ops n) (fun j => rfl) n (Nat.le_refl _)⟩)
 have e2 : (Go.Proofs.Ytcejbandeikdjaa.pRounds ops n M k (Go.Proofs.Ytcejbandeikdjaa.pTurns ops n M S (Go.Proofs.Ytcejbandeikdjaa.pBorns ops n (Go.Proofs.Ytcejbandeikdjaa.q00 vs), []))) = (s, order) := e
 rw [e2] at hI
 have h1 := hI.kc.length
 have h2 := hI.sz
 have h3 := sm_le (f := fun i => (ops i).length) n hol
 have h4 : n * 65536 ≤ 64 * 65536 := Nat.mul_le_mul_right _ hn
 simp only at h1 h2
 obtain ⟨lb, hb, hb2⟩ := hI.kc.mem_path hI.kc.tl
 obtain ⟨lv, hv, hv2⟩ := hI.kc.mem_path hI.kc.hd
 exact ⟨lb, lv, hb, hv, by omega, by omega⟩
end
noncomputable section
def okS (n : Nat) (e : Nat → Bool) (x : Int) : Prop := 0 ≤ x ∧ x < n ∧ e x.toNat = false
def PickRel (S : List Int) (n : Nat) (e : Nat → Bool) (p0 r0 : Nat) (x p1 r1 : Nat) : Prop :=
 (∃ p, p0 ≤ p ∧ (∀ j y, p0 ≤ j → j < p → S[j]? = some y → ¬ okS n e y) ∧ S[p]? = some (x : Int) ∧ okS n e x ∧ p1 = p + 1 ∧ r1 = r0) ∨
 ((∀ j y, p0 ≤ j → S[j]? = some y → ¬ okS n e y) ∧ p1 = S.length ∧ ∃ r, r0 ≤ r ∧ (∀ j, r0 ≤ j → j < r → e (j % n) = true) ∧ e (r % n) = false ∧ x = r % n ∧ r1 = x + 1)
end
noncomputable section
variable {ops : Nat → List Op4} {n M : Nat} {S : List Int}
def endedOf (s : PS) (j : Nat) : Bool := !s.live j
theorem pTurn_dead {s : PS × List Nat} {y : Int} (h : ¬ okS n (endedOf s.1) y) : pTurn ops n M s y = s := by
 unfold pTurn
 rw [if_neg]
 rintro ⟨h1, h2, h3, _⟩
 exact h ⟨h1, h2, by simp [endedOf, h3]⟩
theorem pTurns_dead : ∀ (l : List Int) (s : PS × List Nat), (∀ y, y ∈ l → ¬ okS n (endedOf s.1) y) → pTurns ops n M l s = s
 | [], s, _ => rfl
 | y :: l, s, h => by
  simp only [pTurns]
  rw [pTurn_dead (h y (by simp))]
  exact pTurns_dead l s fun y hy => h y (by simp [hy])
theorem pTurns_app : ∀ (l m : List Int) (s : PS × List Nat), pTurns ops n M (l ++ m) s = pTurns ops n M m (pTurns ops n M l s)
 | [], m, s => rfl
 | y :: l, m, s => by
  simp only [pTurns, List.cons_append]
  exact pTurns_app l m _
theorem pTurn_go {s : PS × List Nat} {x : Nat} (h : okS n (endedOf s.1) x) (hM : s.2.length ≠ M) : pTurn ops n M s x = (s.1.put x (stpF (ops x) s.1.q (s.1.th x)), s.2 ++ [x]) := by
 unfold pTurn
 obtain ⟨h1, h2, h3⟩ := h
 simp only [Int.toNat_natCast, endedOf, Bool.not_eq_false'] at h3
 rw [if_pos ⟨h1, h2, by simpa using h3, hM⟩]
 simp
theorem pTurns_full {s : PS × List Nat} (hM : s.2.length = M) : ∀ (l : List Int), pTurns ops n M l s = s
 | [] => rfl
 | y :: l => by
  simp only [pTurns]
  have : pTurn ops n M s y = s := by unfold pTurn; rw [if_neg]; rintro ⟨_, _, _, h⟩; exact h hM
  rw [this]
  exact pTurns_full hM l
def rngI (n : Nat) : List Int := (List.range n).map fun j : Nat => (j : Int)
def RefI (ops : Nat → List Op4) (n M : Nat) (S : List Int) (s0 : PS) (s : PS) (order : List Nat) (p rd : Nat) : Prop :=
 ∃ rest k, (∀ f, k ≤ f → pOver ops n M S f s0 = pRounds ops n M (f - k) (pTurns ops n M rest (s, order))) ∧ ((rest = S.drop p ∧ rd = 0) ∨ (p = S.length ∧ rest = (rngI n).drop rd))
theorem split_at {l : List Int} {p r : Nat} {x : Int} (h1 : p ≤ r) (h : l[r]? = some x) : l.drop p = (l.drop p).take (r - p) ++ x :: l.drop (r + 1) := by
 obtain ⟨hl, e⟩ := List.getElem?_eq_some_iff.1 h
 have h2 : (l.drop p).drop (r - p) = x :: l.drop (r + 1) := by
  rw [List.drop_drop, show p + (r - p) = r by omega, List.drop_eq_getElem_cons hl, e]
 rw [← h2, List.take_append_drop]
theorem mem_mid {l : List Int} {p r : Nat} {y : Int} (h : y ∈ (l.drop p).take (r - p)) : ∃ j, p ≤ j ∧ j < r ∧ l[j]? = some y := by
 obtain ⟨i, hi, e⟩ := List.mem_iff_getElem.1 h
 simp only [List.length_take, List.length_drop] at hi
 rw [List.getElem_take, List.getElem_drop] at e
 exact ⟨p + i, by omega, by omega, by rw [List.getElem?_eq_getElem (by omega), e]⟩
theorem rng_get {j : Nat} (h : j < n) : (rngI n)[j]? = some (j : Int) := by
 unfold rngI
 rw [List.getElem?_map, List.getElem?_range h]
 rfl
theorem turns_to {s : PS × List Nat} {l : List Int} {p r x : Nat} (h1 : p ≤ r) (h : l[r]? = some (x : Int)) (hd : ∀ j y, p ≤ j → j < r → l[j]? = some y → ¬ okS n (endedOf s.1) y) (hx : okS n (endedOf s.1) x) (hM : s.2.length ≠ M) :
  pTurns ops n M (l.drop p) s = pTurns ops n M (l.drop (r + 1)) (s.1.put x (stpF (ops x) s.1.q (s.1.th x)), s.2 ++ [x]) := by
 have e : pTurns ops n M ((l.drop p).take (r - p)) s = s := pTurns_dead _ _ fun y hy => by
  obtain ⟨j, a, b, c⟩ := mem_mid hy
  exact hd j y a b c
 rw [split_at h1 h, pTurns_app, e]
 simp only [pTurns]
 rw [pTurn_go hx hM]
theorem rounds_go {s : PS × List Nat} (hd : ¬ pDone n M s) {f : Nat} (hf : 0 < f) : pRounds ops n M f s = pRounds ops n M (f - 1) (pTurns ops n M (rngI n) s) := by
 obtain ⟨f, rfl⟩ : ∃ k, f = k + 1 := ⟨f - 1, by omega⟩
 simp only [pRounds, if_neg hd]
 rfl
theorem refI_pick {s0 s : PS} {order : List Nat} {p rd x p1 r1 : Nat} (h : RefI ops n M S s0 s order p rd) (hp : PickRel S n (endedOf s) p rd x p1 r1) (hM : order.length ≠ M) (hM2 : order.length ≤ M) (hrd : rd ≤ n) (hn : 0 < n) :
  RefI ops n M S s0 (s.put x (stpF (ops x) s.q (s.th x))) (order ++ [x]) p1 r1 ∧ okS n (endedOf s) x ∧ p1 ≤ S.length ∧ r1 ≤ n := by
 obtain ⟨rest, k, hk, hc⟩ := h
 have hdead : ∀ r, rd ≤ r → (∀ j, rd ≤ j → j < r → endedOf s (j % n) = true) → ∀ (a b c : Nat) (y : Int), rd ≤ a + c → (a + c) % n = a % n → a < n → a + c < r → (rngI n)[a]? = some y → ¬ okS n (endedOf s) y := by
  intro r h1 h2 a b c y hac hm hlt har hy
  rw [rng_get hlt] at hy
  cases hy
  rintro ⟨_, _, h3⟩
  have := h2 (a + c) hac har
  rw [hm, Nat.mod_eq_of_lt hlt] at this
  simp only [Int.toNat_natCast] at h3
  rw [this] at h3
  cases h3
 rcases hp with ⟨p', a1, a2, a3, a4, rfl, rfl⟩ | ⟨a1, rfl, r, b1, b2, b3, rfl, rfl⟩
 ·have hlt := (List.getElem?_eq_some_iff.1 a3).1
  rcases hc with ⟨rfl, rfl⟩ | ⟨rfl, rfl⟩
  ·refine ⟨⟨S.drop (p' + 1), k, fun f hf => ?_, .inl ⟨rfl, rfl⟩⟩, a4, hlt, hrd⟩
   rw [hk f hf, turns_to (s := (s, order)) a1 a3 a2 a4 hM]
  ·omega
 ·have hxn : r % n < n := Nat.mod_lt _ hn
  have hok : okS n (endedOf s) (r % n : Nat) := ⟨by omega, by omega, by rw [Int.toNat_natCast]; exact b3⟩
  have hnd : ¬ pDone n M (s, order) := by
   rintro (h | h)
   ·have := (cnt_zero.1 h) _ hxn
    simp only [endedOf, Bool.not_eq_false'] at b3
    rw [this] at b3
    cases b3
   ·simp only at h
    omega
  have pass : ∀ c, rd ≤ c → r < c + n → c ≤ r → c % n = 0 → pTurns ops n M (rngI n) (s, order) = pTurns ops n M ((rngI n).drop (r % n + 1)) (s.put (r % n) (stpF (ops (r % n)) s.q (s.th (r % n))), order ++ [r % n]) := by
   intro c h1 h2 h3 h4
   have hr : r % n = r - c := by
    have e : r = (r - c) + c := by omega
    rw [e, Nat.add_mod, h4, Nat.add_zero, Nat.mod_mod, Nat.mod_eq_of_lt (show r - c < n by omega)]
    omega
   have := turns_to (ops := ops) (M := M) (s := (s, order)) (l := rngI n) (p := 0) (r := r % n) (x := r % n) (Nat.zero_le _) (rng_get hxn) (fun j y _ hj hy => hdead r b1 b2 j 0 c y (by omega) (by rw [Nat.add_mod, h4, Nat.add_zero, Nat.mod_mod]) (by omega) (by omega) hy) hok hM
   rw [List.drop_zero] at this
   exact this
  have hlim : r < rd + n := by
   rcases Nat.lt_or_ge r (rd + n) with h | h
   ·exact h
   ·have := b2 (r - n) (by omega) (by omega)
    have e : (r - n) % n = r % n := by
     have : r = (r - n) + n := by omega
     conv => rhs; rw [this, Nat.add_mod_right]
    rw [e, b3] at this
    cases this
  refine ⟨?_, hok, Nat.le_refl _, hxn⟩
  rcases hc with ⟨rfl, rfl⟩ | ⟨rfl, rfl⟩
  ·have e1 : pTurns ops n M (S.drop p) (s, order) = (s, order) := pTurns_dead _ _ fun y hy => by
    obtain ⟨j, hj, e⟩ := List.mem_iff_getElem.1 hy
    simp only [List.length_drop] at hj
    rw [List.getElem_drop] at e
    exact a1 (p + j) y (by omega) (by rw [List.getElem?_eq_getElem (by omega), e])
   refine ⟨(rngI n).drop (r % n + 1), k + 1, fun f hf => ?_, .inr ⟨rfl, rfl⟩⟩
   rw [hk f (by omega), e1, rounds_go hnd (by omega), pass 0 (by omega) (by omega) (by omega) (Nat.zero_mod _), Nat.sub_sub]
  ·rcases Nat.lt_or_ge r n with hr | hr
   ·have e2 : r % n = r := Nat.mod_eq_of_lt hr
    refine ⟨(rngI n).drop (r % n + 1), k, fun f hf => ?_, .inr ⟨rfl, rfl⟩⟩
    rw [hk f hf]
    congr 1
    rw [e2] at hok ⊢
    exact turns_to (s := (s, order)) b1 (rng_get hr) (fun j y h1 h2 hy => hdead r b1 b2 j 0 0 y (by omega) rfl (by omega) (by omega) hy) hok hM
   ·have e1 : pTurns ops n M ((rngI n).drop rd) (s, order) = (s, order) := pTurns_dead _ _ fun y hy => by
     obtain ⟨j, hj, e⟩ := List.mem_iff_getElem.1 hy
     have hl : (rngI n).length = n := by simp [rngI]
     simp only [List.length_drop, hl] at hj
     rw [List.getElem_drop] at e
     exact hdead r b1 b2 (rd + j) 0 0 y (by omega) rfl (by omega) (by omega) (by rw [List.getElem?_eq_getElem (by omega), e])
    refine ⟨(rngI n).drop (r % n + 1), k + 1, fun f hf => ?_, .inr ⟨rfl, rfl⟩⟩
    rw [hk f (by omega), e1, rounds_go hnd (by omega), pass n (by omega) (by omega) hr (Nat.mod_self n), Nat.sub_sub]
theorem refI_end {s0 s : PS} {order : List Nat} {p rd : Nat} (h : RefI ops n M S s0 s order p rd) (hd : cnt s.live n = 0 ∨ order.length = M) : ∃ k, ∀ f, k ≤ f → pOver ops n M S f s0 = (s, order) := by
 obtain ⟨rest, k, hk, _⟩ := h
 refine ⟨k, fun f hf => ?_⟩
 rw [hk f hf]
 have e : pTurns ops n M rest (s, order) = (s, order) := by
  rcases hd with h | h
  ·refine pTurns_dead _ _ fun y _ => ?_
   rintro ⟨h1, h2, h3⟩
   have := (cnt_zero.1 h) y.toNat (by omega)
   simp only [endedOf] at h3
   rw [this] at h3
   cases h3
  ·exact pTurns_full h _
 rw [e]
 refine pRounds_done ?_ _
 rcases hd with h | h
 ·exact .inl h
 ·exact .inr (by simp only; omega)
theorem refI_start (s0 : PS) : RefI ops n M S s0 (pBorns ops n s0) [] 0 0 := ⟨S, 0, fun f _ => rfl, .inl ⟨rfl, rfl⟩⟩
end
noncomputable section
variable {W wr w' : World} {ops : Nat → List Op4} {oa : Nat → Option Addr} {ol oc : Nat → Nat} {i k rq bb bc : Nat} {s : PS} {tbs : Nat → Nat} {ovs : Nat → Value} {lv ev : Value} {ee : Nat → Bool}
theorem stpF_next {l : List Op4} {q : RQ} {t : RT} {c : RC} (hc : t.call = some c) : stpF l q t = nextF l (q.step c).1 t.k t.ans (rst (q.step c).2) := by
 simp only [stpF, hc]
 cases hr : q.step c with
 | mk q' r =>
  cases r with
  | inl c' => rfl
  | inr a => rfl
theorem advL_next (l : List Op4) (q : RQ) : advL l q ⟨0, none, []⟩ = nextF l q 0 [] .nil := by
 simp only [nextF, List.drop_zero]
structure RPl (W : World) (oa : Nat → Option Addr) (ol oc : Nat → Nat) (i : Nat) (s : PS) (rq bb bc : Nat) (tbs : Nat → Nat) (ovs : Nat → Value) (wr : World) : Prop where
 size : W.heap.size ≤ wr.heap.size
 old : ∀ r, r < W.heap.size → wr.heap[r]? = W.heap[r]?
 q : RefQ wr rq bb bc s.q
 t : ∀ j, j < i → TMem wr (tbs j) (oa j) (ol j) (oc j) (s.th j).k (cst (s.th j).call) (s.th j).ans (ovs j)
 dt : ∀ a b, a < i → b < i → a ≠ b → tbs a ≠ tbs b
 dc : ∀ a b cb, a < i → b < i → a ≠ b → wr.cell? ⟨tbs a, 2, none⟩ = some (.pointer (some ⟨cb, 0, none⟩)) → wr.cell? ⟨tbs b, 2, none⟩ ≠ some (.pointer (some ⟨cb, 0, none⟩))
 dv : ∀ a b g, a < i → b < i → a ≠ b → (ovs a).ownBlock = some g → (ovs b).ownBlock ≠ some g
 nq : W.heap.size ≤ rq
 nb : W.heap.size ≤ bb
 nt : ∀ j, j < i → W.heap.size ≤ tbs j
 nc : ∀ j cb, j < i → wr.cell? ⟨tbs j, 2, none⟩ = some (.pointer (some ⟨cb, 0, none⟩)) → W.heap.size ≤ cb
 nv : ∀ j g, j < i → (ovs j).ownBlock = some g → W.heap.size ≤ g
theorem TMem.tlt {w : World} {tb : Nat} {oa : Option Addr} {ol oc k : Nat} {s : CSt} {ans : List (Bool × Int)} {ov : Value} (h : TMem w tb oa ol oc k s ans ov) : tb < w.heap.size := by
 obtain ⟨⟨cp, h1, _⟩, _⟩ := h
 exact (Array.getElem?_eq_some_iff.1 h1).1
theorem TMem.ty {w : World} {tb b : Nat} {oa : Option Addr} {ol oc k : Nat} {s : CSt} {ans : List (Bool × Int)} {ov : Value} {c : Array Value} {e : TypeId} {z : Nat × Nat} (h : TMem w tb oa ol oc k s ans ov) (hb : w.heap[b]? = some (.cells c e z)) (he : e ≠ 95) : b ≠ tb := by
 rintro rfl
 obtain ⟨⟨cp, h1, _⟩, _⟩ := h
 rw [hb] at h1
 simp only [Option.some.injEq, Obj.cells.injEq] at h1
 exact he h1.2.1
theorem CAt.ty {w : World} {cb b : Nat} {s : CSt} {c : Array Value} {e : TypeId} {z : Nat × Nat} (h : CAt w (some ⟨cb, 0, none⟩) s) (hb : w.heap[b]? = some (.cells c e z)) (he : e ≠ 48) : b ≠ cb := by
 rintro rfl
 cases s with
 | nil => cases h
 | live c =>
  obtain ⟨cb, h1, h2⟩ := h
  cases h1
  rw [hb] at h2
  simp only [Option.some.injEq, Obj.cells.injEq] at h2
  exact he h2.2.1
 | fin a =>
  obtain ⟨cb, k, c, h1, h2⟩ := h
  cases h1
  rw [hb] at h2
  simp only [Option.some.injEq, Obj.cells.injEq] at h2
  exact he h2.2.1
theorem CAt.is {w : World} {cp : Option Addr} {s : CSt} (h : CAt w cp s) : cp = none ∨ ∃ cb c, cp = some ⟨cb, 0, none⟩ ∧ w.heap[cb]? = some (.cells c 48 (0, 0)) := by
 cases s with
 | nil => exact .inl h
 | live c => obtain ⟨cb, h1, h2⟩ := h; exact .inr ⟨cb, _, h1, h2⟩
 | fin a => obtain ⟨cb, k, c, h1, h2⟩ := h; exact .inr ⟨cb, _, h1, h2⟩
theorem CAt.same {w w' : World} {cp : Option Addr} {s : CSt} (h : CAt w cp s) (e : ∀ cb, cp = some ⟨cb, 0, none⟩ → w'.heap[cb]? = w.heap[cb]?) : CAt w' cp s := by
 cases s with
 | nil => exact h
 | live c => obtain ⟨cb, h1, h2⟩ := h; exact ⟨cb, h1, (e cb h1).trans h2⟩
 | fin a => obtain ⟨cb, k, c, h1, h2⟩ := h; exact ⟨cb, k, c, h1, (e cb h1).trans h2⟩
theorem own_row_ty {w : World} {e : TypeId} {sz n : Nat} {v : Value} {xs : List Value} {g : Nat} (h : w.ownsRow 0 e sz v n xs) (hg : v.ownBlock = some g) : ∃ c, w.heap[g]? = some (.cells c e (0, 0)) := by
 rcases h.2 with ⟨rfl, _⟩ | ⟨b, cap, cur, rfl, _, h3, _⟩
 ·cases hg
 ·cases hg
  exact ⟨_, h3⟩
theorem heap_ty {w : World} {a b : Nat} {c d : Array Value} {e f : TypeId} {y z : Nat × Nat} (h : w.heap[a]? = some (.cells c e y)) (k : w.heap[b]? = some (.cells d f z)) (he : e ≠ f) : a ≠ b := by
 rintro rfl
 rw [h] at k
 simp only [Option.some.injEq, Obj.cells.injEq] at k
 exact he k.2.1
theorem RPl.keep (h : RPl W oa ol oc i s rq bb bc tbs ovs wr) {x : Nat} (hx : x < i)
  (hold : ∀ r, r < wr.heap.size → r ≠ rq → r ≠ tbs x → r ≠ bb → (∀ cb, wr.cell? ⟨tbs x, 2, none⟩ = some (.pointer (some ⟨cb, 0, none⟩)) → r ≠ cb) → some r ≠ (ovs x).ownBlock → w'.heap[r]? = wr.heap[r]?)
  (r : Nat) (c : Array Value) (e : TypeId) (z : Nat × Nat) (hr : wr.heap[r]? = some (.cells c e z)) (h1 : e ≠ 112) (h2 : e ≠ 109) (h3 : e = 95 → r ≠ tbs x) (h4 : e = 48 → ∀ cb, wr.cell? ⟨tbs x, 2, none⟩ = some (.pointer (some ⟨cb, 0, none⟩)) → r ≠ cb) (h5 : e = 46 → some r ≠ (ovs x).ownBlock) : w'.heap[r]? = wr.heap[r]? := by
 obtain ⟨cur, hb1, _⟩ := h.q.b
 obtain ⟨⟨cpx, htx, hcx⟩, hrx⟩ := h.t x hx
 have htx2 : wr.cell? ⟨tbs x, 2, none⟩ = some (.pointer cpx) := by simp [World.cell?, htx]
 refine hold r (Array.getElem?_eq_some_iff.1 hr).1 (heap_ty hr h.q.o h1) ?_ (heap_ty hr hb1 h2) (fun cb hcb => ?_) (fun he => ?_)
 ·by_cases e1 : e = 95
  ·exact h3 e1
  ·exact heap_ty hr htx e1
 ·by_cases e1 : e = 48
  ·exact h4 e1 cb hcb
  ·rcases hcx.is with e2 | ⟨cb2, c2, e2, hc2⟩
   ·rw [htx2, e2] at hcb; simp at hcb
   ·rw [htx2, e2] at hcb
    simp only [Option.some.injEq, Value.pointer.injEq, Addr.mk.injEq, and_true] at hcb
    subst hcb
    exact heap_ty hr hc2 e1
 ·by_cases e1 : e = 46
  ·exact h5 e1 he
  ·obtain ⟨c2, hc2⟩ := own_row_ty hrx he.symm
   exact heap_ty hr hc2 e1 rfl
theorem RPl.go (h : RPl W oa ol oc i s rq bb bc tbs ovs wr) {x : Nat} (hx : x < i) {q' : RQ} {t' : RT} {ov' : Value} {bb' bc' : Nat} (hs : wr.heap.size ≤ w'.heap.size)
  (hold : ∀ r, r < wr.heap.size → r ≠ rq → r ≠ tbs x → r ≠ bb → (∀ cb, wr.cell? ⟨tbs x, 2, none⟩ = some (.pointer (some ⟨cb, 0, none⟩)) → r ≠ cb) → some r ≠ (ovs x).ownBlock → w'.heap[r]? = wr.heap[r]?)
  (hQ : RefQ w' rq bb' bc' q') (hT : TMem w' (tbs x) (oa x) (ol x) (oc x) t'.k (cst t'.call) t'.ans ov') (hfb : bb' = bb ∨ wr.heap.size ≤ bb') (hfo : ov'.ownBlock = (ovs x).ownBlock ∨ ∃ g, ov'.ownBlock = some g ∧ wr.heap.size ≤ g)
  (hcp : ∀ cb, w'.cell? ⟨tbs x, 2, none⟩ = some (.pointer (some ⟨cb, 0, none⟩)) → wr.cell? ⟨tbs x, 2, none⟩ = some (.pointer (some ⟨cb, 0, none⟩)) ∨ wr.heap.size ≤ cb) :
  RPl W oa ol oc i (s.put x (q', t')) rq bb' bc' tbs (fun j => if j = x then ov' else ovs j) w' := by
 have hsz := h.size
 obtain ⟨cur, hb1, _⟩ := h.q.b
 have hx0 := h.t x hx
 obtain ⟨⟨cpx, htx, hcx⟩, hrx⟩ := hx0
 have htx2 : wr.cell? ⟨tbs x, 2, none⟩ = some (.pointer cpx) := by simp [World.cell?, htx]
 have keep := h.keep hx hold
 have hoth : ∀ j, j < i → j ≠ x → w'.heap[tbs j]? = wr.heap[tbs j]? := fun j hj hne => by
  obtain ⟨⟨cp, h1, _⟩, _⟩ := h.t j hj
  exact keep _ _ _ _ h1 (by decide) (by decide) (fun _ => h.dt j x hj hx hne) (fun e => absurd e (by decide)) (fun e => absurd e (by decide))
 have hcell : ∀ j, j < i → j ≠ x → w'.cell? ⟨tbs j, 2, none⟩ = wr.cell? ⟨tbs j, 2, none⟩ := fun j hj hne => by simp only [World.cell?, hoth j hj hne]
 have e1 : (s.put x (q', t')).th x = t' := by simp [PS.put]
 have e2 : ∀ j, j ≠ x → (s.put x (q', t')).th j = s.th j := fun j hj => by simp [PS.put, hj]
 have hcblt : ∀ j cb, j < i → wr.cell? ⟨tbs j, 2, none⟩ = some (.pointer (some ⟨cb, 0, none⟩)) → cb < wr.heap.size := fun j cb hj hcb => by
  obtain ⟨⟨cp, h1, h2⟩, _⟩ := h.t j hj
  have : wr.cell? ⟨tbs j, 2, none⟩ = some (.pointer cp) := by simp [World.cell?, h1]
  rw [this] at hcb
  simp only [Option.some.injEq, Value.pointer.injEq] at hcb
  subst hcb
  rcases h2.is with e | ⟨cb2, c2, e, hc2⟩
  ·cases e
  ·cases e
   exact (Array.getElem?_eq_some_iff.1 hc2).1
 have hvlt : ∀ j g, j < i → (ovs j).ownBlock = some g → g < wr.heap.size := fun j g hj hg => by
  obtain ⟨c, hc⟩ := own_row_ty (h.t j hj).row hg
  exact (Array.getElem?_eq_some_iff.1 hc).1
 refine ⟨by omega, fun r hr => ?_, hQ, fun j hj => ?_, h.dt, fun a b cb ha hb hab hc => ?_, fun a b g ha hb hab hg => ?_, h.nq, ?_, h.nt, fun j cb hj hc => ?_, fun j g hj hg => ?_⟩
 ·refine (hold r (by omega) (by have := h.nq; omega) (by have := h.nt x hx; omega) (by have := h.nb; omega) (fun cb hcb => by have := h.nc x cb hx hcb; omega) (fun he => by have := h.nv x r hx he.symm; omega)).trans (h.old r hr)
 ·by_cases e : j = x
  ·subst e
   simp only [e1, if_true]
   exact hT
  ·simp only [e2 j e, if_neg e]
   obtain ⟨⟨cp, h1, h2⟩, h3⟩ := h.t j hj
   have hj2 : wr.cell? ⟨tbs j, 2, none⟩ = some (.pointer cp) := by simp [World.cell?, h1]
   refine ⟨⟨cp, (hoth j hj e).trans h1, h2.same fun cb hcb => ?_⟩, ownsRow_same2 h3 fun b hb _ => ?_⟩
   ·subst hcb
    rcases h2.is with e3 | ⟨cb2, c2, e3, hc2⟩
    ·cases e3
    ·cases e3
     exact keep _ _ _ _ hc2 (by decide) (by decide) (fun e => absurd e (by decide)) (fun _ cb' hcb' h' => by subst h'; exact h.dc j x cb hj hx e hj2 hcb') (fun e => absurd e (by decide))
   ·obtain ⟨c2, hc2⟩ := own_row_ty h3 hb
    exact keep _ _ _ _ hc2 (by decide) (by decide) (fun e => absurd e (by decide)) (fun e => absurd e (by decide)) (fun _ he => h.dv j x b hj hx e hb he.symm)
 ·by_cases ea : a = x
  ·subst ea
   have eb : b ≠ a := Ne.symm hab
   rw [hcell b hb eb]
   intro hcb
   rcases hcp cb hc with h1 | h1
   ·exact h.dc a b cb ha hb hab h1 hcb
   ·have := hcblt b cb hb hcb; omega
  ·rw [hcell a ha ea] at hc
   by_cases eb : b = x
   ·subst eb
    intro hcb
    rcases hcp cb hcb with h1 | h1
    ·exact h.dc a b cb ha hb hab hc h1
    ·have := hcblt a cb ha hc; omega
   ·rw [hcell b hb eb]
    exact h.dc a b cb ha hb hab hc
 ·by_cases ea : a = x
  ·subst ea
   have eb : b ≠ a := Ne.symm hab
   simp only [if_true, if_neg eb] at hg ⊢
   intro hgb
   rcases hfo with h1 | ⟨g', h1, h2⟩
   ·exact h.dv a b g ha hb hab (h1 ▸ hg) hgb
   ·rw [h1] at hg; cases hg
    have := hvlt b _ hb hgb; omega
  ·simp only [if_neg ea] at hg
   by_cases eb : b = x
   ·subst eb
    simp only [if_true]
    intro hgb
    rcases hfo with h1 | ⟨g', h1, h2⟩
    ·exact h.dv a b g ha hb hab hg (h1 ▸ hgb)
    ·rw [h1] at hgb; cases hgb
     have := hvlt a _ ha hg; omega
   ·simp only [if_neg eb]
    exact h.dv a b g ha hb hab hg
 ·have := h.nb
  rcases hfb with e | e <;> omega
 ·by_cases e : j = x
  ·subst e
   rcases hcp cb hc with h1 | h1
   ·exact h.nc j cb hj h1
   ·omega
  ·rw [hcell j hj e] at hc
   exact h.nc j cb hj hc
 ·by_cases e : j = x
  ·subst e
   simp only [if_true] at hg
   rcases hfo with h1 | ⟨g', h1, h2⟩
   ·exact h.nv j g hj (h1 ▸ hg)
   ·rw [h1] at hg; cases hg; omega
  ·simp only [if_neg e] at hg
   exact h.nv j g hj hg
theorem RPl.stepped (h : RPl W oa ol oc i s rq bb bc tbs ovs wr) {x : Nat} (hx : x < i) {c : RC} (hc : (s.th x).call = some c) {cb : Nat} (hcb : wr.cell? ⟨tbs x, 2, none⟩ = some (.pointer (some ⟨cb, 0, none⟩))) {w1 : World} (hS : StepOut wr rq cb bb bc w1 (s.q.step c)) :
  RefQ w1 rq bb bc (s.q.step c).1 ∧ TMem w1 (tbs x) (oa x) (ol x) (oc x) (s.th x).k (rst (s.q.step c).2) (s.th x).ans (ovs x) ∧ ∀ (r : Nat) (c : Array Value) (e : TypeId) (z : Nat × Nat), wr.heap[r]? = some (.cells c e z) → e ≠ 112 → e ≠ 109 → e ≠ 48 → w1.heap[r]? = wr.heap[r]? := by
 obtain ⟨h1, h2, h3, h4⟩ := hS
 obtain ⟨cur, hb1, _⟩ := h.q.b
 obtain ⟨⟨cpx, htx, hcx⟩, hrx⟩ := h.t x hx
 have htx2 : wr.cell? ⟨tbs x, 2, none⟩ = some (.pointer cpx) := by simp [World.cell?, htx]
 rw [htx2] at hcb
 simp only [Option.some.injEq, Value.pointer.injEq] at hcb
 subst hcb
 have hcbx : ∃ c2, wr.heap[cb]? = some (.cells c2 48 (0, 0)) := by
  rcases hcx.is with e | ⟨cb2, c2, e, hc2⟩
  ·cases e
  ·cases e; exact ⟨c2, hc2⟩
 obtain ⟨c2, hc2⟩ := hcbx
 have keep : ∀ (r : Nat) (c : Array Value) (e : TypeId) (z : Nat × Nat), wr.heap[r]? = some (.cells c e z) → e ≠ 112 → e ≠ 109 → e ≠ 48 → w1.heap[r]? = wr.heap[r]? := fun r c e z hr e1 e2 e3 => h4 r (heap_ty hr h.q.o e1) (heap_ty hr hc2 e3) (heap_ty hr hb1 e2)
 refine ⟨h1, ⟨⟨some ⟨cb, 0, none⟩, (keep _ _ _ _ htx (by decide) (by decide) (by decide)).trans htx, ?_⟩, ?_⟩, keep⟩
 ·cases hr : (s.q.step c).2 with
  | inl c' => rw [hr] at h2; exact ⟨cb, rfl, h2⟩
  | inr a => rw [hr] at h2; obtain ⟨k, c, h2⟩ := h2; exact ⟨cb, k, c, rfl, h2⟩
 ·exact ownsRow_same2 hrx fun b hb _ => by
   obtain ⟨c3, hc3⟩ := own_row_ty hrx hb
   exact keep _ _ _ _ hc3 (by decide) (by decide) (by decide)
theorem RPl.turn (h : RPl W oa ol oc i s rq bb bc tbs ovs wr) {x : Nat} (hx : x < i) {c : RC} (hc : (s.th x).call = some c) {cb : Nat} (hcb : wr.cell? ⟨tbs x, 2, none⟩ = some (.pointer (some ⟨cb, 0, none⟩))) {w1 w2 : World} (hS : StepOut wr rq cb bb bc w1 (s.q.step c))
  (hN : NextOut w1 rq (tbs x) bb (ovs x) (oa x) (ol x) (oc x) w2 (nextF (ops x) (s.q.step c).1 (s.th x).k (s.th x).ans (rst (s.q.step c).2))) :
  ∃ bb' bc' ovs', RPl W oa ol oc i (s.put x (stpF (ops x) s.q (s.th x))) rq bb' bc' tbs ovs' w2 ∧ ∀ (r : Nat) (c : Array Value) (e : TypeId) (z : Nat × Nat), wr.heap[r]? = some (.cells c e z) → e ≠ 112 → e ≠ 109 → e ≠ 48 → e ≠ 95 → e ≠ 46 → w2.heap[r]? = wr.heap[r]? := by
 obtain ⟨_, _, hkp⟩ := h.stepped hx hc hcb hS
 obtain ⟨bb', bc', ov', hA⟩ := hN
 obtain ⟨h1, h2, h3, h4⟩ := hS
 rw [← stpF_next hc] at hA
 obtain ⟨⟨cpx, htx, hcx⟩, hrx⟩ := h.t x hx
 have hold : ∀ r, r < wr.heap.size → r ≠ rq → r ≠ tbs x → r ≠ bb → (∀ cb, wr.cell? ⟨tbs x, 2, none⟩ = some (.pointer (some ⟨cb, 0, none⟩)) → r ≠ cb) → some r ≠ (ovs x).ownBlock → w2.heap[r]? = wr.heap[r]? := fun r a1 a2 a3 a4 a5 a6 =>
  (hA.kept.old r (by omega) a2 a3 a4 a6).trans (h4 r a2 (a5 cb hcb) a4)
 have hk := hA.kept.size
 refine ⟨bb', bc', _, h.go hx (by omega) hold hA.q hA.t ?_ ?_ (fun cb' hc' => ?_), fun r c e z hr e1 e2 e3 e4 e5 => h.keep hx hold r c e z hr e1 e2 (fun e => absurd e e4) (fun e => absurd e e3) (fun e => absurd e e5)⟩
 ·rcases hA.kept.fb with e | e
  ·exact .inl e
  ·exact .inr (by omega)
 ·rcases hA.kept.fo with e | ⟨g, e, hg⟩
  ·exact .inl e
  ·exact .inr ⟨g, e, by omega⟩
 ·rcases hA.cp cb' hc' with e | e
  ·left
   have := hkp _ _ _ _ htx (by decide) (by decide) (by decide)
   simpa only [World.cell?, this] using e
  ·exact .inr (by omega)
theorem RPl.born (h : RPl W oa ol oc i s rq bb bc tbs ovs wr) {x : Nat} (hx : x < i) (h0 : s.th x = ⟨0, none, []⟩) {w2 : World} (hN : NextOut wr rq (tbs x) bb (ovs x) (oa x) (ol x) (oc x) w2 (nextF (ops x) s.q 0 [] .nil)) :
  ∃ bb' bc' ovs', RPl W oa ol oc i (s.put x (advL (ops x) s.q (s.th x))) rq bb' bc' tbs ovs' w2 ∧ ∀ (r : Nat) (c : Array Value) (e : TypeId) (z : Nat × Nat), wr.heap[r]? = some (.cells c e z) → e ≠ 112 → e ≠ 109 → e ≠ 48 → e ≠ 95 → e ≠ 46 → w2.heap[r]? = wr.heap[r]? := by
 obtain ⟨bb', bc', ov', hA⟩ := hN
 rw [← advL_next, ← h0] at hA
 have hold : ∀ r, r < wr.heap.size → r ≠ rq → r ≠ tbs x → r ≠ bb → (∀ cb, wr.cell? ⟨tbs x, 2, none⟩ = some (.pointer (some ⟨cb, 0, none⟩)) → r ≠ cb) → some r ≠ (ovs x).ownBlock → w2.heap[r]? = wr.heap[r]? := fun r a1 a2 a3 a4 a5 a6 => hA.kept.old r a1 a2 a3 a4 a6
 exact ⟨bb', bc', _, h.go hx hA.kept.size hold hA.q hA.t hA.kept.fb hA.kept.fo hA.cp, fun r c e z hr e1 e2 e3 e4 e5 => h.keep hx hold r c e z hr e1 e2 (fun e => absurd e e4) (fun e => absurd e e3) (fun e => absurd e e5)⟩
theorem RPl.same (h : RPl W oa ol oc i s rq bb bc tbs ovs wr) (hs : wr.heap.size ≤ w'.heap.size) (hW : ∀ r, r < W.heap.size → w'.heap[r]? = wr.heap[r]?)
  (hk : ∀ (r : Nat) (c : Array Value) (e : TypeId) (z : Nat × Nat), wr.heap[r]? = some (.cells c e z) → e = 112 ∨ e = 109 ∨ e = 95 ∨ e = 48 ∨ e = 46 → w'.heap[r]? = wr.heap[r]?) : RPl W oa ol oc i s rq bb bc tbs ovs w' := by
 have hsz := h.size
 obtain ⟨cur, hb1, _⟩ := h.q.b
 have htb : ∀ j, j < i → w'.heap[tbs j]? = wr.heap[tbs j]? := fun j hj => by
  obtain ⟨⟨cp, h1, _⟩, _⟩ := h.t j hj
  exact hk _ _ _ _ h1 (by simp)
 have hcell : ∀ j, j < i → w'.cell? ⟨tbs j, 2, none⟩ = wr.cell? ⟨tbs j, 2, none⟩ := fun j hj => by simp only [World.cell?, htb j hj]
 refine ⟨by omega, fun r hr => (hW r hr).trans (h.old r hr), h.q.same (hk _ _ _ _ h.q.o (by simp)) (hk _ _ _ _ hb1 (by simp)), fun j hj => ?_, h.dt, fun a b cb ha hb hab hc => ?_, h.dv, h.nq, h.nb, h.nt, fun j cb hj hc => h.nc j cb hj (by rw [← hcell j hj]; exact hc), h.nv⟩
 ·obtain ⟨⟨cp, h1, h2⟩, h3⟩ := h.t j hj
  refine ⟨⟨cp, (htb j hj).trans h1, h2.same fun cb hcb => ?_⟩, ownsRow_same2 h3 fun b hb _ => ?_⟩
  ·subst hcb
   rcases h2.is with e3 | ⟨cb2, c2, e3, hc2⟩
   ·cases e3
   ·cases e3
    exact hk _ _ _ _ hc2 (by simp)
  ·obtain ⟨c2, hc2⟩ := own_row_ty h3 hb
   exact hk _ _ _ _ hc2 (by simp)
 ·rw [hcell a ha] at hc
  rw [hcell b hb]
  exact h.dc a b cb ha hb hab hc
theorem RPl.add (h : RPl W oa ol oc i s rq bb bc tbs ovs wr) {tb : Nat} (htb : wr.heap.size ≤ tb) (hT : wr.heap.size ≤ w'.heap.size) (hW : ∀ r, r < W.heap.size → w'.heap[r]? = wr.heap[r]?)
  (hk : ∀ (r : Nat) (c : Array Value) (e : TypeId) (z : Nat × Nat), wr.heap[r]? = some (.cells c e z) → e = 112 ∨ e = 109 ∨ e = 95 ∨ e = 48 ∨ e = 46 → w'.heap[r]? = wr.heap[r]?)
  (ht : w'.heap[tb]? = some (.cells #[.slice (oa i) (ol i) (oc i), .int .i64 0, .pointer none, .slice none 0 0] 95 (0, 0))) (h0 : s.th i = ⟨0, none, []⟩) :
  RPl W oa ol oc (i + 1) s rq bb bc (fun j => if j = i then tb else tbs j) (fun j => if j = i then .slice none 0 0 else ovs j) w' := by
 have h' := h.same hT hW hk
 have hsz := h.size
 have htl : ∀ j, j < i → tbs j < wr.heap.size := fun j hj => (h.t j hj).tlt
 have hc2 : ∀ cb, w'.cell? ⟨tb, 2, none⟩ ≠ some (.pointer (some ⟨cb, 0, none⟩)) := fun cb => by simp [World.cell?, ht]
 refine ⟨h'.size, h'.old, h'.q, fun j hj => ?_, fun a b ha hb hab => ?_, fun a b cb ha hb hab hc => ?_, fun a b g ha hb hab hg => ?_, h'.nq, h'.nb, fun j hj => ?_, fun j cb hj hc => ?_, fun j g hj hg => ?_⟩
 ·by_cases e : j = i
  ·subst e
   simp only [if_true, h0]
   exact ⟨⟨none, ht, rfl⟩, ⟨rfl, .inl ⟨rfl, rfl⟩⟩⟩
  ·simp only [if_neg e]
   exact h'.t j (by omega)
 ·by_cases ea : a = i
  ·have eb : b ≠ i := fun e => hab (ea.trans e.symm)
   simp only [if_pos ea, if_neg eb]
   have := htl b (by omega); omega
  ·by_cases eb : b = i
   ·simp only [if_neg ea, if_pos eb]
    have := htl a (by omega); omega
   ·simp only [if_neg ea, if_neg eb]
    exact h.dt a b (by omega) (by omega) hab
 ·by_cases ea : a = i
  ·simp only [if_pos ea] at hc
   exact absurd hc (hc2 cb)
  ·simp only [if_neg ea] at hc
   by_cases eb : b = i
   ·simp only [if_pos eb]
    exact hc2 cb
   ·simp only [if_neg eb]
    exact h'.dc a b cb (by omega) (by omega) hab hc
 ·by_cases ea : a = i
  ·simp only [if_pos ea] at hg
   cases hg
  ·simp only [if_neg ea] at hg
   by_cases eb : b = i
   ·simp only [if_pos eb]
    intro h; cases h
   ·simp only [if_neg eb]
    exact h.dv a b g (by omega) (by omega) hab hg
 ·by_cases e : j = i
  ·simp only [if_pos e]; omega
  ·simp only [if_neg e]; exact h.nt j (by omega)
 ·by_cases e : j = i
  ·simp only [if_pos e] at hc
   exact absurd hc (hc2 cb)
  ·simp only [if_neg e] at hc
   exact h'.nc j cb (by omega) hc
 ·by_cases e : j = i
  ·simp only [if_pos e] at hg
   cases hg
  ·simp only [if_neg e] at hg
   exact h.nv j g (by omega) hg
end
noncomputable section
variable {w w' : World}
structure BRow (w : World) (ea : Option Addr) (n : Nat) (e : Nat → Bool) : Prop where
 c : ∀ j, j < n → ∃ eb, ea = some ⟨eb, 0, none⟩ ∧ w.cell? ⟨eb, j, none⟩ = some (.bool (e j))
theorem over_ref {ea : Option Addr} {n ec : Nat} {e : Nat → Bool} (hn : n ≤ 64) (hE : BRow w ea n e) :
  Calls Try.prog 45 #[.slice ea n ec] w fun x w' => x = .returned (.bool ((List.range n).all e)) ∧ w' = w := by
 have E : Aside (BRow w ea n e) := hE
 clear hE
 go_enter Try.func45, Try.ntmps45
 go_wp2
 go_loopg [3] n (fun g i wr => ∃ k : Nat, k ≤ n ∧ i = .int .i64 k ∧ g = n - k ∧ wr = w ∧ ∀ j, j < k → e j = true)
 case atStart => exact ⟨0, Nat.zero_le _, rfl, rfl, rfl, fun j hj => by omega⟩
 case round =>
  obtain ⟨k, hk, rfl, rfl, rfl, hall⟩ := hrel
  have A : Aside (∀ j, j < k → e j = true) := hall
  clear hall
  rcases Nat.lt_or_ge k n with hlt | hge
  ·obtain ⟨eb, rfl, hc⟩ := E.out.c k hlt
   cases hek : e k with
   | true =>
    rw [hek] at hc
    go_wp2
    go_roundg (n - (k + 1))
    case measure => omega
    case rel => exact ⟨k + 1, hlt, by go_num, rfl, rfl, fun j hj => by
     rcases Nat.lt_or_ge j k with h | h
     ·exact A.out j h
     ·obtain rfl : j = k := by omega
      exact hek⟩
   | false =>
    rw [hek] at hc
    go_wp2
    go_ret
    refine ⟨?_, rfl⟩
    have : (List.range n).all e = false := by
     rw [List.all_eq_false]
     exact ⟨k, List.mem_range.2 hlt, by simp [hek]⟩
    rw [this]
    rfl
  ·have : k = n := by omega
   subst this
   go_wp2
   go_ret
   refine ⟨?_, rfl⟩
   have : (List.range k).all e = true := by
    rw [List.all_eq_true]
    exact fun j hj => A.out j (List.mem_range.1 hj)
   rw [this]
   rfl
structure TurnMem (w : World) (ub : Nat) (la : Option Addr) (ll lc M at' rd : Nat) (ov : Value) (order : List Nat) : Prop where
 o : w.heap[ub]? = some (.cells #[.slice la ll lc, .int .i64 M, .int .i64 at', .int .i64 rd, ov] 102 (0, 0))
 row : w.ownsRow 0 3 1 ov order.length (order.map fun i : Nat => Value.int .i64 i)
theorem infoB3 : ∃ i z, Try.prog.info? 3 = some i ∧ i.zero = some z ∧ i.size = 1 ∧ i.bytes = 8 ∧ z.cells.size = 1 := infoOf (by kernel_rfl)
theorem brow_of {ea : Option Addr} {n ec : Nat} {e : Nat → Bool} (h : w.ownsRow 0 4 1 (.slice ea n ec) n ((List.range n).map fun j => .bool (e j))) : BRow w ea n e :=
 ⟨fun j hj => by
  obtain ⟨b, cap, e1, h1⟩ := row_get (k := j) h (x := .bool (e j)) (by simp [hj])
  cases e1
  exact ⟨b, rfl, h1.c⟩⟩
structure PKept (w wr : World) (ub : Nat) (ov ov' : Value) : Prop where
 size : w.heap.size ≤ wr.heap.size
 old : ∀ r, r < w.heap.size → r ≠ ub → some r ≠ ov.ownBlock → wr.heap[r]? = w.heap[r]?
 fo : ov'.ownBlock = ov.ownBlock ∨ ∃ g, ov'.ownBlock = some g ∧ w.heap.size ≤ g
theorem pick_none {ub M at' rd ll lc : Nat} {la ea : Option Addr} {n ec : Nat} {e : Nat → Bool} {ov : Value} {order : List Nat} (hn : n ≤ 64) (hE : w.ownsRow 0 4 1 (.slice ea n ec) n ((List.range n).map fun j => .bool (e j))) (hT : TurnMem w ub la ll lc M at' rd ov order)
  (hno : (List.range n).all e = true ∨ order.length = M) (hM : M ≤ 1048576) (hol : order.length ≤ M) :
  Calls Try.prog 44 #[.pointer (some ⟨ub, 0, none⟩), .slice ea n ec] w fun x w' => x = .returned (.tuple #[.int .i64 0, .bool false]) ∧ w'.heap = w.heap := by
 have hov : ∀ m, Calls Try.prog 45 #[.slice ea n ec] (w.drewN m) fun x w' => x = .returned (.bool ((List.range n).all e)) ∧ w' = w.drewN m := fun m => over_ref (ec := ec) hn ⟨(brow_of hE).c⟩
 have u1 : w.cell? ⟨ub, 1, none⟩ = some (.int .i64 M) := by simp [World.cell?, hT.o]
 obtain ⟨oa, oc, rfl⟩ : ∃ oa oc, ov = .slice oa order.length oc := by
  rcases hT.row.2 with ⟨h1, h2⟩ | ⟨g, cap, cur, h1, _⟩
  ·exact ⟨none, 0, by rw [h1, h2]⟩
  ·exact ⟨_, _, h1⟩
 have u4 : w.cell? ⟨ub, 4, none⟩ = some (.slice oa order.length oc) := by simp [World.cell?, hT.o]
 clear hE hT
 cases hall : (List.range n).all e with
 | true =>
  simp only [hall] at hov
  clear hno
  have H : Aside (∀ m, Calls Try.prog 45 #[.slice ea n ec] (w.drewN m) fun x w' => x = .returned (.bool true) ∧ w' = w.drewN m) := hov
  clear hov hall
  go_enter Try.func44, Try.ntmps44
  go_wp2
  go_quiet ((go_at_call 45; exact Calls.quiet_of_same (H.out _)))
  go_wp2
  go_ret2
  exact ⟨rfl, rfl⟩
 | false =>
  simp only [hall] at hov
  rw [hall] at hno
  have hno : order.length = M := by simpa using hno
  have H : Aside (∀ m, Calls Try.prog 45 #[.slice ea n ec] (w.drewN m) fun x w' => x = .returned (.bool false) ∧ w' = w.drewN m) := hov
  clear hov hall
  subst hno
  go_enter Try.func44, Try.ntmps44
  go_wp2
  go_quiet ((go_at_call 45; exact Calls.quiet_of_same (H.out _)))
  go_wp2
  go_ret2
  exact ⟨rfl, rfl⟩
end
noncomputable section
variable {w w' : World}
structure TurnAt (w wr : World) (ub : Nat) (la : Option Addr) (ll lc M p rd : Nat) (ov : Value) : Prop where
 o : wr.heap[ub]? = some (.cells #[.slice la ll lc, .int .i64 M, .int .i64 p, .int .i64 rd, ov] 102 (0, 0))
 old : ∀ r, r ≠ ub → wr.heap[r]? = w.heap[r]?
 size : wr.heap.size = w.heap.size
theorem TurnAt.setP {wr : World} {ub : Nat} {la : Option Addr} {ll lc M p rd : Nat} {ov : Value} (h : TurnAt w wr ub la ll lc M p rd ov) {u : World} (p' : Nat) (hu : u.heap = (wr.setCell ⟨ub, 2, none⟩ (.int .i64 p')).heap) : TurnAt w u ub la ll lc M p' rd ov :=
 ⟨by rw [hu, heap_set_eq h.o]; rfl, fun r hr => by rw [hu, heap_setCell_ne _ _ _ hr]; exact h.old r hr, by rw [hu, World.size_setCell]; exact h.size⟩
theorem TurnAt.setR {wr : World} {ub : Nat} {la : Option Addr} {ll lc M p rd : Nat} {ov : Value} (h : TurnAt w wr ub la ll lc M p rd ov) {u : World} (r' : Nat) (hu : u.heap = (wr.setCell ⟨ub, 3, none⟩ (.int .i64 r')).heap) : TurnAt w u ub la ll lc M p r' ov :=
 ⟨by rw [hu, heap_set_eq h.o]; rfl, fun r hr => by rw [hu, heap_setCell_ne _ _ _ hr]; exact h.old r hr, by rw [hu, World.size_setCell]; exact h.size⟩
theorem TurnAt.heap {wr : World} {ub : Nat} {la : Option Addr} {ll lc M p rd : Nat} {ov : Value} (h : TurnAt w wr ub la ll lc M p rd ov) {u : World} (hu : u.heap = wr.heap) : TurnAt w u ub la ll lc M p rd ov :=
 ⟨by rw [hu]; exact h.o, fun r hr => by rw [hu]; exact h.old r hr, by rw [hu]; exact h.size⟩
theorem turn_app {wr w1 u : World} {ub : Nat} {la : Option Addr} {ll lc M p0 rd0 p rd x X : Nat} {order : List Nat} {ov v' : Value} (hT : TurnMem w ub la ll lc M p0 rd0 ov order) (h : TurnAt w wr ub la ll lc M p rd ov)
  (hown : w1.ownsRow 0 3 1 v' (order.length + 1) ((order.map fun i : Nat => Value.int .i64 i) ++ [.int .i64 x])) (hold : ∀ r, r < wr.heap.size → some r ≠ ov.ownBlock → w1.heap[r]? = wr.heap[r]?) (hsz : wr.heap.size ≤ w1.heap.size)
  (hfr : v'.ownBlock = ov.ownBlock ∨ ∃ g, v'.ownBlock = some g ∧ X ≤ g) (hX : wr.heap.size ≤ X) (hu : u.heap = (w1.setCell ⟨ub, 4, none⟩ v').heap) :
  TurnMem u ub la ll lc M p rd v' (order ++ [x]) ∧ PKept w u ub ov v' := by
 have hub := (Array.getElem?_eq_some_iff.1 h.o).1
 have hne : some ub ≠ ov.ownBlock := own_type hT.row hT.o (by decide)
 have hs := h.size
 have hvt : v'.ownBlock ≠ some ub := by
  rcases hfr with e | ⟨g, e, hg⟩
  ·rw [e]; exact fun h => hne h.symm
  ·rw [e]; intro h; cases h; omega
 have hou : ∀ r, r ≠ ub → u.heap[r]? = w1.heap[r]? := fun r hr => by rw [hu, heap_setCell_ne _ _ _ hr]
 refine ⟨⟨?_, ?_⟩, ⟨?_, fun r h1 h2 h3 => ?_, ?_⟩⟩
 ·rw [hu, heap_set_eq ((hold ub hub hne).trans h.o)]; rfl
 ·rw [List.length_append, List.map_append]
  exact ownsRow_same2 hown fun b hb _ => hou b fun e => hvt (e ▸ hb)
 ·rw [hu, World.size_setCell]; omega
 ·exact (hou r h2).trans ((hold r (by omega) h3).trans (h.old r h2))
 ·rcases hfr with e | ⟨g, e, hg⟩
  ·exact .inl e
  ·exact .inr ⟨g, e, by omega⟩
set_option maxHeartbeats 4000000 in
theorem pick_some {ub M p0 rd lc n ec : Nat} {la ea : Option Addr} {S : List Int} {e : Nat → Bool} {ov : Value} {order : List Nat} (hn : n ≤ 64) (hn0 : 0 < n) (hE : w.ownsRow 0 4 1 (.slice ea n ec) n ((List.range n).map fun j => .bool (e j))) (hS : w.ownsRow 0 3 1 (.slice la S.length lc) S.length (S.map fun i : Int => Value.int .i64 i))
  (hT : TurnMem w ub la S.length lc M p0 rd ov order) (hp : p0 ≤ S.length) (hrd : rd ≤ 64) (hlive : (List.range n).all e = false) (hno : ¬ order.length = M) (hM : M ≤ 1048576) (hol : order.length ≤ M) (hSl : S.length < 10000000) :
  Calls Try.prog 44 #[.pointer (some ⟨ub, 0, none⟩), .slice ea n ec] w fun x w' => ∃ y p1 r1 ov', x = .returned (.tuple #[.int .i64 (y : Nat), .bool true]) ∧ PickRel S n e p0 rd y p1 r1 ∧ TurnMem w' ub la S.length lc M p1 r1 ov' (order ++ [y]) ∧ PKept w w' ub ov ov' := by
 obtain ⟨i0, z0, hi, hz0, hz1, hz2, hz3⟩ := infoB3
 have hov : ∀ m, Calls Try.prog 45 #[.slice ea n ec] (w.drewN m) fun x w' => x = .returned (.bool false) ∧ w' = w.drewN m := fun m => by
  have := over_ref (w := w.drewN m) (ec := ec) hn ⟨(brow_of hE).c⟩
  rw [hlive] at this
  exact this
 obtain ⟨oa, oc, rfl⟩ : ∃ oa oc, ov = .slice oa order.length oc := by
  rcases hT.row.2 with ⟨h1, h2⟩ | ⟨g, cap, cur, h1, _⟩
  ·exact ⟨none, 0, by rw [h1, h2]⟩
  ·exact ⟨_, _, h1⟩
 have u1 : w.cell? ⟨ub, 1, none⟩ = some (.int .i64 M) := by simp [World.cell?, hT.o]
 have u4 : w.cell? ⟨ub, 4, none⟩ = some (.slice oa order.length oc) := by simp [World.cell?, hT.o]
 have hno2 : ¬ (order.length : Int) = M := by omega
 have H : Aside (∀ m, Calls Try.prog 45 #[.slice ea n ec] (w.drewN m) fun x w' => x = .returned (.bool false) ∧ w' = w.drewN m) := hov
 have A : Aside (w.ownsRow 0 4 1 (.slice ea n ec) n ((List.range n).map fun j => .bool (e j)) ∧ w.ownsRow 0 3 1 (.slice la S.length lc) S.length (S.map fun i : Int => Value.int .i64 i) ∧ TurnMem w ub la S.length lc M p0 rd (.slice oa order.length oc) order ∧ (List.range n).all e = false) := ⟨hE, hS, hT, hlive⟩
 clear hov hE hS hT hlive
 go_enter Try.func44, Try.ntmps44
 go_wp2
 go_quiet ((go_at_call 45; exact Calls.quiet_of_same (H.out _)))
 go_wp2
 have hb : ((order.length : Int) == (M : Int)) = false := by simpa using hno2
 simp only [hb]
 clear u1 u4 hno2 hb
 go_loopg [] (S.length - p0) (fun g wr => ∃ p, TurnAt w wr ub la S.length lc M p rd (.slice oa order.length oc) ∧ p0 ≤ p ∧ p ≤ S.length ∧ (∀ j y, p0 ≤ j → j < p → S[j]? = some y → ¬ okS n e y) ∧ g = S.length - p)
 case atStart => exact ⟨p0, ⟨A.out.2.2.1.o, fun _ _ => rfl, rfl⟩, Nat.le_refl _, hp, fun j y h1 h2 => by omega, rfl⟩
 case round =>
  obtain ⟨p, hW, hp1, hp2, hskip, rfl⟩ := hrel
  have B : Aside (TurnAt w wr ub la S.length lc M p rd (.slice oa order.length oc) ∧ (∀ j y, p0 ≤ j → j < p → S[j]? = some y → ¬ okS n e y)) := ⟨hW, hskip⟩
  have u0 : wr.cell? ⟨ub, 0, none⟩ = some (.slice la S.length lc) := by simp [World.cell?, hW.o]
  have u2 : wr.cell? ⟨ub, 2, none⟩ = some (.int .i64 p) := by simp [World.cell?, hW.o]
  clear hW hskip
  rcases Nat.lt_or_ge p S.length with hlt | hge
  ·go_wp2
   go_quiet (fail)
   rename_i nq
   have B2 : Aside (TurnAt w (wr.drewN nq) ub la S.length lc M p rd (.slice oa order.length oc)) := B.out.1.heap rfl
   generalize wr.drewN nq = wd at B2 ⊢
   obtain ⟨x, hx⟩ : ∃ x, S[p]? = some x := ⟨_, List.getElem?_eq_getElem hlt⟩
   obtain ⟨sb, scap, hsl, hsc⟩ := row_get (k := p) A.out.2.1 (x := .int .i64 x) (by simp [hx])
   simp only [Value.slice.injEq, Option.some.injEq, true_and] at hsl
   obtain ⟨rfl, rfl⟩ := hsl
   have hsu : sb ≠ ub := by
    rintro rfl
    have := A.out.2.2.1.o
    rcases A.out.2.1.2 with ⟨h0, _⟩ | ⟨g, cap, cur, h0, _, h3, _⟩
    ·cases h0
    ·cases h0
     rw [h3] at this
     simp only [Option.some.injEq, Obj.cells.injEq] at this
     exact absurd this.2.1 (by decide)
   have u0 : wd.cell? ⟨ub, 0, none⟩ = some (.slice (some ⟨sb, 0, none⟩) S.length lc) := by simp [World.cell?, B2.out.o]
   have u2 : wd.cell? ⟨ub, 2, none⟩ = some (.int .i64 p) := by simp [World.cell?, B2.out.o]
   have ux : wd.cell? ⟨sb, p, none⟩ = some (.int .i64 x) := (cell_heap (B2.out.old sb hsu)).1.trans hsc.c
   go_wp2
   go_quiet (fail)
   skip
   have B3 : Aside (TurnAt w (wd.drewN nq) ub (some ⟨sb, 0, none⟩) S.length lc M p rd (.slice oa order.length oc)) := B2.out.heap rfl
   generalize wd.drewN nq = we at B3 ⊢
   clear u0 u2 ux B2
   have u2 : we.cell? ⟨ub, 2, none⟩ = some (.int .i64 p) := by simp [World.cell?, B3.out.o]
   have u4 : we.cell? ⟨ub, 4, none⟩ = some (.slice oa order.length oc) := by simp [World.cell?, B3.out.o]
   have z2 : we.frozen? ⟨ub, 2, none⟩ = false := by simp [World.frozen?, B3.out.o]
   have z4 : we.frozen? ⟨ub, 4, none⟩ = false := by simp [World.frozen?, B3.out.o]
   have hwr : IntKind.i64.wrap ((p : Int) + 1) = (p : Int) + 1 := IntWalk.i64_in _ (by omega)
   by_cases hx0 : 0 ≤ x
   ·obtain ⟨xn, rfl⟩ : ∃ xn : Nat, x = xn := ⟨x.toNat, by omega⟩
    by_cases hxn : xn < n
    ·obtain ⟨eb, ecap, hel, hec⟩ := row_get (k := xn) A.out.1 (x := .bool (e xn)) (by simp [hxn])
     simp only [Value.slice.injEq, Option.some.injEq, true_and] at hel
     obtain ⟨rfl, rfl⟩ := hel
     have heu : eb ≠ ub := by
      rintro rfl
      have := A.out.2.2.1.o
      rcases A.out.1.2 with ⟨h0, _⟩ | ⟨g, cap, cur, h0, _, h3, _⟩
      ·cases h0
      ·cases h0
       rw [h3] at this
       simp only [Option.some.injEq, Obj.cells.injEq] at this
       exact absurd this.2.1 (by decide)
     have heu2 : ¬ ub = eb := fun h => heu h.symm
     have ue : we.cell? ⟨eb, xn, none⟩ = some (.bool (e xn)) := (cell_heap (B3.out.old eb heu)).1.trans hec.c
     clear hec
     cases hek : e xn with
     | true =>
      rw [hek] at ue
      go_wp2
      go_roundg (S.length - (p + 1))
      case measure => omega
      case rel =>
       refine ⟨p + 1, B3.out.setP (p + 1) rfl, by omega, by omega, fun j y h1 h2 h3 => ?_, rfl⟩
       rcases Nat.lt_or_ge j p with h | h
       ·exact B.out.2 j y h1 h h3
       ·obtain rfl : j = p := by omega
        rw [hx] at h3
        cases h3
        exact fun h => by have := h.2.2; simp only [Int.toNat_natCast, hek] at this; cases this
     | false =>
      rw [hek] at ue
      have hub := (Array.getElem?_eq_some_iff.1 B3.out.o).1
      have hsz := B3.out.size
      have hrow : we.ownsRow 0 3 1 (.slice oa order.length oc) order.length (order.map fun i : Nat => Value.int .i64 i) := ownsRow_same2 A.out.2.2.1.row fun b hb _ => B3.out.old b fun e => own_type A.out.2.2.1.row A.out.2.2.1.o (by decide) (by rw [← e, hb])
      have F0 : Aside (TurnAt w (we.setCell ⟨ub, 2, none⟩ (.int .i64 ((p : Int) + 1))) ub (some ⟨sb, 0, none⟩) S.length lc M (p + 1) rd (.slice oa order.length oc)) := B3.out.setP (p + 1) rfl
      clear hsz
      go_wp2_with (first
       | (at_builtin; refine wpList_append_fresh rfl (.tmp 68) (.tmp 70) 24 rfl 3 i0 z0 1 8 Try.underlying24 hi hz0 hz1 hz2 hz3 (by decide) (.slice oa order.length oc) order.length (order.map fun i : Nat => Value.int .i64 i) rfl ?c0 ⟨we.heap.size, 0, none⟩ 1 1 [.int .i64 xn] rfl rfl ?c1 ?c2 ?c3 ?c4 ?_)
       | go_in)
      case c0 => exact World.ownsRow.alloc (ownsRow_same2 hrow fun b hb _ => heap_setCell_ne _ _ _ fun e => own_type A.out.2.2.1.row A.out.2.2.1.o (by decide) (by rw [hb, e])) _
      case c1 => exact new_cells (X := we.setCell ⟨ub, 2, none⟩ (.int .i64 ((p : Int) + 1))) (l := [.int .i64 xn]) (by simp)
      case c2 => intro u hu; simp at hu; subst hu; rfl
      case c3 => unfold maxLen; omega
      case c4 => omega
      ·intro v' w1 hown hgrow hfr
       obtain ⟨g, cap, rfl⟩ := own_slice hown
       have hold : ∀ r, r < (we.setCell ⟨ub, 2, none⟩ (.int .i64 ((p : Int) + 1))).heap.size → some r ≠ (Value.slice oa order.length oc).ownBlock → w1.heap[r]? = (we.setCell ⟨ub, 2, none⟩ (.int .i64 ((p : Int) + 1))).heap[r]? := fun r h1 h2 => grown_old hgrow h1 h2
       have hk1 := hold ub (by simpa using hub) (own_type A.out.2.2.1.row A.out.2.2.1.o (by decide))
       have k0 : w1.cell? ⟨ub, 4, none⟩ = some (.slice oa order.length oc) := by simp [World.cell?, hk1, F0.out.o]
       have k1 : w1.frozen? ⟨ub, 4, none⟩ = false := by simp [World.frozen?, hk1, F0.out.o]
       have G : Aside ((∀ r, r < (we.setCell ⟨ub, 2, none⟩ (.int .i64 ((p : Int) + 1))).heap.size → some r ≠ (Value.slice oa order.length oc).ownBlock → w1.heap[r]? = (we.setCell ⟨ub, 2, none⟩ (.int .i64 ((p : Int) + 1))).heap[r]?) ∧ (we.setCell ⟨ub, 2, none⟩ (.int .i64 ((p : Int) + 1))).heap.size ≤ w1.heap.size ∧ ((Value.slice (some ⟨g, 0, none⟩) (order.length + 1) cap).ownBlock = (Value.slice oa order.length oc).ownBlock ∨ ∃ g', (Value.slice (some ⟨g, 0, none⟩) (order.length + 1) cap).ownBlock = some g' ∧ (we.setCell ⟨ub, 2, none⟩ (.int .i64 ((p : Int) + 1))).heap.size ≤ g')) :=
        ⟨hold, Nat.le_trans (by simp) hgrow.size, hfr.imp id fun ⟨g', h1, h2⟩ => ⟨g', h1, by simp; omega⟩⟩
       clear hold hk1 hgrow hfr hrow
       go_wp2
       go_ret2
       obtain ⟨g1, g2, g3⟩ := G.out
       have := turn_app A.out.2.2.1 F0.out hown g1 g2 g3 (Nat.le_refl _) rfl
       exact ⟨xn, p + 1, rd, _, rfl, .inl ⟨p, hp1, B.out.2, hx, ⟨hx0, by omega, by simpa using hek⟩, rfl, rfl⟩, this.1, this.2⟩
    ·have hxn2 : ¬ ((xn : Int) < n) := by omega
     go_wp2
     go_roundg (S.length - (p + 1))
     case measure => omega
     case rel =>
      refine ⟨p + 1, B3.out.setP (p + 1) rfl, by omega, by omega, fun j y h1 h2 h3 => ?_, rfl⟩
      rcases Nat.lt_or_ge j p with h | h
      ·exact B.out.2 j y h1 h h3
      ·obtain rfl : j = p := by omega
       rw [hx] at h3
       cases h3
       exact fun h => by have := h.2.1; omega
   ·have hx1 : x < 0 := by omega
    go_wp2
    go_roundg (S.length - (p + 1))
    case measure => omega
    case rel =>
     refine ⟨p + 1, B3.out.setP (p + 1) rfl, by omega, by omega, fun j y h1 h2 h3 => ?_, rfl⟩
     rcases Nat.lt_or_ge j p with h | h
     ·exact B.out.2 j y h1 h h3
     ·obtain rfl : j = p := by omega
      rw [hx] at h3
      cases h3
      exact fun h => by have := h.1; omega
  ·obtain rfl : p = S.length := by omega
   obtain ⟨yl, hyl, hyl2⟩ : ∃ y, y < n ∧ e y = false := by
    have := A.out.2.2.2
    rw [List.all_eq_false] at this
    obtain ⟨y, h1, h2⟩ := this
    exact ⟨y, List.mem_range.1 h1, by simpa using h2⟩
   obtain ⟨r0, hr0, hr1, hr2⟩ : ∃ r0, rd ≤ r0 ∧ e (r0 % n) = false ∧ r0 ≤ 10000 := by
    refine ⟨yl + n * (rd + 1), ?_, ?_, ?_⟩
    ·have := Nat.mul_le_mul_right (rd + 1) hn0; omega
    ·rw [Nat.add_mul_mod_self_left, Nat.mod_eq_of_lt hyl]; exact hyl2
    ·have := Nat.mul_le_mul hn (show rd + 1 ≤ 65 by omega); omega
   go_wp2
   go_quiet (fail)
   have B2 : Aside (TurnAt w (wr.drewN nq) ub la S.length lc M S.length rd (.slice oa order.length oc)) := B.out.1.heap rfl
   generalize wr.drewN nq = wd at B2 ⊢
   clear u0 u2
   go_wp2
   go_loopg [] (r0 - rd) (fun g wr => ∃ r, TurnAt w wr ub la S.length lc M S.length r (.slice oa order.length oc) ∧ rd ≤ r ∧ r ≤ r0 ∧ (∀ j, rd ≤ j → j < r → e (j % n) = true) ∧ g = r0 - r)
   case atStart => exact ⟨rd, B2.out, Nat.le_refl _, hr0, fun j h1 h2 => by omega, rfl⟩
   case round =>
    obtain ⟨r, hW, hra, hrb, hskip, rfl⟩ := hrel
    have C : Aside (TurnAt w wr ub la S.length lc M S.length r (.slice oa order.length oc) ∧ ∀ j, rd ≤ j → j < r → e (j % n) = true) := ⟨hW, hskip⟩
    have u3 : wr.cell? ⟨ub, 3, none⟩ = some (.int .i64 r) := by simp [World.cell?, hW.o]
    have z3 : wr.frozen? ⟨ub, 3, none⟩ = false := by simp [World.frozen?, hW.o]
    have hmod : r % n < n := Nat.mod_lt _ hn0
    obtain ⟨eb, ecap, hel, hec⟩ := row_get (k := r % n) A.out.1 (x := .bool (e (r % n))) (by simp [hmod])
    simp only [Value.slice.injEq, Option.some.injEq, true_and] at hel
    obtain ⟨rfl, rfl⟩ := hel
    have heu : eb ≠ ub := by
     rintro rfl
     have := A.out.2.2.1.o
     rcases A.out.1.2 with ⟨h0, _⟩ | ⟨g, cap, cur, h0, _, h3, _⟩
     ·cases h0
     ·cases h0
      rw [h3] at this
      simp only [Option.some.injEq, Obj.cells.injEq] at this
      exact absurd this.2.1 (by decide)
    have ue : wr.cell? ⟨eb, r % n, none⟩ = some (.bool (e (r % n))) := (cell_heap (hW.old eb heu)).1.trans hec.c
    have hwr : IntKind.i64.wrap ((r : Int) + 1) = (r : Int) + 1 := IntWalk.i64_in _ (by omega)
    clear hW hskip hec
    cases hek : e (r % n) with
    | true =>
     rw [hek] at ue
     go_wp2
     go_roundg (r0 - (r + 1))
     case measure =>
      rcases Nat.lt_or_ge r r0 with h | h
      ·omega
      ·obtain rfl : r = r0 := by omega
       rw [hek] at hr1; cases hr1
     case rel =>
      refine ⟨r + 1, C.out.1.setR (r + 1) rfl, by omega, ?_, fun j h1 h2 => ?_, rfl⟩
      ·rcases Nat.lt_or_ge r r0 with h | h
       ·omega
       ·obtain rfl : r = r0 := by omega
        rw [hek] at hr1; cases hr1
      ·rcases Nat.lt_or_ge j r with h | h
       ·exact C.out.2 j h1 h
       ·obtain rfl : j = r := by omega
        exact hek
    | false =>
     rw [hek] at ue
     have u4 : wr.cell? ⟨ub, 4, none⟩ = some (.slice oa order.length oc) := by simp [World.cell?, C.out.1.o]
     have z4 : wr.frozen? ⟨ub, 4, none⟩ = false := by simp [World.frozen?, C.out.1.o]
     have hub := (Array.getElem?_eq_some_iff.1 C.out.1.o).1
     have hrow : wr.ownsRow 0 3 1 (.slice oa order.length oc) order.length (order.map fun i : Nat => Value.int .i64 i) := ownsRow_same2 A.out.2.2.1.row fun b hb _ => C.out.1.old b fun e => own_type A.out.2.2.1.row A.out.2.2.1.o (by decide) (by rw [← e, hb])
     have hwm : IntKind.i64.wrap (((r % n : Nat) : Int) + 1) = ((r % n : Nat) : Int) + 1 := IntWalk.i64_in _ (by omega)
     have F0 : Aside (TurnAt w (wr.setCell ⟨ub, 3, none⟩ (.int .i64 ((r : Int) % (n : Int) + 1))) ub la S.length lc M S.length (r % n + 1) (.slice oa order.length oc)) := C.out.1.setR (r % n + 1) rfl
     go_wp2_with (first
      | (at_builtin; refine wpList_append_fresh rfl (.tmp 108) (.tmp 110) 24 rfl 3 i0 z0 1 8 Try.underlying24 hi hz0 hz1 hz2 hz3 (by decide) (.slice oa order.length oc) order.length (order.map fun i : Nat => Value.int .i64 i) rfl ?c0 ⟨wr.heap.size, 0, none⟩ 1 1 [.int .i64 ((r : Int) % (n : Int))] rfl rfl ?c1 ?c2 ?c3 ?c4 ?_)
      | go_in)
     case c0 => exact World.ownsRow.alloc (ownsRow_same2 hrow fun b hb _ => heap_setCell_ne _ _ _ fun e => own_type A.out.2.2.1.row A.out.2.2.1.o (by decide) (by rw [hb, e])) _
     case c1 => exact new_cells (X := wr.setCell ⟨ub, 3, none⟩ (.int .i64 ((r : Int) % (n : Int) + 1))) (l := [.int .i64 ((r : Int) % (n : Int))]) (by simp)
     case c2 => intro u hu; simp at hu; subst hu; rfl
     case c3 => unfold maxLen; omega
     case c4 => omega
     ·intro v' w1 hown hgrow hfr
      obtain ⟨g, cap, rfl⟩ := own_slice hown
      have hold : ∀ b0, b0 < (wr.setCell ⟨ub, 3, none⟩ (.int .i64 ((r : Int) % (n : Int) + 1))).heap.size → some b0 ≠ (Value.slice oa order.length oc).ownBlock → w1.heap[b0]? = (wr.setCell ⟨ub, 3, none⟩ (.int .i64 ((r : Int) % (n : Int) + 1))).heap[b0]? := fun b0 h1 h2 => grown_old hgrow h1 h2
      have hk1 := hold ub (by simpa using hub) (own_type A.out.2.2.1.row A.out.2.2.1.o (by decide))
      have k0 : w1.cell? ⟨ub, 4, none⟩ = some (.slice oa order.length oc) := by simp [World.cell?, hk1, F0.out.o]
      have k1 : w1.frozen? ⟨ub, 4, none⟩ = false := by simp [World.frozen?, hk1, F0.out.o]
      have G : Aside ((∀ b0, b0 < (wr.setCell ⟨ub, 3, none⟩ (.int .i64 ((r : Int) % (n : Int) + 1))).heap.size → some b0 ≠ (Value.slice oa order.length oc).ownBlock → w1.heap[b0]? = (wr.setCell ⟨ub, 3, none⟩ (.int .i64 ((r : Int) % (n : Int) + 1))).heap[b0]?) ∧ (wr.setCell ⟨ub, 3, none⟩ (.int .i64 ((r : Int) % (n : Int) + 1))).heap.size ≤ w1.heap.size ∧ ((Value.slice (some ⟨g, 0, none⟩) (order.length + 1) cap).ownBlock = (Value.slice oa order.length oc).ownBlock ∨ ∃ g', (Value.slice (some ⟨g, 0, none⟩) (order.length + 1) cap).ownBlock = some g' ∧ (wr.setCell ⟨ub, 3, none⟩ (.int .i64 ((r : Int) % (n : Int) + 1))).heap.size ≤ g')) :=
       ⟨hold, Nat.le_trans (by simp) hgrow.size, hfr.imp id fun ⟨g', h1, h2⟩ => ⟨g', h1, by simp; omega⟩⟩
      clear hold hk1 hgrow hfr hrow
      go_wp2
      go_ret2
      obtain ⟨g1, g2, g3⟩ := G.out
      have := turn_app (x := r % n) A.out.2.2.1 F0.out hown g1 g2 g3 (Nat.le_refl _) rfl
      exact ⟨r % n, S.length, r % n + 1, _, rfl, .inr ⟨fun j y h1 h2 => B.out.2 j y h1 (List.getElem?_eq_some_iff.1 h2).1 h2, rfl, r, hra, C.out.2, hek, rfl, rfl⟩, this.1, this.2⟩
end
noncomputable section
variable {w w' : World}
def NTOut (w : World) (S : List Int) (M : Nat) (x : Ending) (w' : World) : Prop :=
 ∃ ub la lc, x = .returned (.pointer (some ⟨ub, 0, none⟩)) ∧ TurnMem w' ub la S.length lc M 0 0 (.slice none 0 0) [] ∧ w'.ownsRow 0 3 1 (.slice la S.length lc) S.length (S.map fun i : Int => Value.int .i64 i) ∧
  w.heap.size ≤ ub ∧ (∀ g, (Value.slice la S.length lc).ownBlock = some g → w.heap.size ≤ g) ∧ (∀ r, r < w.heap.size → w'.heap[r]? = w.heap[r]?) ∧ w.heap.size ≤ w'.heap.size
theorem newturns_nil {sa : Option Addr} {sc M : Nat} {mo : Int} (hM : min (max mo 0) 1048576 = (M : Int)) : Calls Try.prog 43 #[.slice sa 0 sc, .int .i64 mo] w fun x w' => NTOut w [] M x w' := by
 have hap : Sem.run Try.prog (pure (#[] : Array Value)) w = .ok #[] w := rfl
 have hap2 : Sem.run Try.prog (Sem.pure (#[] : Array Value)) w = .ok #[] w := rfl
 rcases sa with _ | ad
 all_goals go_enter Try.func43, Try.ntmps43
 all_goals go_wp2
 all_goals try (simp only [hap, hap2, Result.andThen_ok]; go_wp2)
 all_goals (
  go_ret
  refine ⟨w.heap.size, none, 0, rfl, ⟨?_, ⟨rfl, .inl ⟨rfl, rfl⟩⟩⟩, ⟨rfl, .inl ⟨rfl, rfl⟩⟩, Nat.le_refl _, fun g h => (by cases h), fun r hr => heap_alloc_lt _ _ hr, by simp⟩
  first
   | (rw [show (M : Int) = mo by omega]; exact heap_alloc_new _ _)
   | (rw [show (M : Int) = 0 by omega]; exact heap_alloc_new _ _)
   | (rw [show (M : Int) = 1048576 by omega]; exact heap_alloc_new _ _))
theorem newturns_some {S : List Int} {ad : Addr} {sc M : Nat} {mo : Int} (hM : min (max mo 0) 1048576 = (M : Int)) (hl : S.length < 10000000) (h0 : 0 < S.length) (hS : ∀ j u, (S.map fun i : Int => Value.int .i64 i)[j]? = some u → w.cell? (ad.add j) = some u) :
  Calls Try.prog 43 #[.slice (some ad) S.length sc, .int .i64 mo] w fun x w' => NTOut w S M x w' := by
 obtain ⟨i0, z0, hi, hz0, hz1, hz2, hz3⟩ := infoB3
 go_enter Try.func43, Try.ntmps43
 go_wp2_with (first
  | (at_builtin; refine wpList_append_fresh rfl (.tmp 6) (.tmp 7) 24 rfl 3 i0 z0 1 8 Try.underlying24 hi hz0 hz1 hz2 hz3 (by decide) (.slice none 0 0) 0 [] rfl ?c0 ad S.length sc (S.map fun i : Int => Value.int .i64 i) rfl ?c5 ?c1 ?c2 ?c3 ?c4 ?_)
  | go_in)
 case c0 => exact ⟨rfl, .inl ⟨rfl, rfl⟩⟩
 case c5 => simp
 case c1 => exact hS
 case c2 => intro u hu; obtain ⟨i, _, rfl⟩ := List.mem_map.1 hu; rfl
 case c3 => unfold maxLen; omega
 case c4 => omega
 ·intro v' w1 hown hgrow hfr
  obtain ⟨n, hn⟩ : ∃ n, S.length = n + 1 := ⟨S.length - 1, by omega⟩
  first | rw [Nat.zero_add, List.nil_append] at hown | skip
  rw [hn] at hown
  obtain ⟨g, cap, rfl⟩ := own_slice hown
  have hold : ∀ r, r < w.heap.size → w1.heap[r]? = w.heap[r]? := fun r hr => hgrow.block r hr (by simp [Value.ownBlock])
  have hsz := hgrow.size
  have F : Aside ((∀ r, r < w.heap.size → w1.heap[r]? = w.heap[r]?) ∧ w.heap.size ≤ w1.heap.size ∧ w1.ownsRow 0 3 1 (.slice (some ⟨g, 0, none⟩) (n + 1) cap) (n + 1) (S.map fun i : Int => Value.int .i64 i) ∧ w.heap.size ≤ g ∧ S.length = n + 1) := ⟨hold, hsz, hown, by
   rcases hfr with h | ⟨g', h, hg⟩
   ·simp [Value.ownBlock] at h
   ·simp only [Value.ownBlock, Option.some.injEq] at h
    omega, hn⟩
  clear hown hgrow hfr hold hsz hS hn
  go_wp2
  all_goals (
   go_ret
   obtain ⟨f1, f2, f3, f4, f5⟩ := F.out
   refine ⟨w1.heap.size, some ⟨g, 0, none⟩, cap, rfl, ⟨?_, ⟨rfl, .inl ⟨rfl, rfl⟩⟩⟩, ?_, f2, fun g' h => ?_, fun r hr => ?_, by simp; omega⟩
   ·rw [f5]
    first
     | (rw [show (M : Int) = mo by omega]; exact heap_alloc_new _ _)
     | (rw [show (M : Int) = 0 by omega]; exact heap_alloc_new _ _)
     | (rw [show (M : Int) = 1048576 by omega]; exact heap_alloc_new _ _)
   ·rw [f5]
    exact f3.alloc _
   ·simp only [Value.ownBlock, Option.some.injEq] at h
    omega
   ·rw [heap_alloc_lt _ _ (by omega)]
    exact f1 r hr)
end
noncomputable section
theorem newRQ_step {vs : List Int} {k : Nat} {v : Int} (hv : vs[k]? = some v) :
  newRQ (vs.take (k + 1)) = { (({ newRQ (vs.take k) with B := (newRQ (vs.take k)).B ++ [(v, none)] } : RQ).link k (k + 1)) with tl := k + 1 } := by
 have hk := (List.getElem?_eq_some_iff.1 hv).1
 have h1 : (vs.take k).length = k := by simp; omega
 have h2 : (vs.take (k + 1)).length = k + 1 := by simp; omega
 have hw : ∀ j, j ≤ k → newV (vs.take (k + 1)) j = newV (vs.take k) j := fun j hj => by
  unfold newV
  by_cases e : j = 0
  ·rw [if_pos e, if_pos e]
  ·rw [if_neg e, if_neg e, List.getD_eq_getElem?_getD, List.getD_eq_getElem?_getD, List.getElem?_take_of_lt (by omega), List.getElem?_take_of_lt (by omega)]
 have hlast : newV (vs.take (k + 1)) (k + 1) = v := by
  unfold newV
  rw [if_neg (by omega), List.getD_eq_getElem?_getD, List.getElem?_take_of_lt (by omega), show k + 1 - 1 = k by omega, hv]
  rfl
 have hB : (newRQ (vs.take (k + 1))).B = ((newRQ (vs.take k)).B ++ [(v, none)]).modify k fun b => (b.1, some (k + 1)) := by
  apply List.ext_getElem?
  intro j
  rw [List.getElem?_modify]
  simp only [newRQ, h1, h2]
  rcases Nat.lt_or_ge j (k + 1) with hj | hj
  ·rw [List.getElem?_append_left (by simp; omega), List.getElem?_map, List.getElem?_map, List.getElem?_range (by omega), List.getElem?_range (by omega)]
   simp only [Option.map_some, hw j (by omega)]
   by_cases e : j = k
   ·subst e
    simp
   ·rw [if_pos (by omega), if_pos (by omega)]
    simp [Ne.symm e]
  ·by_cases e : j = k + 1
   ·subst e
    rw [List.getElem?_append_right (by simp), List.getElem?_map, List.getElem?_range (by omega)]
    simp [hlast]
   ·rw [List.getElem?_eq_none (by simp; omega), List.getElem?_eq_none (by simp; omega)]
    rfl
 have : ∀ a b : RQ, a.B = b.B → a.hd = b.hd → a.tl = b.tl → a = b := fun a b h1 h2 h3 => by
  cases a; cases b; simp only at h1 h2 h3; subst h1; subst h2; subst h3; rfl
 refine this _ _ hB rfl ?_
 show (vs.take (k + 1)).length = k + 1
 exact h2
end
noncomputable section
variable {w w' : World} {rq bb bc : Nat} {q : RQ}
theorem refQ_app {W w1 u : World} (hQ : RefQ W rq bb bc q) {a : Int} {v' : Value} (hown : w1.ownsRow 0 109 2 v' (q.B.length + 1) (boxC q.B ++ [.int .i64 a, .int .i64 (-1)])) (hold : ∀ r, r < W.heap.size → r ≠ bb → w1.heap[r]? = W.heap[r]?)
  (hfr : v'.ownBlock = some bb ∨ ∃ g, v'.ownBlock = some g ∧ W.heap.size ≤ g) (hu : u.heap = (w1.setCell ⟨rq, 0, none⟩ v').heap) :
  ∃ bb' bc', v' = .slice (some ⟨bb', 0, none⟩) (q.B.length + 1) bc' ∧ RefQ u rq bb' bc' { q with B := q.B ++ [(a, none)] } ∧ (bb' = bb ∨ W.heap.size ≤ bb') ∧ ∀ r, r < W.heap.size → r ≠ rq → r ≠ bb → u.heap[r]? = W.heap[r]? := by
 have hr := hQ.rqlt
 obtain ⟨g, cap, rfl⟩ := own_slice hown
 have ho1 : w1.heap[rq]? = _ := (hold rq hr (Ne.symm hQ.ne)).trans hQ.o
 have hne : rq ≠ g := by
  rintro rfl
  rcases hown.2 with ⟨h0, _⟩ | ⟨g', cap', cur, h3, _, h4, _⟩
  ·cases h0
  ·cases h3
   rw [ho1] at h4
   simp only [Option.some.injEq, Obj.cells.injEq] at h4
   exact absurd h4.2.1 (by decide)
 have hq2 : u.heap[rq]? = some (.cells #[.slice (some ⟨g, 0, none⟩) (q.B.length + 1) cap, .int .i64 q.hd, .int .i64 q.tl] 112 (0, 0)) := by
  rw [hu, heap_set_eq ho1]; rfl
 have hrow2 : u.ownsRow 0 109 2 (.slice (some ⟨g, 0, none⟩) (q.B.length + 1) cap) (q.B.length + 1) (boxC q.B ++ [.int .i64 a, .int .i64 (-1)]) := ownsRow_same2 hown fun b hb _ => by
  simp only [Value.ownBlock, Option.some.injEq] at hb
  subst hb
  rw [hu, heap_setCell_ne _ _ _ hne.symm]
 have e2 : boxC (q.B ++ [(a, none)]) = boxC q.B ++ [.int .i64 a, .int .i64 (-1)] := by rw [boxC_app]; rfl
 have e3 : (q.B ++ [(a, (none : Option Nat))]).length = q.B.length + 1 := by simp
 obtain ⟨bb', bc', e4, hR⟩ := refQ_of_row (q := ⟨q.B ++ [(a, none)], q.hd, q.tl⟩) hq2 (by rw [e2, e3]; exact hrow2) (by simp)
 rw [e3] at e4
 refine ⟨bb', bc', e4, hR, ?_, fun r h1 h2 h3 => by rw [hu, heap_setCell_ne _ _ _ h2]; exact hold r h1 h3⟩
 simp only [Value.slice.injEq, Option.some.injEq, Addr.mk.injEq] at e4
 rw [← e4.1.1]
 rcases hfr with h | ⟨g', h, hg⟩
 ·left; simpa [Value.ownBlock] using h
 ·right
  simp only [Value.ownBlock, Option.some.injEq] at h
  omega
theorem newRQ_len (vs : List Int) : (newRQ vs).B.length = vs.length + 1 := by simp [newRQ]
structure NewAt (w wr : World) (rq bb bc : Nat) (q : RQ) : Prop where
 q : RefQ wr rq bb bc q
 size : w.heap.size ≤ wr.heap.size
 old : ∀ r, r < w.heap.size → wr.heap[r]? = w.heap[r]?
 nq : w.heap.size ≤ rq
 nb : w.heap.size ≤ bb
set_option maxHeartbeats 4000000 in
theorem new_ref {vs : List Int} {va : Option Addr} {vb vo vc : Nat} (hlen : vs.length < 10000000) (hva : 0 < vs.length → va = some ⟨vb, vo, none⟩) (hvb : 0 < vs.length → vb < w.heap.size) (hv : ∀ k v, vs[k]? = some v → w.cell? ⟨vb, vo + k, none⟩ = some (.int .i64 v)) :
  Calls Try.prog 17 #[.slice va vs.length vc] w fun e w' => ∃ rq bb bc, e = .returned (.pointer (some ⟨rq, 0, none⟩)) ∧ NewAt w w' rq bb bc (newRQ vs) := by
 obtain ⟨i0, z0, hi, hz0, hz1, hz2, hz3⟩ := info109
 have A : Aside ((0 < vs.length → va = some ⟨vb, vo, none⟩) ∧ (0 < vs.length → vb < w.heap.size) ∧ ∀ k v, vs[k]? = some v → w.cell? ⟨vb, vo + k, none⟩ = some (.int .i64 v)) := ⟨hva, hvb, hv⟩
 clear hva hvb hv
 go_enter Try.func17, Try.ntmps17
 go_wp2
 go_loopg [4] vs.length (fun n i wr => ∃ k rq bb bc, rq = w.heap.size + 1 ∧ k ≤ vs.length ∧ i = .int .i64 (k : Nat) ∧ n = vs.length - k ∧ NewAt w wr rq bb bc (newRQ (vs.take k)))
 case atStart =>
  have h1 := new_at (X := w.alloc (.cells #[.int .i64 0, .int .i64 (-1)] 109)) (k := w.heap.size + 1) (by simp) (.cells #[.slice (some ⟨w.heap.size, 0, none⟩) 1 1, .int .i64 0, .int .i64 0] 112)
  have h2 := (heap_alloc_lt (w.alloc (.cells #[.int .i64 0, .int .i64 (-1)] 109)) (.cells #[.slice (some ⟨w.heap.size, 0, none⟩) 1 1, .int .i64 0, .int .i64 0] 112) (r := w.heap.size) (by simp)).trans (heap_alloc_new w _)
  refine ⟨0, w.heap.size + 1, w.heap.size, 1, rfl, Nat.zero_le _, rfl, rfl, ⟨h1, ⟨_, h2, rfl, by simp [newRQ], by unfold maxLen; omega, fun k x hx => ?_⟩⟩, by simp; omega, fun r hr => ?_, by omega, Nat.le_refl _⟩
  ·simp only [newRQ, List.take_zero, List.length_nil, List.getElem?_map, Option.map_eq_some_iff] at hx
   obtain ⟨j, hj, rfl⟩ := hx
   have hk := (List.getElem?_eq_some_iff.1 hj).1
   have hk0 : k = 0 := by simpa using hk
   subst hk0
   have : j = 0 := by simpa using hj.symm
   subst this
   exact ⟨rfl, rfl⟩
  ·rw [heap_alloc_lt _ _ (by simp; omega), heap_alloc_lt _ _ hr]
 case round =>
  obtain ⟨k, rq0, bb, bc, rfl, hk, rfl, rfl, hN⟩ := hrel
  have N0 : Aside (NewAt w wr (w.heap.size + 1) bb bc (newRQ (vs.take k))) := hN
  rcases Nat.lt_or_ge k vs.length with hlt | hge
  ·have hql : (newRQ (vs.take k)).B.length = k + 1 := by rw [newRQ_len, List.length_take]; omega
   have hrow := hN.q.row
   have ho := hN.q.o
   rw [hql] at hrow ho
   have hsz := hN.size
   have hold := hN.old
   have hqlt : (w.heap.size + 1) < wr.heap.size := (Array.getElem?_eq_some_iff.1 ho).1
   have hbr : ¬ bb = (w.heap.size + 1) := hN.q.ne
   generalize hq0 : newRQ (vs.take k) = q at N0 hql hrow hN
   obtain ⟨v, hv⟩ : ∃ v, vs[k]? = some v := ⟨_, List.getElem?_eq_getElem hlt⟩
   obtain ⟨rfl⟩ : va = some ⟨vb, vo, none⟩ := A.out.1 (by omega)
   have q0 : wr.cell? ⟨w.heap.size + 1, 0, none⟩ = some (.slice (some ⟨bb, 0, none⟩) (k + 1) bc) := by simp [World.cell?, ho]
   have zq0 : wr.frozen? ⟨w.heap.size + 1, 0, none⟩ = false := by simp [World.frozen?, ho]
   have ev : wr.cell? ⟨vb, vo + k, none⟩ = some (.int .i64 v) := (cell_heap (hold vb (A.out.2.1 (by omega)))).1.trans (A.out.2.2 k v hv)
   have p0 := (cellB_alloc q0 (.cells #[.int .i64 v, .int .i64 (-1)] 109)).1
   have hwr : IntKind.i64.wrap ((k : Int) + 1) = (k : Int) + 1 := IntWalk.i64_in _ (by omega)
   have V : Aside (vs[k]? = some v ∧ newRQ (vs.take k) = q) := ⟨hv, hq0⟩
   clear hN ho hold hv hq0
   go_wp2
   go_region_law (refine step_append_fresh rfl (.tmp 19) (.tmp 25) 110 rfl 109 i0 z0 2 16 Try.underlying110 hi hz0 hz1 hz2 hz3 (by decide) (.slice (some ⟨bb, 0, none⟩) (k + 1) bc) (k + 1) (boxC q.B) (by simp [Act.eval, Act.put]) ((show wr.drew.ownsRow 0 109 2 _ _ _ from hrow).alloc _) ⟨wr.heap.size, 0, none⟩ 1 1 [.int .i64 v, .int .i64 (-1)] (by simp [Act.eval, Act.put]) rfl (new_cells (X := wr.drew) (l := [.int .i64 v, .int .i64 (-1)]) rfl) (by intro u hu; simp at hu; rcases hu with rfl | rfl <;> rfl) (by unfold maxLen; omega) (by omega) ?_; intro v' w1 hown hgrow hfr; obtain ⟨g, cap, rfl⟩ := own_slice hown; have hk1 := grown_old (W := wr.drew) hgrow (r := (w.heap.size + 1)) hqlt (by simp [Value.ownBlock]; omega); have k0 := (cell_heap (j := 0) hk1).1.trans q0; have k1 := (cell_heap (j := 0) hk1).2.trans zq0; have F : Aside ((∀ r, r < wr.heap.size → r ≠ bb → w1.heap[r]? = wr.heap[r]?) ∧ wr.heap.size ≤ w1.heap.size ∧ ((Value.slice (some ⟨g, 0, none⟩) (k + 1 + 1) cap).ownBlock = some bb ∨ ∃ g', (Value.slice (some ⟨g, 0, none⟩) (k + 1 + 1) cap).ownBlock = some g' ∧ wr.heap.size ≤ g')) := ⟨fun r hr hn => grown_old (W := wr.drew) hgrow hr (by simp [Value.ownBlock]; exact hn), Nat.le_trans (by simp [World.drew]) hgrow.size, hfr.imp (fun h => by simpa [Value.ownBlock] using h) fun ⟨g', h1, h2⟩ => ⟨g', h1, Nat.le_trans (by simp [World.drew]) h2⟩⟩; clear hgrow hfr hk1)
   all_goals (
    obtain ⟨bb', bc', e4, hR, hb', hold'⟩ := refQ_app (u := w1.setCell ⟨w.heap.size + 1, 0, none⟩ (.slice (some ⟨g, 0, none⟩) (k + 1 + 1) cap)) N0.out.q (v' := .slice (some ⟨g, 0, none⟩) (k + 1 + 1) cap) (by rw [hql]; exact hown) F.out.1 F.out.2.2 rfl
    rw [hql] at e4
    simp only [Value.slice.injEq, Option.some.injEq, Addr.mk.injEq, and_true, true_and] at e4
    obtain ⟨rfl, rfl⟩ := e4
    have hws : (w1.setCell ⟨w.heap.size + 1, 0, none⟩ (.slice (some ⟨g, 0, none⟩) (k + 1 + 1) cap)).heap.size = w1.heap.size := by simp
    generalize w1.setCell ⟨w.heap.size + 1, 0, none⟩ (.slice (some ⟨g, 0, none⟩) (k + 1 + 1) cap) = we at hR hold' hws ⊢
    have N1 : Aside (NewAt w we (w.heap.size + 1) g cap { q with B := q.B ++ [(v, none)] }) := by
     refine ⟨hR, ?_, fun r hr => ?_, N0.out.nq, ?_⟩
     ·have := F.out.2.1; omega
     ·exact (hold' r (by omega) (by have := N0.out.nq; omega) (by have := N0.out.nb; omega)).trans (N0.out.old r hr)
     ·have := N0.out.nb
      rcases hb' with h | h <;> omega
    have ho2 := hR.o
    obtain ⟨cur, hb1, hb2, hb3, _, _⟩ := hR.b
    have hgr : ¬ g = (w.heap.size + 1) := hR.ne
    have hgr2 : ¬ (w.heap.size + 1) = g := fun e => hgr e.symm
    have hl2 : (q.B ++ [(v, (none : Option Nat))]).length = k + 2 := by simp [hql]
    simp only [hl2] at ho2 hb3
    have f0 : we.cell? ⟨w.heap.size + 1, 0, none⟩ = some (.slice (some ⟨g, 0, none⟩) (k + 2) cap) := by simp [World.cell?, ho2]
    have f2 : we.cell? ⟨w.heap.size + 1, 2, none⟩ = some (.int .i64 q.tl) := by simp [World.cell?, ho2]
    have y2 : we.frozen? ⟨w.heap.size + 1, 2, none⟩ = false := by simp [World.frozen?, ho2]
    obtain ⟨b1, _, b3⟩ := hR.nxt (k := k) (by simp only [hl2]; omega)
    have b4 := b3 (k * 2 + 1)
    clear hR hold' ho2 hb1 hb2 b3 k0 k1 F hown p0 q0 zq0 ev hrow
    go_wp2
    go_roundg (vs.length - (k + 1))
    case measure => omega
    case rel =>
     obtain ⟨n1, n2, n3, n4, n5⟩ := N1.out
     refine ⟨k + 1, (w.heap.size + 1), g, cap, rfl, hlt, rfl, rfl, ?_, by simpa using n2, fun r hr => ?_, by omega, n5⟩
     ·rw [newRQ_step V.out.1, V.out.2]
      exact (n1.setNx (T := k) (by simp only [hl2]; omega) (k + 1)).setTl (k + 1)
     ·rw [heap_setCell_ne _ _ _ (show r ≠ w.heap.size + 1 by omega), heap_setCell_ne _ _ _ (show r ≠ g by omega)]
      exact n3 r hr)
  ·obtain rfl : k = vs.length := by omega
   go_wp2
   go_ret
   have h := N0.out
   rw [List.take_length] at h
   exact ⟨w.heap.size + 1, bb, bc, rfl, h⟩
end
noncomputable section
variable {w w' : World} {rq bb bc : Nat} {q : RQ}
theorem Path.head {o : Option Nat} {l : List Nat} (h : Path q o l) : o = l.head? := by cases h <;> rfl
theorem Path.det {o : Option Nat} {l : List Nat} (h : Path q o l) : ∀ {m}, Path q o m → l = m := by
 induction h with
 | nil => intro m k; cases k; rfl
 | cons hk _ ih => intro m k; cases k with | cons _ k2 => rw [ih k2]
theorem nxI_none : nxI none = -1 := rfl
theorem nxI_some (n : Nat) : nxI (some n) = n := rfl
theorem behind_ref {lb : List Nat} (hQ : RefQ w rq bb bc q) (htl : q.tl < q.B.length) (hp : Path q (q.nx q.tl) lb) (hl : lb.length < 100000000) (hB : q.B.length < 100000000) :
  Calls Try.prog 46 #[.pointer (some ⟨rq, 0, none⟩)] w fun x w' => x = .returned (.int .i64 lb.length) ∧ w'.heap = w.heap := by
 have A : Aside (RefQ w rq bb bc q) := hQ
 have q0 : w.cell? ⟨rq, 0, none⟩ = some (.slice (some ⟨bb, 0, none⟩) q.B.length bc) := by simp [World.cell?, hQ.o]
 have q2 : w.cell? ⟨rq, 2, none⟩ = some (.int .i64 q.tl) := by simp [World.cell?, hQ.o]
 have b1 := (hQ.nxt htl).1
 have P0 : Aside (Path q (q.nx q.tl) lb) := hp
 clear hQ hp
 go_enter Try.func46, Try.ntmps46
 go_wp2
 go_quiet (fail)
 go_wp2
 go_loopg [3, 4] lb.length (fun g n i wr => ∃ (k : Nat) (l : List Nat) (o : Option Nat), n = .int .i64 k ∧ i = .int .i64 (nxI o) ∧ Path q o l ∧ k + l.length = lb.length ∧ g = l.length ∧ wr.heap = w.heap)
 case atStart => exact ⟨0, lb, _, rfl, rfl, P0.out, by omega, rfl, rfl⟩
 case round =>
  obtain ⟨k, l, o, rfl, rfl, hP, hkl, rfl, hw⟩ := hrel
  clear q0 q2 b1
  have hQ := A.out.heap (w' := wr) hw
  have q0 : wr.cell? ⟨rq, 0, none⟩ = some (.slice (some ⟨bb, 0, none⟩) q.B.length bc) := by simp [World.cell?, hQ.o]
  cases hP with
  | nil =>
   rw [nxI_none]
   have hm1 : ¬ (0 : Int) ≤ -1 := by omega
   go_wp2
   go_ret
   simp only [List.length_nil, Nat.add_zero] at hkl
   rw [hkl]
   exact ⟨rfl, hw⟩
  | @cons m l hm hP =>
   have b1 := (hQ.nxt hm).1
   rw [nxI_some]
   simp only [List.length_cons] at hkl
   have hm0 : (0 : Int) ≤ (m : Int) := by omega
   have hwr : IntKind.i64.wrap ((k : Int) + 1) = (k : Int) + 1 := IntWalk.i64_in _ (by omega)
   have P1 : Aside (Path q (q.nx m) l ∧ wr.heap = w.heap) := ⟨hP, hw⟩
   clear hQ hP hw
   go_wp2
   go_roundg l.length
   case measure => simp
   case rel => exact ⟨k + 1, l, _, rfl, rfl, P1.out.1, by omega, rfl, P1.out.2⟩
structure ValsAt (w wr : World) (ov : Value) (xs : List Int) : Prop where
 row : wr.ownsRow 0 2 1 ov xs.length (xs.map fun v => .int .i64 v)
 size : w.heap.size ≤ wr.heap.size
 old : ∀ r, r < w.heap.size → wr.heap[r]? = w.heap[r]?
 new : ∀ g, ov.ownBlock = some g → w.heap.size ≤ g
theorem values_ref {lv : List Nat} (hQ : RefQ w rq bb bc q) (hhd : q.hd < q.B.length) (hp : Path q (q.nx q.hd) lv) (hl : lv.length < 100000000) (hB : q.B.length < 100000000) :
  Calls Try.prog 24 #[.pointer (some ⟨rq, 0, none⟩)] w fun x w' => ∃ ov, x = .returned ov ∧ ValsAt w w' ov (lv.map q.vl) := by
 obtain ⟨i0, z0, hi, hz0, hz1, hz2, hz3⟩ := infoA2
 have A : Aside (RefQ w rq bb bc q) := hQ
 have q0 : w.cell? ⟨rq, 0, none⟩ = some (.slice (some ⟨bb, 0, none⟩) q.B.length bc) := by simp [World.cell?, hQ.o]
 have q1 : w.cell? ⟨rq, 1, none⟩ = some (.int .i64 q.hd) := by simp [World.cell?, hQ.o]
 have b1 := (hQ.nxt hhd).1
 have P0 : Aside (Path q (q.nx q.hd) lv) := hp
 clear hQ hp
 go_enter Try.func24, Try.ntmps24
 go_wp2
 go_quiet (fail)
 go_wp2
 go_loopg [3, 4] lv.length (fun g n i wr => ∃ (d l : List Nat) (o : Option Nat) (oa : Option Addr) (oc : Nat), n = .slice oa d.length oc ∧ i = .int .i64 (nxI o) ∧ Path q o l ∧ d ++ l = lv ∧ g = l.length ∧ ValsAt w wr (.slice oa d.length oc) (d.map q.vl))
 case atStart => exact ⟨[], lv, _, none, 0, rfl, rfl, P0.out, rfl, rfl, ⟨⟨rfl, .inl ⟨rfl, rfl⟩⟩, Nat.le_refl _, fun r _ => rfl, fun g h => by cases h⟩⟩
 case round =>
  obtain ⟨d, l, o, oa, oc, rfl, rfl, hP, hdl, rfl, hV⟩ := hrel
  clear q0 q1 b1
  have hQ := A.out.same (w' := wr) (hV.old _ A.out.rqlt) (hV.old _ A.out.bblt)
  have q0 : wr.cell? ⟨rq, 0, none⟩ = some (.slice (some ⟨bb, 0, none⟩) q.B.length bc) := by simp [World.cell?, hQ.o]
  cases hP with
  | nil =>
   rw [nxI_none]
   have hm1 : ¬ (0 : Int) ≤ -1 := by omega
   go_wp2
   go_ret
   rw [List.append_nil] at hdl
   subst hdl
   exact ⟨_, rfl, hV⟩
  | @cons m l hm hP =>
   obtain ⟨b1, b0, _⟩ := hQ.nxt hm
   have hrow := hV.row
   rw [nxI_some]
   have hm0 : (0 : Int) ≤ (m : Int) := by omega
   have hd2 : d.length + (l.length + 1) = lv.length := by rw [← hdl]; simp
   have hsz := hV.size
   obtain ⟨cur, hbb, _⟩ := hQ.b
   rw [List.length_map] at hrow
   have V : Aside (Path q (q.nx m) l ∧ d ++ m :: l = lv ∧ ValsAt w wr (.slice oa d.length oc) (d.map q.vl) ∧ RefQ wr rq bb bc q) := ⟨hP, hdl, hV, hQ⟩
   clear hQ hP hdl hV
   go_wp2_with (first
    | (at_builtin; refine wpList_append_fresh rfl (.tmp 26) (.tmp 35) 22 rfl 2 i0 z0 1 8 Try.underlying22 hi hz0 hz1 hz2 hz3 (by decide) (.slice oa d.length oc) d.length ((d.map q.vl).map fun v => .int .i64 v) rfl ?c0 ⟨wr.heap.size, 0, none⟩ 1 1 [.int .i64 (q.vl m)] rfl rfl ?c1 ?c2 ?c3 ?c4 ?_)
    | go_in)
   case c0 => exact World.ownsRow.alloc hrow _
   case c1 => exact new_cells (X := wr) (l := [.int .i64 (q.vl m)]) rfl
   case c2 => intro u hu; simp at hu; subst hu; rfl
   case c3 => unfold maxLen; omega
   case c4 => omega
   ·intro v' w1 hown hgrow hfr
    obtain ⟨g, cap, rfl⟩ := own_slice hown
    have hkq : w1.heap[rq]? = wr.heap[rq]? := grown_old hgrow V.out.2.2.2.rqlt (own_type V.out.2.2.1.row V.out.2.2.2.o (by decide))
    have hkb : w1.heap[bb]? = wr.heap[bb]? := grown_old hgrow V.out.2.2.2.bblt (own_type V.out.2.2.1.row hbb (by decide))
    have k0 := (cell_heap (j := 0) hkq).1.trans q0
    have k1 := (cell_heap (j := m * 2 + 1) hkb).1.trans b1
    have hold : ∀ r, r < w.heap.size → w1.heap[r]? = wr.heap[r]? := fun r hr => by
     refine grown_old hgrow (by omega) fun e => ?_
     have := V.out.2.2.1.new r e.symm
     omega
    have hgs := hgrow.size
    simp only [World.size_alloc] at hgs
    have F : Aside (w1.ownsRow 0 2 1 (.slice (some ⟨g, 0, none⟩) (d.length + 1) cap) (d.length + 1) ((d.map q.vl).map (fun v => .int .i64 v) ++ [.int .i64 (q.vl m)]) ∧ (∀ r, r < w.heap.size → w1.heap[r]? = wr.heap[r]?) ∧ wr.heap.size ≤ w1.heap.size ∧ ((Value.slice (some ⟨g, 0, none⟩) (d.length + 1) cap).ownBlock = (Value.slice oa d.length oc).ownBlock ∨ ∃ g', (Value.slice (some ⟨g, 0, none⟩) (d.length + 1) cap).ownBlock = some g' ∧ wr.heap.size ≤ g')) :=
     ⟨by simpa only [List.map_map] using hown, hold, by omega, hfr.imp id fun ⟨g', h1, h2⟩ => ⟨g', h1, by omega⟩⟩
    clear hown hgrow hfr hkq hkb hold hgs hbb hrow q0 b1 b0
    go_wp2
    go_roundg l.length
    case measure => simp
    case rel =>
     obtain ⟨v1, v2, v3, v4⟩ := V.out
     obtain ⟨f1, f2, f3, f4⟩ := F.out
     have e1 : (d ++ [m]).length = d.length + 1 := by simp
     refine ⟨d ++ [m], l, _, some ⟨g, 0, none⟩, cap, by rw [e1], rfl, v1, by simpa using v2, rfl, ⟨?_, by have := v3.size; omega, fun r hr => (f2 r hr).trans (v3.old r hr), fun g' hg => ?_⟩⟩
     ·rw [e1]
      simpa using f1
     ·rw [e1] at hg
      rcases f4 with h | ⟨g2, h, h2⟩
      ·exact v3.new g' (h ▸ hg)
      ·rw [h] at hg; cases hg
       have := v3.size; omega
end
noncomputable section
variable {w w' : World}
theorem threads_ref {t : Nat} (h : t < 1000000000000) : Calls Try.prog 40 #[.int .i64 t] w fun x w' => x = .returned (.int .i64 (min t 64 : Nat)) ∧ w' = w := by
  go_enter Try.func40, Try.ntmps40
  go_wp2
  all_goals (
    go_ret
    refine ⟨?_, rfl⟩
    first
      | (have e : min t 64 = t := by omega
         rw [e]
         rfl)
      | (have e : min t 64 = 64 := by omega
         rw [e]
         rfl))
theorem ops_ref {b o l c : Nat} (h : l ≤ c) (hl : l < 1000000000000) : Calls Try.prog 41 #[.slice (some ⟨b, o, none⟩) l c] w fun x w' => x = .returned (.slice (some ⟨b, o, none⟩) (min l 65536) c) ∧ w' = w := by
 rcases Nat.lt_or_ge 65536 l with h1 | h1
 ·have e : min l 65536 = 65536 := Nat.min_eq_right (by omega)
  rw [e]
  go_enter Try.func41, Try.ntmps41
  go_wp2
  go_ret
  exact ⟨rfl, rfl⟩
 ·have e : min l 65536 = l := Nat.min_eq_left h1
  rw [e]
  go_enter Try.func41, Try.ntmps41
  go_wp2
  go_ret
  exact ⟨rfl, rfl⟩
theorem ops_nil {c : Nat} {a : Option Addr} : Calls Try.prog 41 #[.slice a 0 c] w fun x w' => x = .returned (.slice a 0 c) ∧ w' = w := by
 go_enter Try.func41, Try.ntmps41
 go_wp2
 go_ret
 exact ⟨rfl, rfl⟩
end
noncomputable section
def rpBody : Code := Try.f15.body.getD .skip
def rps1 : Code := Code.piece [false] rpBody
def rps2 : Code := Code.piece [false, false] rpBody
def rps3 : Code := Code.piece [false, false, false] rpBody
def rps4 : Code := Code.piece [false, false, false, false] rpBody
def rps5 : Code := Code.piece [false, false, false, false, false] rpBody
def rps6 : Code := Code.piece [false, false, false, false, false, false] rpBody
def rps7 : Code := Code.piece [false, false, false, false, false, false, false] rpBody
def rps8 : Code := Code.piece [false, false, false, false, false, false, false, false] rpBody
def rps9 : Code := Code.piece [false, false, false, false, false, false, false, false, false] rpBody
def rps10 : Code := Code.piece [false, false, false, false, false, false, false, false, false, false] rpBody
def rps11 : Code := Code.piece [false, false, false, false, false, false, false, false, false, false, false] rpBody
def rpr0 : Code := Code.piece [true] rpBody
def rpr1 : Code := Code.piece [false, true] rpBody
def rpr2 : Code := Code.piece [false, false, true] rpBody
def rpr3 : Code := Code.piece [false, false, false, true] rpBody
def rpb0 : Code := Code.piece [false, false, false, false, true] rpBody
def rpr10 : Code := Code.piece [false, false, false, false, false, true] rpBody
def rpb2 : Code := Code.piece [false, false, false, false, false, false, true] rpBody
def rpr15 : Code := Code.piece [false, false, false, false, false, false, false, true] rpBody
def rpr16 : Code := Code.piece [false, false, false, false, false, false, false, false, true] rpBody
def rpr17 : Code := Code.piece [false, false, false, false, false, false, false, false, false, true] rpBody
def rpb4 : Code := Code.piece [false, false, false, false, false, false, false, false, false, false, true] rpBody
theorem rpBody_eq : rpBody = .seq rpr0 rps1 := by kernel_rfl
theorem rps1_eq : rps1 = .seq rpr1 rps2 := by kernel_rfl
theorem rps2_eq : rps2 = .seq rpr2 rps3 := by kernel_rfl
theorem rps3_eq : rps3 = .seq rpr3 rps4 := by kernel_rfl
theorem rps4_eq : rps4 = .seq rpb0 rps5 := by kernel_rfl
theorem rps5_eq : rps5 = .seq rpr10 rps6 := by kernel_rfl
theorem rps6_eq : rps6 = .seq rpb2 rps7 := by kernel_rfl
theorem rps7_eq : rps7 = .seq rpr15 rps8 := by kernel_rfl
theorem rps8_eq : rps8 = .seq rpr16 rps9 := by kernel_rfl
theorem rps9_eq : rps9 = .seq rpr17 rps10 := by kernel_rfl
theorem rps10_eq : rps10 = .seq rpb4 rps11 := by kernel_rfl
def rpT (s : Nat → Value) : Array Value := #[s 0, s 1, s 2, s 3, s 4, s 5, s 6, s 7, s 8, s 9, s 10, s 11, s 12, s 13, s 14, s 15, s 16, s 17, s 18, s 19, s 20, s 21, s 22, s 23, s 24, s 25, s 26, s 27, s 28, s 29, s 30, s 31, s 32, s 33, s 34, s 35, s 36, s 37, s 38, s 39, s 40, s 41, s 42, s 43, s 44, s 45, s 46, s 47, s 48, s 49, s 50, s 51, s 52, s 53, s 54, s 55, s 56, s 57, s 58, s 59, s 60, s 61, s 62, s 63, s 64, s 65, s 66, s 67, s 68, s 69, s 70, s 71, s 72, s 73, s 74, s 75, s 76, s 77, s 78, s 79, s 80, s 81, s 82, s 83, s 84, s 85, s 86, s 87, s 88, s 89, s 90, s 91, s 92, s 93, s 94, s 95, s 96, s 97, s 98, s 99, s 100, s 101, s 102, s 103, s 104, s 105, s 106, s 107, s 108, s 109, s 110, s 111, s 112, s 113]
theorem rpT_of {A : Array Value} (h : A.size = 114) : ∃ s, A = rpT s := by
 obtain ⟨s, hs, _⟩ := arr_lit A h
 exact ⟨s, hs⟩
theorem wp_seq' {P : Program} {a b : Code} {Q : Exit → Act → World → Prop} {x : Act} {w : World} (h : a.wp P (Exit.then (fun a' w' => b.wp P Q a' w') Q) x w) : (Code.seq a b).wp P Q x w := by
 apply wp_seq_k
 intro K hK
 exact wp_mono h fun e a' w' hq => by
  cases e <;> first | exact hK _ _ hq | exact hq
end
noncomputable section
variable {w w' : World}
def nrm (Q : Act → World → Prop) : Exit → Act → World → Prop
 | .normal, a, w => Q a w
 | _, _, _ => False
structure AnsAt (w wr : World) (ob : Nat) (ov sv sb : Value) (ovs : Nat → Value) (i : Nat) (xa : Option Addr) (xc : Nat) : Prop where
 o : wr.heap[ob]? = some (.cells #[.slice xa i xc, ov, sv, sb] 29 (0, 0))
 row : wr.ownsRow 0 84 1 (.slice xa i xc) i ((List.range i).map ovs)
 old : ∀ r, r < w.heap.size → r ≠ ob → wr.heap[r]? = w.heap[r]?
 size : w.heap.size ≤ wr.heap.size
 new : ∀ g, (Value.slice xa i xc).ownBlock = some g → w.heap.size ≤ g
theorem AnsAt.more {wr w1 u : World} {ob : Nat} {ov sv sb : Value} {ovs : Nat → Value} {i : Nat} {xa : Option Addr} {xc g cap : Nat} (h : AnsAt w wr ob ov sv sb ovs i xa xc) (hob : ob < w.heap.size) (hown : w1.ownsRow 0 84 1 (.slice (some ⟨g, 0, none⟩) (i + 1) cap) (i + 1) ((List.range i).map ovs ++ [ovs i]))
  (hold : ∀ r, r < wr.heap.size → some r ≠ (Value.slice xa i xc).ownBlock → w1.heap[r]? = wr.heap[r]?) (hsz : wr.heap.size ≤ w1.heap.size) (hfr : (Value.slice (some ⟨g, 0, none⟩) (i + 1) cap).ownBlock = (Value.slice xa i xc).ownBlock ∨ ∃ g', (Value.slice (some ⟨g, 0, none⟩) (i + 1) cap).ownBlock = some g' ∧ wr.heap.size ≤ g')
  (hu : u.heap = (w1.setCell ⟨ob, 0, none⟩ (.slice (some ⟨g, 0, none⟩) (i + 1) cap)).heap) : AnsAt w u ob ov sv sb ovs (i + 1) (some ⟨g, 0, none⟩) cap := by
 have hs := h.size
 have hob2 : some ob ≠ (Value.slice xa i xc).ownBlock := own_type h.row h.o (by decide)
 have ho1 : w1.heap[ob]? = _ := (hold ob (by omega) hob2).trans h.o
 have hne : ob ≠ g := by
  rintro rfl
  rcases hown.2 with ⟨h0, _⟩ | ⟨g', cap', cur, h3, _, h4, _⟩
  ·cases h0
  ·cases h3
   rw [ho1] at h4
   simp only [Option.some.injEq, Obj.cells.injEq] at h4
   exact absurd h4.2.1 (by decide)
 have hnew : ∀ g', (Value.slice (some ⟨g, 0, none⟩) (i + 1) cap).ownBlock = some g' → w.heap.size ≤ g' := fun g' hg => by
  rcases hfr with e | ⟨g2, e, h2⟩
  ·exact h.new g' (e ▸ hg)
  ·rw [e] at hg; cases hg; omega
 refine ⟨?_, ?_, fun r h1 h2 => ?_, by rw [hu, World.size_setCell]; omega, hnew⟩
 ·rw [hu, heap_setCell_eq ho1]; rfl
 ·rw [List.range_succ, List.map_append]
  exact ownsRow_same2 hown fun b hb _ => by
   simp only [Value.ownBlock, Option.some.injEq] at hb
   subst hb
   rw [hu, heap_setCell_ne _ _ _ hne.symm]
 ·rw [hu, heap_setCell_ne _ _ _ h2, hold r (by omega) fun e => by have := h.new r e.symm; omega]
  exact h.old r h1 h2
theorem rp_ans {A : Array Value} {t8 ob n lc : Nat} {la : Option Addr} {ov sv sb : Value} {tbs : Nat → Nat} {va : Nat → Option Addr} {vl vc : Nat → Nat} (hn : n ≤ 64) (hA : Slots 114 A [(8, .pointer (some ⟨t8, 0, none⟩)), (10, .slice la n lc), (17, .pointer (some ⟨ob, 0, none⟩))])
  (ho : w.heap[ob]? = some (.cells #[.slice none 0 0, ov, sv, sb] 29 (0, 0))) (hl : ∀ j, j < n → ∃ lb, la = some ⟨lb, 0, none⟩ ∧ lb ≠ ob ∧ w.cell? ⟨lb, j, none⟩ = some (.pointer (some ⟨tbs j, 0, none⟩)) ∧ tbs j ≠ ob ∧ w.cell? ⟨tbs j, 3, none⟩ = some (.slice (va j) (vl j) (vc j)))
  {Q : Act → World → Prop} (hQ : ∀ A' w' xa xc, Slots 114 A' [(8, .pointer (some ⟨t8, 0, none⟩)), (17, .pointer (some ⟨ob, 0, none⟩))] → AnsAt w w' ob ov sv sb (fun j => .slice (va j) (vl j) (vc j)) n xa xc → Q ⟨A', []⟩ w') : rpb4.wp Try.prog (nrm Q) ⟨A, []⟩ w := by
 obtain ⟨i0, z0, hi, hz0, hz1, hz2, hz3⟩ := infoA84
 obtain ⟨hsz, h8, h10, h17, _⟩ := hA
 obtain ⟨s, rfl⟩ := rpT_of hsz
 change s 8 = _ at h8
 change s 10 = _ at h10
 change s 17 = _ at h17
 clear hsz
 have L : Aside ((∀ j, j < n → ∃ lb, la = some ⟨lb, 0, none⟩ ∧ lb ≠ ob ∧ w.cell? ⟨lb, j, none⟩ = some (.pointer (some ⟨tbs j, 0, none⟩)) ∧ tbs j ≠ ob ∧ w.cell? ⟨tbs j, 3, none⟩ = some (.slice (va j) (vl j) (vc j))) ∧ ob < w.heap.size) := ⟨hl, (Array.getElem?_eq_some_iff.1 ho).1⟩
 have O : Aside (w.heap[ob]? = some (.cells #[.slice none 0 0, ov, sv, sb] 29 (0, 0))) := ho
 have HQ : Aside (∀ A' w' xa xc, Slots 114 A' [(8, .pointer (some ⟨t8, 0, none⟩)), (17, .pointer (some ⟨ob, 0, none⟩))] → AnsAt w w' ob ov sv sb (fun j => .slice (va j) (vl j) (vc j)) n xa xc → Q ⟨A', []⟩ w') := hQ
 clear hl ho hQ
 simp only [rpb4, rpBody, Code.piece, Try.f15, Option.getD_some, rpT, h8, h10, h17]
 go_wp2
 go_loopg [18] n (fun g x wr => ∃ (i : Nat) (xa : Option Addr) (xc : Nat), x = .int .i64 i ∧ i ≤ n ∧ g = n - i ∧ AnsAt w wr ob ov sv sb (fun j => .slice (va j) (vl j) (vc j)) i xa xc)
 case atStart => exact ⟨0, none, 0, rfl, Nat.zero_le _, rfl, ⟨O.out, ⟨rfl, .inl ⟨rfl, rfl⟩⟩, fun r _ _ => rfl, Nat.le_refl _, fun g h => by cases h⟩⟩
 case round =>
  obtain ⟨i, xa, xc, rfl, hin, rfl, hA⟩ := hrel
  have R : Aside (AnsAt w wr ob ov sv sb (fun j => .slice (va j) (vl j) (vc j)) i xa xc) := hA
  have ho := hA.o
  have hrow := hA.row
  have hsz := hA.size
  have hobl := L.out.2
  rcases Nat.lt_or_ge i n with hlt | hge
  ·obtain ⟨lb, rfl, e1, e2, e3, e4⟩ := L.out.1 i hlt
   have f0 : wr.cell? ⟨ob, 0, none⟩ = some (.slice xa i xc) := by simp [World.cell?, ho]
   have z0' : wr.frozen? ⟨ob, 0, none⟩ = false := by simp [World.frozen?, ho]
   have hkeep : ∀ {a : Addr} {v : Value}, a.block ≠ ob → w.cell? a = some v → wr.cell? a = some v := fun {a v} hne h => by
    obtain ⟨c, e, z, hb⟩ := cell_block h
    have := hA.old a.block (Array.getElem?_eq_some_iff.1 hb).1 hne
    rw [← h]; unfold World.cell?; simp only [this]
   have f1 := hkeep e1 e2
   have f2 := hkeep e3 e4
   have p0 := (cellB_alloc f0 (.cells #[.slice (va i) (vl i) (vc i)] 84)).1
   have hwr : IntKind.i64.wrap ((i : Int) + 1) = (i : Int) + 1 := IntWalk.i64_in _ (by omega)
   have hoblt : ob < wr.heap.size := by omega
   clear hkeep e1 e2 e3 e4 hA ho
   go_wp2
   go_region_law (refine step_append_fresh rfl (.tmp 102) (.tmp 110) 27 rfl 84 i0 z0 1 24 Try.underlying27 hi hz0 hz1 hz2 hz3 (by decide) (.slice xa i xc) i ((List.range i).map fun j => .slice (va j) (vl j) (vc j)) (by simp [Act.eval, Act.put]) ((show wr.drew.ownsRow 0 84 1 _ _ _ from hrow).alloc _) ⟨wr.heap.size, 0, none⟩ 1 1 [.slice (va i) (vl i) (vc i)] (by simp [Act.eval, Act.put]) rfl (new_cells (X := wr.drew) (l := [.slice (va i) (vl i) (vc i)]) rfl) (by intro u hu; simp at hu; subst hu; rfl) (by unfold maxLen; omega) (by omega) ?_; intro v' w1 hown hgrow hfr; obtain ⟨g, cap, rfl⟩ := own_slice hown; have hk1 := grown_old (W := wr.drew) hgrow (r := ob) hoblt (own_type hrow R.out.o (by decide)); have k0 := (cell_heap (j := 0) hk1).1.trans f0; have k1 := (cell_heap (j := 0) hk1).2.trans z0'; have F : Aside (w1.ownsRow 0 84 1 (.slice (some ⟨g, 0, none⟩) (i + 1) cap) (i + 1) ((List.range i).map (fun j => .slice (va j) (vl j) (vc j)) ++ [.slice (va i) (vl i) (vc i)]) ∧ (∀ r, r < wr.heap.size → some r ≠ (Value.slice xa i xc).ownBlock → w1.heap[r]? = wr.heap[r]?) ∧ wr.heap.size ≤ w1.heap.size ∧ ((Value.slice (some ⟨g, 0, none⟩) (i + 1) cap).ownBlock = (Value.slice xa i xc).ownBlock ∨ ∃ g', (Value.slice (some ⟨g, 0, none⟩) (i + 1) cap).ownBlock = some g' ∧ wr.heap.size ≤ g')) := ⟨hown, fun r hr hn => grown_old (W := wr.drew) hgrow hr hn, Nat.le_trans (by simp [World.drew]) hgrow.size, hfr.imp id fun ⟨g', h1, h2⟩ => ⟨g', h1, Nat.le_trans (by simp [World.drew]) h2⟩⟩; clear hown hgrow hfr hk1)
   all_goals go_wp2
   all_goals (
    go_roundg (n - (i + 1))
    case measure => omega
    case rel => exact ⟨i + 1, _, _, rfl, hlt, rfl, R.out.more L.out.2 F.out.1 F.out.2.1 F.out.2.2.1 F.out.2.2.2 rfl⟩)
  ·obtain rfl : i = n := by omega
   clear hA ho hrow
   go_wp2
   exact (HQ.out _ _ _ _ ⟨rfl, rfl, rfl, trivial⟩ R.out)
theorem rp_end {A : Array Value} {t8 ob : Nat} {xa oa sa : Option Addr} {xl xc ol oc sl sc : Nat} {st : Bool} (hA : Slots 114 A [(8, .pointer (some ⟨t8, 0, none⟩)), (17, .pointer (some ⟨ob, 0, none⟩))]) (h1 : w.heap[ob]? = some (.cells #[.slice xa xl xc, .slice oa ol oc, .slice sa sl sc, .bool st] 29 (0, 0))) (h2 : w.heap[t8]? = some (.cells #[.slice none 0 0, .slice none 0 0, .slice none 0 0, .bool false] 29 (0, 0))) (hne : ¬ ob = t8)
  {R : Value → World → Prop} (hR : ∀ w', (∀ r, r ≠ t8 → w'.heap[r]? = w.heap[r]?) → w'.heap.size = w.heap.size → R (.agg #[.slice xa xl xc, .slice oa ol oc, .slice sa sl sc, .bool st]) w') : rps11.wp Try.prog (bodyPost Try.prog Try.f15 fun x w' => ∃ v, x = .returned v ∧ R v w') ⟨A, []⟩ w := by
 obtain ⟨hsz, h8, h17, _⟩ := hA
 obtain ⟨s, rfl⟩ := rpT_of hsz
 change s 8 = _ at h8
 change s 17 = _ at h17
 clear hsz
 have e0 : w.cell? ⟨ob, 0, none⟩ = some (.slice xa xl xc) := by simp [World.cell?, h1]
 have e1 : w.cell? ⟨ob, 1, none⟩ = some (.slice oa ol oc) := by simp [World.cell?, h1]
 have e2 : w.cell? ⟨ob, 2, none⟩ = some (.slice sa sl sc) := by simp [World.cell?, h1]
 have e3 : w.cell? ⟨ob, 3, none⟩ = some (.bool st) := by simp [World.cell?, h1]
 have g0 : w.cell? ⟨t8, 0, none⟩ = some (.slice none 0 0) := by simp [World.cell?, h2]
 have g1 : w.cell? ⟨t8, 1, none⟩ = some (.slice none 0 0) := by simp [World.cell?, h2]
 have g2 : w.cell? ⟨t8, 2, none⟩ = some (.slice none 0 0) := by simp [World.cell?, h2]
 have g3 : w.cell? ⟨t8, 3, none⟩ = some (.bool false) := by simp [World.cell?, h2]
 have z : ∀ k, w.frozen? ⟨t8, k, none⟩ = false := fun k => by simp [World.frozen?, h2]
 have z0 := z 0
 have z1 := z 1
 have z2 := z 2
 have z3 := z 3
 have HR : Aside (∀ w', (∀ r, r ≠ t8 → w'.heap[r]? = w.heap[r]?) → w'.heap.size = w.heap.size → R (.agg #[.slice xa xl xc, .slice oa ol oc, .slice sa sl sc, .bool st]) w') := hR
 have H2 : Aside (w.heap[t8]? = some (.cells #[.slice none 0 0, .slice none 0 0, .slice none 0 0, .bool false] 29 (0, 0))) := h2
 clear z h1 h2 hR
 simp only [rps11, rpBody, Code.piece, Try.f15, Option.getD_some, rpT, h8, h17]
 go_wp2
 have hb : ((((w.setCell ⟨t8, 0, none⟩ (.slice xa xl xc)).setCell ⟨t8, 1, none⟩ (.slice oa ol oc)).setCell ⟨t8, 2, none⟩ (.slice sa sl sc)).setCell ⟨t8, 3, none⟩ (.bool st)).heap[t8]? = some (.cells #[.slice xa xl xc, .slice oa ol oc, .slice sa sl sc, .bool st] 29 (0, 0)) := by
  rw [heap_setCell_eq (heap_setCell_eq (heap_setCell_eq (heap_setCell_eq H2.out _) _) _) _]; rfl
 have hold : ∀ r, r ≠ t8 → ((((w.setCell ⟨t8, 0, none⟩ (.slice xa xl xc)).setCell ⟨t8, 1, none⟩ (.slice oa ol oc)).setCell ⟨t8, 2, none⟩ (.slice sa sl sc)).setCell ⟨t8, 3, none⟩ (.bool st)).heap[r]? = w.heap[r]? := fun r hr => by
  rw [heap_setCell_ne _ _ _ hr, heap_setCell_ne _ _ _ hr, heap_setCell_ne _ _ _ hr, heap_setCell_ne _ _ _ hr]
 have hsz : ((((w.setCell ⟨t8, 0, none⟩ (.slice xa xl xc)).setCell ⟨t8, 1, none⟩ (.slice oa ol oc)).setCell ⟨t8, 2, none⟩ (.slice sa sl sc)).setCell ⟨t8, 3, none⟩ (.bool st)).heap.size = w.heap.size := by simp
 have HR2 := HR.out _ hold hsz
 clear hold hsz HR e0 e1 e2 e3 g0 g1 g2 g3 z0 z1 z2 z3
 generalize (((w.setCell ⟨t8, 0, none⟩ (.slice xa xl xc)).setCell ⟨t8, 1, none⟩ (.slice oa ol oc)).setCell ⟨t8, 2, none⟩ (.slice sa sl sc)).setCell ⟨t8, 3, none⟩ (.bool st) = W3 at hb HR2 ⊢
 have q0 : W3.cell? ⟨t8, 0, none⟩ = some (.slice xa xl xc) := by simp [World.cell?, hb]
 have q1 : W3.cell? ⟨t8, 1, none⟩ = some (.slice oa ol oc) := by simp [World.cell?, hb]
 have q2 : W3.cell? ⟨t8, 2, none⟩ = some (.slice sa sl sc) := by simp [World.cell?, hb]
 have q3 : W3.cell? ⟨t8, 3, none⟩ = some (.bool st) := by simp [World.cell?, hb]
 exact ⟨rfl, .agg #[.slice xa xl xc, .slice oa ol oc, .slice sa sl sc, .bool st], by simp [results, Try.f15, go_sem, q0, q1, q2, q3], _, rfl, HR2⟩
end
noncomputable section
variable {W wr w1 w2 : World} {ops : Nat → List Op4} {oa : Nat → Option Addr} {ol oc : Nat → Nat} {i k rq bb bc : Nat} {s : PS} {tbs : Nat → Nat} {ovs : Nat → Value} {la ea : Option Addr} {lc ec : Nat}
theorem ops_any {w : World} {a : Option Addr} {l c : Nat} (h : l ≤ c) (hs : 0 < l → ∃ b o, a = some ⟨b, o, none⟩) (hl : l < 1000000000000) : Calls Try.prog 41 #[.slice a l c] w fun x w' => x = .returned (.slice a (min l 65536) c) ∧ w' = w := by
 rcases Nat.eq_zero_or_pos l with rfl | h0
 ·rw [Nat.zero_min]
  exact ops_nil
 ·obtain ⟨b, o, rfl⟩ := hs h0
  exact ops_ref h hl
structure RB (W : World) (oa : Nat → Option Addr) (ol oc : Nat → Nat) (i k : Nat) (s : PS) (rq bb bc : Nat) (tbs : Nat → Nat) (ovs : Nat → Value) (la : Option Addr) (lc : Nat) (ea : Option Addr) (ec : Nat) (wr : World) : Prop where
 p : RPl W oa ol oc i s rq bb bc tbs ovs wr
 l : wr.ownsRow 0 92 1 (.slice la i lc) i ((List.range i).map fun j => .pointer (some ⟨tbs j, 0, none⟩))
 e : wr.ownsRow 0 4 1 (.slice ea k ec) k ((List.range k).map fun j => .bool (endedOf s j))
 nl : ∀ g, (Value.slice la i lc).ownBlock = some g → W.heap.size ≤ g
 ne : ∀ g, (Value.slice ea k ec).ownBlock = some g → W.heap.size ≤ g
theorem RB.heap {w' : World} (h : RB W oa ol oc i k s rq bb bc tbs ovs la lc ea ec wr) (e : w'.heap = wr.heap) : RB W oa ol oc i k s rq bb bc tbs ovs la lc ea ec w' :=
 ⟨h.p.same (by rw [e]; exact Nat.le_refl _) (fun r _ => by rw [e]) (fun r _ _ _ _ _ => by rw [e]), ownsRow_same2 h.l fun _ _ _ => by rw [e], ownsRow_same2 h.e fun _ _ _ => by rw [e], h.nl, h.ne⟩
theorem RB.addT (h : RB W oa ol oc k k s rq bb bc tbs ovs la lc ea ec wr) (h0 : s.th k = ⟨0, none, []⟩) {g cap X : Nat}
  (hown : w1.ownsRow 0 92 1 (.slice (some ⟨g, 0, none⟩) (k + 1) cap) (k + 1) ((List.range k).map (fun j => Value.pointer (some ⟨tbs j, 0, none⟩)) ++ [.pointer (some ⟨wr.heap.size, 0, none⟩)]))
  (hgrow : ((wr.alloc (.cells #[.slice (oa k) (ol k) (oc k), .int .i64 0, .pointer none, .slice none 0 0] 95)).alloc (.cells #[.pointer (some ⟨wr.heap.size, 0, none⟩)] 92)).grownBy w1 (Value.slice la k lc).ownBlock)
  (hfr : (Value.slice (some ⟨g, 0, none⟩) (k + 1) cap).ownBlock = (Value.slice la k lc).ownBlock ∨ ∃ g', (Value.slice (some ⟨g, 0, none⟩) (k + 1) cap).ownBlock = some g' ∧ X ≤ g') (hX : wr.heap.size ≤ X) :
  ∃ tbs' ovs', RB W oa ol oc (k + 1) k s rq bb bc tbs' ovs' (some ⟨g, 0, none⟩) cap ea ec w1 ∧ tbs' k = wr.heap.size ∧ ovs' k = .slice none 0 0 := by
 have hsz := h.p.size
 have hgs := hgrow.size
 simp only [World.size_alloc] at hgs
 have hold : ∀ r, r < wr.heap.size → some r ≠ (Value.slice la k lc).ownBlock → w1.heap[r]? = wr.heap[r]? := fun r hr hne => (grown_old hgrow (by simp; omega) hne).trans (heap_alloc_lt _ _ hr)
 have hty : ∀ (r : Nat) (c : Array Value) (e : TypeId) (z : Nat × Nat), wr.heap[r]? = some (.cells c e z) → e ≠ 92 → w1.heap[r]? = wr.heap[r]? := fun r c e z hr he => hold r (Array.getElem?_eq_some_iff.1 hr).1 (own_type h.l hr (Ne.symm he))
 have htb : w1.heap[wr.heap.size]? = some (.cells #[.slice (oa k) (ol k) (oc k), .int .i64 0, .pointer none, .slice none 0 0] 95 (0, 0)) := by
  refine (grown_old hgrow (by simp) ?_).trans (heap_alloc_new _ _)
  intro e
  have := h.l.lt _ e.symm
  omega
 have hp := h.p.add (tb := wr.heap.size) (Nat.le_refl _) (by omega) (fun r hr => hold r (by omega) fun e => by have := h.nl r e.symm; omega) (fun r c e z hr he => hty r c e z hr (by rcases he with rfl | rfl | rfl | rfl | rfl <;> decide)) htb h0
 refine ⟨_, _, ⟨hp, ?_, ?_, fun g' hg => ?_, h.ne⟩, if_pos rfl, if_pos rfl⟩
 ·have e1 : (List.range (k + 1)).map (fun j => Value.pointer (some ⟨if j = k then wr.heap.size else tbs j, 0, none⟩)) = (List.range k).map (fun j => Value.pointer (some ⟨tbs j, 0, none⟩)) ++ [.pointer (some ⟨wr.heap.size, 0, none⟩)] := by
   rw [List.range_succ, List.map_append]
   congr 1
   ·exact List.map_congr_left fun j hj => by rw [if_neg (by have := List.mem_range.1 hj; omega)]
   ·simp
  rw [e1]
  exact hown
 ·exact ownsRow_same2 h.e fun b hb _ => by
   obtain ⟨c2, hc2⟩ := own_row_ty h.e hb
   exact hty _ _ _ _ hc2 (by decide)
 ·rcases hfr with e | ⟨g2, e, h2⟩
  ·exact h.nl g' (e ▸ hg)
  ·rw [e] at hg; cases hg; omega
theorem RB.born (h : RB W oa ol oc (k + 1) k s rq bb bc tbs ovs la lc ea ec wr) (h0 : s.th k = ⟨0, none, []⟩) (hN : NextOut wr rq (tbs k) bb (ovs k) (oa k) (ol k) (oc k) w2 (nextF (ops k) s.q 0 [] .nil)) :
  ∃ bb' bc' ovs', RB W oa ol oc (k + 1) k (s.put k (advL (ops k) s.q (s.th k))) rq bb' bc' tbs ovs' la lc ea ec w2 := by
 obtain ⟨bb', bc', ovs', hp, hk⟩ := h.p.born (Nat.lt_succ_self k) h0 hN
 refine ⟨bb', bc', ovs', hp, ?_, ?_, h.nl, h.ne⟩
 ·exact ownsRow_same2 h.l fun b hb _ => by
   obtain ⟨c2, hc2⟩ := own_row_ty h.l hb
   exact hk _ _ _ _ hc2 (by decide) (by decide) (by decide) (by decide) (by decide)
 ·have e1 : (List.range k).map (fun j => Value.bool (endedOf (s.put k (advL (ops k) s.q (s.th k))) j)) = (List.range k).map (fun j => Value.bool (endedOf s j)) :=
   List.map_congr_left fun j hj => by
    have : j ≠ k := by have := List.mem_range.1 hj; omega
    simp [endedOf, PS.live, PS.put, this]
  rw [e1]
  exact ownsRow_same2 h.e fun b hb _ => by
   obtain ⟨c2, hc2⟩ := own_row_ty h.e hb
   exact hk _ _ _ _ hc2 (by decide) (by decide) (by decide) (by decide) (by decide)
theorem RB.endE (h : RB W oa ol oc (k + 1) k s rq bb bc tbs ovs la lc ea ec wr) {b : Bool} (hb : b = endedOf s k) {g cap X : Nat} (hown : w1.ownsRow 0 4 1 (.slice (some ⟨g, 0, none⟩) (k + 1) cap) (k + 1) ((List.range k).map (fun j => Value.bool (endedOf s j)) ++ [.bool b]))
  (hgrow : (wr.alloc (.cells #[.bool b] 4)).grownBy w1 (Value.slice ea k ec).ownBlock) (hfr : (Value.slice (some ⟨g, 0, none⟩) (k + 1) cap).ownBlock = (Value.slice ea k ec).ownBlock ∨ ∃ g', (Value.slice (some ⟨g, 0, none⟩) (k + 1) cap).ownBlock = some g' ∧ X ≤ g') (hX : wr.heap.size ≤ X) :
  RB W oa ol oc (k + 1) (k + 1) s rq bb bc tbs ovs la lc (some ⟨g, 0, none⟩) cap w1 := by
 subst hb
 have hsz := h.p.size
 have hgs := hgrow.size
 simp only [World.size_alloc] at hgs
 have hold : ∀ r, r < wr.heap.size → some r ≠ (Value.slice ea k ec).ownBlock → w1.heap[r]? = wr.heap[r]? := fun r hr hne => grown_old hgrow hr hne
 have hty : ∀ (r : Nat) (c : Array Value) (e : TypeId) (z : Nat × Nat), wr.heap[r]? = some (.cells c e z) → e ≠ 4 → w1.heap[r]? = wr.heap[r]? := fun r c e z hr he => hold r (Array.getElem?_eq_some_iff.1 hr).1 (own_type h.e hr (Ne.symm he))
 refine ⟨h.p.same (by omega) (fun r hr => hold r (by omega) fun e => by have := h.ne r e.symm; omega) (fun r c e z hr he => hty r c e z hr (by rcases he with rfl | rfl | rfl | rfl | rfl <;> decide)), ?_, ?_, h.nl, fun g' hg => ?_⟩
 ·exact ownsRow_same2 h.l fun b hb _ => by
   obtain ⟨c2, hc2⟩ := own_row_ty h.l hb
   exact hty _ _ _ _ hc2 (by decide)
 ·rw [List.range_succ, List.map_append]
  exact hown
 ·rcases hfr with e | ⟨g2, e, h2⟩
  ·exact h.ne g' (e ▸ hg)
  ·rw [e] at hg; cases hg; omega
end
noncomputable section
variable {W w : World} {ops : Nat → List Op4} {oa : Nat → Option Addr} {ol oc : Nat → Nat}
structure OpsW (W : World) (n : Nat) (oa : Nat → Option Addr) (ol : Nat → Nat) (ops : Nat → List Op4) : Prop where
 len : ∀ j, j < n → (ops j).length = ol j
 le : ∀ j, j < n → ol j ≤ 65536
 op : ∀ j, j < n → ∀ k x, (ops j)[k]? = some x → ∃ opb oo, oa j = some ⟨opb, oo, none⟩ ∧ opb < W.heap.size ∧
  W.cell? ⟨opb, oo + k * 4, none⟩ = some (.int .i64 x.kd) ∧ W.cell? ⟨opb, oo + k * 4 + 1, none⟩ = some (.int .i64 x.a) ∧ W.cell? ⟨opb, oo + k * 4 + 2, none⟩ = some (.int .i64 x.b) ∧ W.cell? ⟨opb, oo + k * 4 + 3, none⟩ = some (.int .i64 x.c)
theorem OpsW.mem {n : Nat} (h : OpsW W n oa ol ops) {u : World} (hs : W.heap.size ≤ u.heap.size) (hold : ∀ r, r < W.heap.size → u.heap[r]? = W.heap[r]?) {j : Nat} (hj : j < n) {X : Nat → Prop} (hX : ∀ r, X r → W.heap.size ≤ r) : OpsMem u (oa j) (ol j) (ops j) X :=
 ⟨h.len j hj, fun k x hx => by
  obtain ⟨opb, oo, e1, e2, c0, c1, c2, c3⟩ := h.op j hj k x hx
  have hb := hold opb e2
  exact ⟨opb, oo, e1, by omega, fun hn => by have := hX _ hn; omega, (cell_heap hb).1.trans c0, (cell_heap hb).1.trans c1, (cell_heap hb).1.trans c2, (cell_heap hb).1.trans c3⟩⟩
theorem PInv.pos {n L : Nat} {s : PS} {ch : List Nat} (h : PInv ops n L s ch) : 0 < s.q.B.length ∧ s.q.B.length ≤ L := by
 have h1 := h.kc.lt 0 h.kc.z
 have h2 := h.sz
 omega
theorem RB.birth {n rq bb bc k : Nat} {s : PS} {tbs : Nat → Nat} {ovs : Nat → Value} {la ea : Option Addr} {lc ec : Nat} {L : Nat} {ch : List Nat} (h : RB W oa ol oc (k + 1) k s rq bb bc tbs ovs la lc ea ec w) (hops : OpsW W n oa ol ops) (hk : k < n) (h0 : s.th k = ⟨0, none, []⟩) (hI : PInv ops n L s ch) (hL : L < 20000000) (ho : ovs k = .slice none 0 0) :
    Calls Try.prog 42 #[.pointer (some ⟨rq, 0, none⟩), .pointer (some ⟨tbs k, 0, none⟩)] w fun e w' => e = .returned (.bool (advL (ops k) s.q (s.th k)).2.call.isNone) ∧ NextOut w rq (tbs k) bb (ovs k) (oa k) (ol k) (oc k) w' (nextF (ops k) s.q 0 [] .nil) := by
  have hT := h.p.t k (Nat.lt_succ_self k)
  simp only [h0, cst] at hT
  obtain ⟨hp, hle⟩ := hI.pos
  have := next_ref (LIM := 30000000) h.p.q hT (hops.mem h.p.size h.p.old hk fun r hr => by
    rcases hr with rfl | rfl | rfl | e
    · exact h.p.nq
    · exact h.p.nt k (Nat.lt_succ_self k)
    · exact h.p.nb
    · exact h.p.nv k r (Nat.lt_succ_self k) e.symm) (by rcases Nat.eq_zero_or_pos (ol k) with e | e
                                                        · exact .inr ⟨e.symm, rfl⟩
                                                        · exact .inl e) (by have := hops.le k hk; omega) (by omega) hp (hops.le k hk) rfl
  rw [h0, advL_next]
  exact this
set_option maxHeartbeats 4000000 in
theorem rp_births {A : Array Value} {vs : List Int} {n tb o tl tc rq bb0 bc0 : Nat} {ta : Option Addr} {sv mv v8 : Value} {ol0 : Nat → Nat} {tbs0 : Nat → Nat} {ovs0 : Nat → Value} (hn64 : n ≤ 64) (hnt : min tl 64 = n) (htl : tl < 1000000000000) (hta : 0 < n → ta = some ⟨tb, o, none⟩) (htb : 0 < n → tb < W.heap.size)
  (hth : ∀ j, j < n → W.cell? ⟨tb, o + j, none⟩ = some (.slice (oa j) (ol0 j) (oc j)) ∧ ol0 j ≤ oc j ∧ ol0 j < 1000000000000 ∧ ol j = min (ol0 j) 65536 ∧ (0 < ol0 j → ∃ b o, oa j = some ⟨b, o, none⟩)) (hops : OpsW W n oa ol ops) (hL : 1 + vs.length + sm (fun i => (ops i).length) n < 20000000)
  (hR : RB W oa ol oc 0 0 (q00 vs) rq bb0 bc0 tbs0 ovs0 none 0 none 0 w) (hA : Slots 114 A [(1, .slice ta tl tc), (2, sv), (3, mv), (8, v8), (9, .pointer (some ⟨rq, 0, none⟩)), (10, .slice none 0 0), (11, .slice none 0 0)]) {Q : Act → World → Prop}
  (hQ : ∀ A' w' bb bc tbs ovs la lc ea ec, Slots 114 A' [(2, sv), (3, mv), (8, v8), (9, .pointer (some ⟨rq, 0, none⟩)), (10, .slice la n lc), (11, .slice ea n ec)] → RB W oa ol oc n n (pBorns ops n (q00 vs)) rq bb bc tbs ovs la lc ea ec w' → Q ⟨A', []⟩ w') : rpb0.wp Try.prog (nrm Q) ⟨A, []⟩ w := by
 obtain ⟨i1, z1, hi1, hz10, hz11, hz12, hz13⟩ := infoA92
 obtain ⟨i2, z2, hi2, hz20, hz21, hz22, hz23⟩ := infoA4
 obtain ⟨hsz, h1, h2, h3, h8, h9, h10, h11, _⟩ := hA
 obtain ⟨s, rfl⟩ := rpT_of hsz
 change s 1 = _ at h1
 change s 2 = _ at h2
 change s 3 = _ at h3
 change s 8 = _ at h8
 change s 9 = _ at h9
 change s 10 = _ at h10
 change s 11 = _ at h11
 clear hsz
 have HT : Aside (∀ u : World, Calls Try.prog 40 #[.int .i64 tl] u fun x w' => x = .returned (.int .i64 n) ∧ w' = u) := fun u => by
  have := threads_ref (w := u) htl
  rw [hnt] at this
  exact this
 have HO : Aside (∀ k, k < n → ∀ u : World, Calls Try.prog 41 #[.slice (oa k) (ol0 k) (oc k)] u fun x w' => x = .returned (.slice (oa k) (ol k) (oc k)) ∧ w' = u) := fun k hk u => by
  obtain ⟨_, g2, g3, g4, g5⟩ := hth k hk
  rw [g4]
  exact ops_any g2 g5 g3
 have HI : Aside ((0 < n → ta = some ⟨tb, o, none⟩) ∧ (0 < n → tb < W.heap.size) ∧ (∀ j, j < n → W.cell? ⟨tb, o + j, none⟩ = some (.slice (oa j) (ol0 j) (oc j))) ∧ OpsW W n oa ol ops) := ⟨hta, htb, fun j hj => (hth j hj).1, hops⟩
 have HP : Aside (∀ k, k ≤ n → ∃ ch, PInv ops n (1 + vs.length + sm (fun i => (ops i).length) n) (pBorns ops k (q00 vs)) ch) := fun k hk => ⟨_, PInv.pBorns (PInv.q00 vs ops n) (fun j => rfl) k hk⟩
 have H0 : Aside (∀ k, (pBorns ops k (q00 vs)).th k = ⟨0, none, []⟩) := fun k => pBorns_th _ k k (Nat.le_refl _)
 have R0 : Aside (RB W oa ol oc 0 0 (q00 vs) rq bb0 bc0 tbs0 ovs0 none 0 none 0 w) := hR
 have HQ : Aside (∀ A' w' bb bc tbs ovs la lc ea ec, Slots 114 A' [(2, sv), (3, mv), (8, v8), (9, .pointer (some ⟨rq, 0, none⟩)), (10, .slice la n lc), (11, .slice ea n ec)] → RB W oa ol oc n n (pBorns ops n (q00 vs)) rq bb bc tbs ovs la lc ea ec w' → Q ⟨A', []⟩ w') := hQ
 have HL : Aside (1 + vs.length + sm (fun i => (ops i).length) n < 20000000) := hL
 have hntl : n ≤ tl := by omega
 clear hta htb hth hops hR hQ hL hnt
 simp only [rpb0, rpBody, Code.piece, Try.f15, Option.getD_some, rpT, h1, h2, h3, h8, h9, h10, h11]
 clear h1 h2 h3 h8 h9 h10 h11
 go_wp2
 go_loopg [10, 11, 12] n (fun g l e x wr => ∃ k bb bc tbs ovs la lc ea ec, l = .slice la k lc ∧ e = .slice ea k ec ∧ x = .int .i64 (k : Nat) ∧ k ≤ n ∧ g = n - k ∧ RB W oa ol oc k k (pBorns ops k (q00 vs)) rq bb bc tbs ovs la lc ea ec wr)
 case atStart => exact ⟨0, bb0, bc0, tbs0, ovs0, none, 0, none, 0, rfl, rfl, rfl, Nat.zero_le _, rfl, R0.out⟩
 case round =>
  obtain ⟨k, bb, bc, tbs, ovs, la, lc, ea, ec, rfl, rfl, rfl, hkn, rfl, hB⟩ := hrel
  have B0 : Aside (RB W oa ol oc k k (pBorns ops k (q00 vs)) rq bb bc tbs ovs la lc ea ec wr) := hB
  clear hB
  go_wp2_with (fail)
  go_at_call 40
  refine (HT.out wr).mono ?_
  rintro e u ⟨rfl, hu⟩
  rw [hu]
  clear hu u
  rcases Nat.lt_or_ge k n with hlt | hge
  ·have hktl : k < tl := by omega
   obtain ⟨rfl⟩ : ta = some ⟨tb, o, none⟩ := HI.out.1 (by omega)
   have f0 : wr.cell? ⟨tb, o + k, none⟩ = some (.slice (oa k) (ol0 k) (oc k)) := (cell_heap (B0.out.p.old tb (HI.out.2.1 (by omega)))).1.trans (HI.out.2.2.1 k hlt)
   have hwr : IntKind.i64.wrap ((k : Int) + 1) = (k : Int) + 1 := IntWalk.i64_in _ (by omega)
   go_wp2_with (fail)
   go_at_call 41
   refine (HO.out k hlt wr).mono ?_
   rintro e u ⟨rfl, hu⟩
   rw [hu]
   clear hu u f0
   have hrow := B0.out.l
   go_wp2_with (at_builtin; refine wpList_append_fresh rfl (.tmp 35) (.tmp 37) 89 rfl 92 i1 z1 1 8 Try.underlying89 hi1 hz10 hz11 hz12 hz13 (by decide) (.slice la k lc) k ((List.range k).map fun j => .pointer (some ⟨tbs j, 0, none⟩)) rfl ?c0 ⟨wr.heap.size + 1, 0, none⟩ 1 1 [.pointer (some ⟨wr.heap.size, 0, none⟩)] rfl rfl ?c1 ?c2 ?c3 ?c4 ?_)
   case c0 => exact World.ownsRow.alloc (World.ownsRow.alloc hrow _) _
   case c1 => exact new_cells (X := wr.alloc (.cells #[.slice (oa k) (ol k) (oc k), .int .i64 0, .pointer none, .slice none 0 0] 95)) (l := [.pointer (some ⟨wr.heap.size, 0, none⟩)]) (by simp)
   case c2 => intro u hu; simp at hu; subst hu; rfl
   case c3 => unfold maxLen; omega
   case c4 => omega
   ·intro v' w1 hown hgrow hfr
    obtain ⟨g, cap, rfl⟩ := own_slice hown
    obtain ⟨tbs', ovs', hB1, ht1, ho1⟩ := B0.out.addT (H0.out k) hown hgrow hfr (by first | omega | (simp; omega))
    have B1 : Aside (RB W oa ol oc (k + 1) k (pBorns ops k (q00 vs)) rq bb bc tbs' ovs' (some ⟨g, 0, none⟩) cap ea ec w1 ∧ ovs' k = .slice none 0 0) := ⟨hB1, ho1⟩
    have hrow2 := hB1.e
    rw [← ht1]
    have C1 : Aside (Calls Try.prog 42 #[.pointer (some ⟨rq, 0, none⟩), .pointer (some ⟨tbs' k, 0, none⟩)] w1 fun e w' => e = .returned (.bool (advL (ops k) (pBorns ops k (q00 vs)).q ((pBorns ops k (q00 vs)).th k)).2.call.isNone) ∧ NextOut w1 rq (tbs' k) bb (ovs' k) (oa k) (ol k) (oc k) w' (nextF (ops k) (pBorns ops k (q00 vs)).q 0 [] .nil)) := by
     obtain ⟨ch, hI⟩ := HP.out k hkn
     exact hB1.birth HI.out.2.2.2 hlt (H0.out k) hI HL.out ho1
    clear hB1 ht1 ho1 hown hgrow hfr hrow hrow2
    go_wp2_with (fail)
    go_at_call 42
    refine C1.out.mono ?_
    rintro e w2 ⟨rfl, hN⟩
    obtain ⟨bb2, bc2, ovs2, hB2⟩ := B1.out.1.born (H0.out k) hN
    have B2 : Aside (RB W oa ol oc (k + 1) k (pBorns ops (k + 1) (q00 vs)) rq bb2 bc2 tbs' ovs2 (some ⟨g, 0, none⟩) cap ea ec w2) := hB2
    have hrow3 : w2.ownsRow 0 4 1 (.slice ea k ec) k ((List.range k).map fun j => .bool (endedOf (pBorns ops (k + 1) (q00 vs)) j)) := hB2.e
    have hbe : (advL (ops k) (pBorns ops k (q00 vs)).q ((pBorns ops k (q00 vs)).th k)).2.call.isNone = endedOf (pBorns ops (k + 1) (q00 vs)) k := by
     simp only [endedOf, PS.live, pBorns, PS.put, if_true]
     cases (advL (ops k) (pBorns ops k (q00 vs)).q ((pBorns ops k (q00 vs)).th k)).2.call <;> rfl
    generalize (advL (ops k) (pBorns ops k (q00 vs)).q ((pBorns ops k (q00 vs)).th k)).2.call.isNone = b at hbe ⊢
    have E2 : Aside (b = endedOf (pBorns ops (k + 1) (q00 vs)) k) := hbe
    clear hB2 hN hbe C1 B1
    go_wp2_with (at_builtin; refine wpList_append_fresh rfl (.tmp 39) (.tmp 43) 90 rfl 4 i2 z2 1 1 Try.underlying90 hi2 hz20 hz21 hz22 hz23 (by decide) (.slice ea k ec) k ((List.range k).map fun j => .bool (endedOf (pBorns ops (k + 1) (q00 vs)) j)) rfl ?d0 ⟨w2.heap.size, 0, none⟩ 1 1 [.bool b] rfl rfl ?d1 ?d2 ?d3 ?d4 ?_)
    case d0 => exact World.ownsRow.alloc hrow3 _
    case d1 => exact new_cells (X := w2) (l := [.bool b]) rfl
    case d2 => intro u hu; simp at hu; subst hu; rfl
    case d3 => unfold maxLen; omega
    case d4 => omega
    ·intro v3 w3 hown3 hgrow3 hfr3
     obtain ⟨g3, cap3, rfl⟩ := own_slice hown3
     have B3 : Aside (RB W oa ol oc (k + 1) (k + 1) (pBorns ops (k + 1) (q00 vs)) rq bb2 bc2 tbs' ovs2 (some ⟨g, 0, none⟩) cap (some ⟨g3, 0, none⟩) cap3 w3) := B2.out.endE E2.out hown3 hgrow3 hfr3 (by first | omega | (simp; omega))
     clear hown3 hgrow3 hfr3 hrow3 B2 E2
     go_wp2
     go_roundg (n - (k + 1))
     case measure => omega
     case rel => exact ⟨k + 1, bb2, bc2, tbs', ovs2, _, cap, _, cap3, rfl, rfl, rfl, hlt, rfl, B3.out⟩
  ·obtain rfl : k = n := by omega
   go_wp2
   exact HQ.out _ _ _ _ _ _ _ _ _ _ ⟨rfl, rfl, rfl, rfl, rfl, rfl, rfl, trivial⟩ B0.out
end
noncomputable section
variable {W wr w1 w2 w3 : World} {ops : Nat → List Op4} {oa : Nat → Option Addr} {ol oc : Nat → Nat} {n rq bb bc : Nat} {s : PS} {tbs : Nat → Nat} {ovs : Nat → Value} {la ea : Option Addr} {lc ec : Nat}
theorem row_set {w : World} {e : TypeId} {b cap n y : Nat} {xs : List Value} {x : Value} (h : w.ownsRow 0 e 1 (.slice (some ⟨b, 0, none⟩) n cap) n xs) : (w.setCell ⟨b, y, none⟩ x).ownsRow 0 e 1 (.slice (some ⟨b, 0, none⟩) n cap) n (xs.set y x) := by
 refine ⟨by simpa using h.1, .inr ?_⟩
 rcases h.2 with ⟨h0, _⟩ | ⟨g, cap', cur, h1, h2, h3, h4, h5, h6, h7⟩
 ·cases h0
 ·cases h1
  refine ⟨_, _, cur.setIfInBounds y x, rfl, h2, heap_setCell_eq h3 x, h4, h5, by simpa using h6, ?_⟩
  rw [← h7]
  simp [List.take_set]
theorem map_set {α : Type} {n y : Nat} {f f' : Nat → α} (hy : y < n) (h : ∀ j, j ≠ y → f' j = f j) : ((List.range n).map f).set y (f' y) = (List.range n).map f' := by
 apply List.ext_getElem?
 intro j
 rw [List.getElem?_set]
 by_cases e : y = j
 ·subst e
  simp [hy]
 ·rw [if_neg e]
  rcases Nat.lt_or_ge j n with hj | hj
  ·simp [hj, h j (Ne.symm e)]
  ·rw [List.getElem?_eq_none (by simpa using hj), List.getElem?_eq_none (by simpa using hj)]
structure RTn (W : World) (ub : Nat) (ta : Option Addr) (tc M p rd : Nat) (ov : Value) (order : List Nat) (S : List Int) (wr : World) : Prop where
 t : TurnMem wr ub ta S.length tc M p rd ov order
 s : wr.ownsRow 0 3 1 (.slice ta S.length tc) S.length (S.map fun i : Int => Value.int .i64 i)
 nu : W.heap.size ≤ ub
 ns : ∀ g, (Value.slice ta S.length tc).ownBlock = some g → W.heap.size ≤ g
 no : ∀ g, ov.ownBlock = some g → W.heap.size ≤ g
 dj : ∀ g, ov.ownBlock = some g → (Value.slice ta S.length tc).ownBlock ≠ some g
theorem RTn.same {ub tc M p rd : Nat} {ta : Option Addr} {ov : Value} {order : List Nat} {S : List Int} (h : RTn W ub ta tc M p rd ov order S wr) (hk : ∀ (r : Nat) (c : Array Value) (e : TypeId) (z : Nat × Nat), wr.heap[r]? = some (.cells c e z) → e = 102 ∨ e = 3 → w1.heap[r]? = wr.heap[r]?) : RTn W ub ta tc M p rd ov order S w1 :=
 ⟨⟨(hk _ _ _ _ h.t.o (.inl rfl)).trans h.t.o, ownsRow_same2 h.t.row fun b hb _ => by
  obtain ⟨c2, hc2⟩ := own_row_ty h.t.row hb
  exact hk _ _ _ _ hc2 (.inr rfl)⟩, ownsRow_same2 h.s fun b hb _ => by
  obtain ⟨c2, hc2⟩ := own_row_ty h.s hb
  exact hk _ _ _ _ hc2 (.inr rfl), h.nu, h.ns, h.no, h.dj⟩
theorem picked {ub tc M p rd p1 r1 y : Nat} {ta : Option Addr} {ov ov' : Value} {order : List Nat} {S : List Int} (hB : RB W oa ol oc n n s rq bb bc tbs ovs la lc ea ec wr) (hT : RTn W ub ta tc M p rd ov order S wr) (h1 : TurnMem w1 ub ta S.length tc M p1 r1 ov' (order ++ [y])) (hK : PKept wr w1 ub ov ov') :
  RB W oa ol oc n n s rq bb bc tbs ovs la lc ea ec w1 ∧ RTn W ub ta tc M p1 r1 ov' (order ++ [y]) S w1 := by
 have hsz := hB.p.size
 have hty : ∀ (r : Nat) (c : Array Value) (e : TypeId) (z : Nat × Nat), wr.heap[r]? = some (.cells c e z) → e ≠ 102 → e ≠ 3 → w1.heap[r]? = wr.heap[r]? := fun r c e z hr h2 h3 => hK.old r (Array.getElem?_eq_some_iff.1 hr).1 (heap_ty hr hT.t.o h2) (own_type hT.t.row hr (Ne.symm h3))
 refine ⟨⟨hB.p.same hK.size (fun r hr => hK.old r (by omega) (by have := hT.nu; omega) fun e => by have := hT.no r e.symm; omega) fun r c e z hr he => hty r c e z hr (by rcases he with rfl | rfl | rfl | rfl | rfl <;> decide) (by rcases he with rfl | rfl | rfl | rfl | rfl <;> decide), ?_, ?_, hB.nl, hB.ne⟩, ⟨h1, ?_, hT.nu, hT.ns, fun g hg => ?_, fun g hg => ?_⟩⟩
 ·exact ownsRow_same2 hB.l fun b hb _ => by
   obtain ⟨c2, hc2⟩ := own_row_ty hB.l hb
   exact hty _ _ _ _ hc2 (by decide) (by decide)
 ·exact ownsRow_same2 hB.e fun b hb _ => by
   obtain ⟨c2, hc2⟩ := own_row_ty hB.e hb
   exact hty _ _ _ _ hc2 (by decide) (by decide)
 ·exact ownsRow_same2 hT.s fun b hb _ => by
   obtain ⟨c2, hc2⟩ := own_row_ty hT.s hb
   exact hK.old b (Array.getElem?_eq_some_iff.1 hc2).1 (heap_ty hc2 hT.t.o (by decide)) fun e => hT.dj b e.symm hb
 ·rcases hK.fo with e | ⟨g2, e, h2⟩
  ·exact hT.no g (e ▸ hg)
  ·rw [e] at hg; cases hg; omega
 ·rcases hK.fo with e | ⟨g2, e, h2⟩
  ·exact hT.dj g (e ▸ hg)
  ·rw [e] at hg; cases hg
   intro hb
   have := hT.s.lt _ hb
   omega
theorem RB.live {L : Nat} {ch : List Nat} (h : RB W oa ol oc n n s rq bb bc tbs ovs la lc ea ec wr) (hI : PInv ops n L s ch) (hL : L < 20000000) {y : Nat} (hy : y < n) {c : RC} (hc : (s.th y).call = some c) :
  ∃ lb cb, la = some ⟨lb, 0, none⟩ ∧ wr.cell? ⟨lb, y, none⟩ = some (.pointer (some ⟨tbs y, 0, none⟩)) ∧ wr.cell? ⟨tbs y, 2, none⟩ = some (.pointer (some ⟨cb, 0, none⟩)) ∧
   Calls Try.prog 20 #[.pointer (some ⟨rq, 0, none⟩), .pointer (some ⟨cb, 0, none⟩)] wr fun e w' => e = .returned (.tuple #[]) ∧ StepOut wr rq cb bb bc w' (s.q.step c) := by
 obtain ⟨lb, cap, e1, h1⟩ := row_get (k := y) h.l (x := .pointer (some ⟨tbs y, 0, none⟩)) (by simp [hy])
 cases e1
 obtain ⟨⟨cp, h2, h3⟩, h4⟩ := h.p.t y hy
 rw [hc] at h3
 obtain ⟨cb, rfl, h5⟩ := h3
 obtain ⟨cur, hb1, _⟩ := h.p.q.b
 have hci := hI.ki y c hc
 have := hI.pos
 exact ⟨lb, cb, rfl, h1.c, by simp [World.cell?, h2], step_ref h.p.q h5 (heap_ty h5 h.p.q.o (by decide)) (heap_ty h5 hb1 (by decide)) (hci.vd hI.kc) hci.ph (by omega)⟩
theorem RB.goes {L : Nat} {ch : List Nat} (h : RB W oa ol oc n n s rq bb bc tbs ovs la lc ea ec wr) (hops : OpsW W n oa ol ops) (hI : PInv ops n L s ch) (hL : L < 20000000) {y : Nat} (hy : y < n) {c : RC} (hc : (s.th y).call = some c) {cb lb : Nat} (hcb : wr.cell? ⟨tbs y, 2, none⟩ = some (.pointer (some ⟨cb, 0, none⟩))) (hS : StepOut wr rq cb bb bc w1 (s.q.step c))
  (hla : la = some ⟨lb, 0, none⟩) : w1.cell? ⟨lb, y, none⟩ = some (.pointer (some ⟨tbs y, 0, none⟩)) ∧
  Calls Try.prog 42 #[.pointer (some ⟨rq, 0, none⟩), .pointer (some ⟨tbs y, 0, none⟩)] w1 fun e w' => e = .returned (.bool (stpF (ops y) s.q (s.th y)).2.call.isNone) ∧ NextOut w1 rq (tbs y) bb (ovs y) (oa y) (ol y) (oc y) w' (nextF (ops y) (s.q.step c).1 (s.th y).k (s.th y).ans (rst (s.q.step c).2)) := by
 obtain ⟨h1, h2, h3⟩ := h.p.stepped hy hc hcb hS
 obtain ⟨hp, hle⟩ := hI.pos
 have hkb := hI.kb y hy
 have hka := hI.ka y
 have hlen := hops.len y hy
 have hkl : (s.th y).k < ol y := by simp only [begun, hc, Option.isSome_some, if_true] at hkb; omega
 have hsl := step_len s.q c
 have hs := h.p.size
 have hsz : w1.heap.size = wr.heap.size := hS.2.2.1
 obtain ⟨lb', cap, e1, hl1⟩ := row_get (k := y) h.l (x := .pointer (some ⟨tbs y, 0, none⟩)) (by simp [hy])
 cases e1
 cases hla
 obtain ⟨cl, hcl⟩ := own_row_ty h.l rfl
 refine ⟨(cell_heap (h3 _ _ _ _ hcl (by decide) (by decide) (by decide))).1.trans hl1.c, ?_⟩
 have := next_ref (LIM := 30000000) h1 h2 (hops.mem (u := w1) (by omega) (fun r hr => by
   have e1 := h.p.nq
   have e2 := h.p.nb
   have e3 := h.p.nc y cb hy hcb
   exact (hS.2.2.2 r (by omega) (by omega) (by omega)).trans (h.p.old r hr)) hy fun r hr => by
  rcases hr with rfl | rfl | rfl | e
  ·exact h.p.nq
  ·exact h.p.nt y hy
  ·exact h.p.nb
  ·exact h.p.nv y r hy e.symm) (.inl hkl) (by have := hops.le y hy; omega) (by omega) (by omega) (hops.le y hy) hka
 rw [← stpF_next hc] at this
 rw [← stpF_next hc]
 exact this
theorem RB.turned (h : RB W oa ol oc n n s rq bb bc tbs ovs la lc ea ec wr) {y : Nat} (hy : y < n) {c : RC} (hc : (s.th y).call = some c) {cb : Nat} (hcb : wr.cell? ⟨tbs y, 2, none⟩ = some (.pointer (some ⟨cb, 0, none⟩))) (hS : StepOut wr rq cb bb bc w1 (s.q.step c))
  (hN : NextOut w1 rq (tbs y) bb (ovs y) (oa y) (ol y) (oc y) w2 (nextF (ops y) (s.q.step c).1 (s.th y).k (s.th y).ans (rst (s.q.step c).2))) :
  ∃ bb' bc' ovs' eb v, ea = some ⟨eb, 0, none⟩ ∧ w2.cell? ⟨eb, y, none⟩ = some v ∧ w2.frozen? ⟨eb, y, none⟩ = false ∧ v = .bool (endedOf s y) ∧ (∀ u : World, u.heap = (w2.setCell ⟨eb, y, none⟩ (.bool (stpF (ops y) s.q (s.th y)).2.call.isNone)).heap → RB W oa ol oc n n (s.put y (stpF (ops y) s.q (s.th y))) rq bb' bc' tbs ovs' la lc ea ec u ∧
   ∀ {ub tc M p rd : Nat} {ta : Option Addr} {ov : Value} {order : List Nat} {S : List Int}, RTn W ub ta tc M p rd ov order S wr → RTn W ub ta tc M p rd ov order S u) := by
 obtain ⟨bb', bc', ovs', hp, hk⟩ := h.p.turn hy hc hcb hS hN
 have hl2 : w2.ownsRow 0 92 1 (.slice la n lc) n ((List.range n).map fun j => .pointer (some ⟨tbs j, 0, none⟩)) := ownsRow_same2 h.l fun b hb _ => by
  obtain ⟨c2, hc2⟩ := own_row_ty h.l hb
  exact hk _ _ _ _ hc2 (by decide) (by decide) (by decide) (by decide) (by decide)
 have he2 : w2.ownsRow 0 4 1 (.slice ea n ec) n ((List.range n).map fun j => .bool (endedOf s j)) := ownsRow_same2 h.e fun b hb _ => by
  obtain ⟨c2, hc2⟩ := own_row_ty h.e hb
  exact hk _ _ _ _ hc2 (by decide) (by decide) (by decide) (by decide) (by decide)
 obtain ⟨eb, cap, e1, h1⟩ := row_get (k := y) he2 (x := .bool (endedOf s y)) (by simp [hy])
 cases e1
 obtain ⟨ce, hce⟩ := own_row_ty he2 rfl
 have hneW := h.ne eb rfl
 refine ⟨bb', bc', ovs', eb, _, rfl, h1.c, h1.z, rfl, fun u hu => ?_⟩
 have hty : ∀ (r : Nat) (c : Array Value) (e : TypeId) (z : Nat × Nat), w2.heap[r]? = some (.cells c e z) → e ≠ 4 → u.heap[r]? = w2.heap[r]? := fun r c e z hr he => by rw [hu]; exact heap_setCell_ne _ _ _ (show r ≠ eb from heap_ty hr hce he)
 refine ⟨⟨hp.same (by rw [hu, World.size_setCell]; exact Nat.le_refl _) (fun r hr => by rw [hu, heap_setCell_ne _ _ _ (show r ≠ eb by omega)]) fun r c e z hr he => hty r c e z hr (by rcases he with rfl | rfl | rfl | rfl | rfl <;> decide), ?_, ?_, h.nl, h.ne⟩, fun hT => hT.same fun r c e z hr he => ?_⟩
 ·exact ownsRow_same2 hl2 fun b hb _ => by
   obtain ⟨c2, hc2⟩ := own_row_ty hl2 hb
   exact hty _ _ _ _ hc2 (by decide)
 ·have e3 : endedOf (s.put y (stpF (ops y) s.q (s.th y))) y = (stpF (ops y) s.q (s.th y)).2.call.isNone := by
   simp only [endedOf, PS.live, PS.put, if_true]
   cases (stpF (ops y) s.q (s.th y)).2.call <;> rfl
  have := row_set (y := y) (x := .bool (stpF (ops y) s.q (s.th y)).2.call.isNone) he2
  rw [← e3, map_set (f' := fun j => Value.bool (endedOf (s.put y (stpF (ops y) s.q (s.th y))) j)) hy (fun j hj => by simp [endedOf, PS.live, PS.put, hj])] at this
  rw [← e3] at hu
  exact ownsRow_same2 this fun _ _ _ => by rw [hu]
 ·have hr2 := hk r c e z hr (by rcases he with rfl | rfl <;> decide) (by rcases he with rfl | rfl <;> decide) (by rcases he with rfl | rfl <;> decide) (by rcases he with rfl | rfl <;> decide) (by rcases he with rfl | rfl <;> decide)
  exact (hty r c e z (hr2.trans hr) (by rcases he with rfl | rfl <;> decide)).trans hr2
end
noncomputable section
variable {W w : World} {ops : Nat → List Op4} {oa : Nat → Option Addr} {ol oc : Nat → Nat}
structure TLoop (W : World) (ops : Nat → List Op4) (oa : Nat → Option Addr) (ol oc : Nat → Nat) (n M L : Nat) (S : List Int) (s0 : PS) (rq : Nat) (tbs : Nat → Nat) (la : Option Addr) (lc : Nat) (ea : Option Addr) (ec : Nat) (ub : Nat) (ta : Option Addr) (tc : Nat) (s : PS) (order : List Nat) (p rd bb bc : Nat) (ovs : Nat → Value) (ov : Value) (wr : World) : Prop where
 b : RB W oa ol oc n n s rq bb bc tbs ovs la lc ea ec wr
 t : RTn W ub ta tc M p rd ov order S wr
 r : RefI ops n M S s0 s order p rd
 i : ∃ ch, PInv ops n L s ch
 om : order.length ≤ M
 pl : p ≤ S.length
 rl : rd ≤ n
theorem endedOf_all {s : PS} {n : Nat} : (List.range n).all (endedOf s) = true ↔ cnt s.live n = 0 := by
 rw [List.all_eq_true, cnt_zero]
 constructor
 ·intro h j hj
  have := h j (List.mem_range.2 hj)
  simpa [endedOf] using this
 ·intro h j hj
  have := h j (List.mem_range.1 hj)
  simp [endedOf, this]
set_option maxHeartbeats 4000000 in
theorem rp_turns {A : Array Value} {n M L rq lc ec ub tc : Nat} {S : List Int} {s0 s1 : PS} {tbs : Nat → Nat} {la ea ta : Option Addr} {v8 : Value} {bb0 bc0 : Nat} {ovs0 : Nat → Value} (hn : n ≤ 64) (hM : M ≤ 1048576) (hL : L < 20000000) (hSl : S.length < 10000000) (hops : OpsW W n oa ol ops)
  (h0 : TLoop W ops oa ol oc n M L S s0 rq tbs la lc ea ec ub ta tc s1 [] 0 0 bb0 bc0 ovs0 (.slice none 0 0) w)
  (hA : Slots 114 A [(8, v8), (9, .pointer (some ⟨rq, 0, none⟩)), (10, .slice la n lc), (11, .slice ea n ec), (14, .pointer (some ⟨ub, 0, none⟩))]) {Q : Act → World → Prop}
  (hQ : ∀ A' w' s order p rd bb bc ovs ov, Slots 114 A' [(8, v8), (9, .pointer (some ⟨rq, 0, none⟩)), (10, .slice la n lc), (11, .slice ea n ec), (14, .pointer (some ⟨ub, 0, none⟩))] → TLoop W ops oa ol oc n M L S s0 rq tbs la lc ea ec ub ta tc s order p rd bb bc ovs ov w' → (cnt s.live n = 0 ∨ order.length = M) → Q ⟨A', []⟩ w') : rpb2.wp Try.prog (nrm Q) ⟨A, []⟩ w := by
 obtain ⟨hsz, h8, h9, h10, h11, h14, _⟩ := hA
 obtain ⟨s, rfl⟩ := rpT_of hsz
 change s 8 = _ at h8
 change s 9 = _ at h9
 change s 10 = _ at h10
 change s 11 = _ at h11
 change s 14 = _ at h14
 clear hsz
 have T0 : Aside (TLoop W ops oa ol oc n M L S s0 rq tbs la lc ea ec ub ta tc s1 [] 0 0 bb0 bc0 ovs0 (.slice none 0 0) w) := h0
 have HQ : Aside (∀ A' w' s order p rd bb bc ovs ov, Slots 114 A' [(8, v8), (9, .pointer (some ⟨rq, 0, none⟩)), (10, .slice la n lc), (11, .slice ea n ec), (14, .pointer (some ⟨ub, 0, none⟩))] → TLoop W ops oa ol oc n M L S s0 rq tbs la lc ea ec ub ta tc s order p rd bb bc ovs ov w' → (cnt s.live n = 0 ∨ order.length = M) → Q ⟨A', []⟩ w') := hQ
 have HO : Aside (OpsW W n oa ol ops ∧ L < 20000000 ∧ n ≤ 64 ∧ M ≤ 1048576 ∧ S.length < 10000000) := ⟨hops, hL, hn, hM, hSl⟩
 clear h0 hQ hops hL hM hSl
 simp only [rpb2, rpBody, Code.piece, Try.f15, Option.getD_some, rpT, h8, h9, h10, h11, h14]
 clear h8 h9 h10 h11 h14
 go_wp2
 go_loopg [] M (fun g wr => ∃ s order p rd bb bc ovs ov, TLoop W ops oa ol oc n M L S s0 rq tbs la lc ea ec ub ta tc s order p rd bb bc ovs ov wr ∧ g = M - order.length)
 case atStart => exact ⟨s1, [], 0, 0, bb0, bc0, ovs0, _, T0.out, rfl⟩
 case round =>
  obtain ⟨s, order, p, rd, bb, bc, ovs, ov, hT, rfl⟩ := hrel
  have T : Aside (TLoop W ops oa ol oc n M L S s0 rq tbs la lc ea ec ub ta tc s order p rd bb bc ovs ov wr) := hT
  clear hT
  by_cases hdone : (List.range n).all (endedOf s) = true ∨ order.length = M
  ·have D : Aside ((List.range n).all (endedOf s) = true ∨ order.length = M) := hdone
   clear hdone
   go_wp2_with (fail)
   go_at_call 44
   refine (pick_none HO.out.2.2.1 T.out.b.e T.out.t.t D.out HO.out.2.2.2.1 T.out.om).mono ?_
   rintro e w1 ⟨rfl, hw1⟩
   have T1 : Aside (TLoop W ops oa ol oc n M L S s0 rq tbs la lc ea ec ub ta tc s order p rd bb bc ovs ov w1) := by
    obtain ⟨a1, a2, a3, a4, a5, a6, a7⟩ := T.out
    exact ⟨a1.heap hw1, a2.same fun r _ _ _ _ _ => by rw [hw1], a3, a4, a5, a6, a7⟩
   clear hw1
   go_wp2
   exact HQ.out _ _ _ _ _ _ _ _ _ _ ⟨rfl, rfl, rfl, rfl, rfl, rfl, trivial⟩ T1.out (D.out.imp endedOf_all.1 id)
  ·have D : Aside (¬ ((List.range n).all (endedOf s) = true ∨ order.length = M)) := hdone
   clear hdone
   have hn0 : 0 < n := by
    rcases Nat.eq_zero_or_pos n with e | e
    ·exact absurd (.inl (by rw [e]; rfl)) D.out
    ·exact e
   go_wp2_with (fail)
   go_at_call 44
   refine (pick_some HO.out.2.2.1 hn0 T.out.b.e T.out.t.s T.out.t.t T.out.pl (by have := T.out.rl; have := HO.out.2.2.1; omega) (by have := D.out; cases h : (List.range n).all (endedOf s) with
    | false => rfl
    | true => exact absurd (.inl h) this) (fun h => D.out (.inr h)) HO.out.2.2.2.1 T.out.om HO.out.2.2.2.2).mono ?_
   rintro e w1 ⟨y, p1, r1, ov', rfl, hpick, hT1, hK1⟩
   obtain ⟨hB1, hR1⟩ := picked T.out.b T.out.t hT1 hK1
   obtain ⟨hRI, hok, hp1, hr1⟩ := refI_pick T.out.r hpick (fun h => D.out (.inr h)) T.out.om T.out.rl hn0
   have hy : y < n := by have := hok.2.1; omega
   obtain ⟨c, hc⟩ : ∃ c, (s.th y).call = some c := by
    have := hok.2.2
    simp only [Int.toNat_natCast, endedOf, PS.live, Bool.not_eq_false'] at this
    exact Option.isSome_iff_exists.1 this
   obtain ⟨ch, hI⟩ := T.out.i
   obtain ⟨lb, cb, rfl, f1, f2, C1⟩ := hB1.live hI HO.out.2.1 hy hc
   have K1 : Aside (RB W oa ol oc n n s rq bb bc tbs ovs (some ⟨lb, 0, none⟩) lc ea ec w1 ∧ RTn W ub ta tc M p1 r1 ov' (order ++ [y]) S w1 ∧ RefI ops n M S s0 (s.put y (stpF (ops y) s.q (s.th y))) (order ++ [y]) p1 r1 ∧ p1 ≤ S.length ∧ r1 ≤ n ∧ PInv ops n L s ch ∧ (s.th y).call = some c ∧ y < n ∧ w1.cell? ⟨tbs y, 2, none⟩ = some (.pointer (some ⟨cb, 0, none⟩))) := ⟨hB1, hR1, hRI, hp1, hr1, hI, hc, hy, f2⟩
   have C1' : Aside (Calls Try.prog 20 #[.pointer (some ⟨rq, 0, none⟩), .pointer (some ⟨cb, 0, none⟩)] w1 fun e w' => e = .returned (.tuple #[]) ∧ StepOut w1 rq cb bb bc w' (s.q.step c)) := C1
   have hom : order.length < M := by
    rcases Nat.lt_or_ge order.length M with h | h
    ·exact h
    ·exact absurd (.inr (Nat.le_antisymm T.out.om h)) D.out
   clear hT1 hK1 hB1 hR1 hRI hp1 hr1 hI hc C1 hok hpick
   go_wp2_with (fail)
   go_at_call 20
   refine C1'.out.mono ?_
   rintro e w2 ⟨rfl, hS⟩
   obtain ⟨k1, k2, k3, k4, k5, k6, k7, k8, k9⟩ := K1.out
   obtain ⟨g1, C2⟩ := k1.goes HO.out.1 k6 HO.out.2.1 k8 k7 k9 hS rfl
   have S1 : Aside (StepOut w1 rq cb bb bc w2 (s.q.step c)) := hS
   have C2' : Aside (Calls Try.prog 42 #[.pointer (some ⟨rq, 0, none⟩), .pointer (some ⟨tbs y, 0, none⟩)] w2 fun e w' => e = .returned (.bool (stpF (ops y) s.q (s.th y)).2.call.isNone) ∧ NextOut w2 rq (tbs y) bb (ovs y) (oa y) (ol y) (oc y) w' (nextF (ops y) (s.q.step c).1 (s.th y).k (s.th y).ans (rst (s.q.step c).2))) := C2
   clear k1 k2 k3 k4 k5 k6 k7 k9 hS C2 f1 f2
   go_wp2_with (fail)
   go_at_call 42
   refine C2'.out.mono ?_
   rintro e w3 ⟨rfl, hN⟩
   obtain ⟨k1, k2, k3, k4, k5, k6, k7, _, k9⟩ := K1.out
   obtain ⟨bb2, bc2, ovs2, eb, v, rfl, e1, e2, rfl, hfin⟩ := k1.turned k8 k7 k9 S1.out hN
   obtain ⟨hB3, hR3⟩ := hfin _ rfl
   have T3 : Aside (∃ wx, wx = w3.setCell ⟨eb, y, none⟩ (.bool (stpF (ops y) s.q (s.th y)).2.call.isNone) ∧ TLoop W ops oa ol oc n M L S s0 rq tbs (some ⟨lb, 0, none⟩) lc (some ⟨eb, 0, none⟩) ec ub ta tc (s.put y (stpF (ops y) s.q (s.th y))) (order ++ [y]) p1 r1 bb2 bc2 ovs2 ov' wx) := by
    obtain ⟨ch', hI'⟩ := k6.turn k8
    exact ⟨_, rfl, hB3, hR3 k2, k3, ⟨ch', hI'⟩, by simp; omega, k4, k5⟩
   clear k1 k2 k3 k4 k5 k6 k7 k9 hN hfin hB3 hR3 g1
   go_wp2
   go_roundg (M - (order ++ [y]).length)
   case measure => simp; omega
   case rel =>
    obtain ⟨wx, rfl, h⟩ := T3.out
    exact ⟨_, _, _, _, _, _, _, _, h, rfl⟩
end
noncomputable section
variable {w : World}
theorem callableY46 : Callable 46 := callable Try.func46 rfl rfl
theorem callableY24 : Callable 24 := callable Try.func24 rfl rfl
theorem cell_hq {w w' : World} {a : Addr} {v : Value} (e : w'.heap = w.heap) (h : w.cell? a = some v) : w'.cell? a = some v := by simpa only [World.cell?, e] using h
theorem froz_hq {w w' : World} {a : Addr} (e : w'.heap = w.heap) (h : w.frozen? a = false) : w'.frozen? a = false := by simpa only [World.frozen?, e] using h
theorem fresh_nil {g n c X Y : Nat} (h : (Value.slice (some ⟨g, 0, none⟩) n c).ownBlock = (Value.slice none 0 0).ownBlock ∨ ∃ g', (Value.slice (some ⟨g, 0, none⟩) n c).ownBlock = some g' ∧ X ≤ g') (hX : Y ≤ X) : Y ≤ g := by
 rcases h with h | ⟨g', h, hg⟩
 ·simp [Value.ownBlock] at h
 ·simp only [Value.ownBlock, Option.some.injEq] at h
  omega
theorem step_callE {P : Program} {ops : Array Oper} {o : Oper} {a : Act} {w : World} {K : Act → World → Prop} {Q : Exit → Act → World → Prop} {E : Prop} (hg : o.guard = none) (f : FuncId) (args : Array Value)
  (hr : (execOp a.eval o).run P w = .ok (.enter f args) w) {R : Value → World → Prop} (hC : Calls P f args w fun e w' => ∃ v, e = .returned v ∧ R v w') (hK : ∀ v w', R v w' → K (a.put o.dst v) w') :
  if Region.wanted o (yielded ops a.tmps) = true then Oper.wp P o a w K Q else E := by
 have hw : Region.wanted o (yielded ops a.tmps) = true := by simp [Region.wanted, hg]
 rw [if_pos hw]
 unfold Oper.wp
 rw [hr, Oper.upon_enter]
 exact hC.mono fun e w' ⟨v, h1, h2⟩ => by subst h1; exact hK v w' h2
theorem step_append_nil {P : Program} {ops : Array Oper} {o : Oper} {a : Act} {w : World} {K : Act → World → Prop} {Q : Exit → Act → World → Prop} {E : Prop}
  (hg : o.guard = none) (s x : Operand) (t : TypeId) (hop : o.op = Op.call { callee := Callee.builtin Builtin.append, args := #[s, x], argTypes := #[t, t] }) (ad : Addr) (n c : Nat) (hs : a.eval s = .slice (some ad) n c) (hx : a.eval x = .slice none 0 0)
  (hrun : (Builtin.append_ #[t, t] o.type #[.slice (some ad) n c, .slice none 0 0]).run P w = .ok (.slice (some ad) n c) w) (hK : K (a.put o.dst (.slice (some ad) n c)) w) :
  if Region.wanted o (yielded ops a.tmps) = true then Oper.wp P o a w K Q else E := by
 have hw : Region.wanted o (yielded ops a.tmps) = true := by simp [Region.wanted, hg]
 rw [if_pos hw]
 unfold Oper.wp
 simp [execOp, hop, resolve, invoke, builtin, hs, hx, hrun, Result.andThen]
 exact hK
theorem rp_16 {A : Array Value} {n lc ob rq lb : Nat} {la : Option Addr} {v8 : Value} {xo : Option Addr} {xl xc : Nat} {st : Bool} (hC : ∀ u : World, u.heap = w.heap → Calls Try.prog 46 #[.pointer (some ⟨rq, 0, none⟩)] u fun x w' => x = .returned (.int .i64 lb) ∧ w'.heap = u.heap)
  (ho : w.heap[ob]? = some (.cells #[.slice none 0 0, .slice xo xl xc, .slice none 0 0, .bool st] 29 (0, 0)))
  (hA : Slots 114 A [(8, v8), (9, .pointer (some ⟨rq, 0, none⟩)), (10, .slice la n lc), (17, .pointer (some ⟨ob, 0, none⟩))]) {Q : Act → World → Prop}
  (hQ : ∀ A' w' g cap, Slots 114 A' [(8, v8), (9, .pointer (some ⟨rq, 0, none⟩)), (10, .slice la n lc), (17, .pointer (some ⟨ob, 0, none⟩))] → w'.heap[ob]? = some (.cells #[.slice none 0 0, .slice xo xl xc, .slice (some ⟨g, 0, none⟩) 1 cap, .bool st] 29 (0, 0)) → w'.ownsRow 0 2 1 (.slice (some ⟨g, 0, none⟩) 1 cap) 1 [.int .i64 lb] → w.heap.size ≤ g → w.heap.size ≤ w'.heap.size → (∀ r, r < w.heap.size → r ≠ ob → w'.heap[r]? = w.heap[r]?) → Q ⟨A', []⟩ w') : rpr16.wp Try.prog (nrm Q) ⟨A, []⟩ w := by
 obtain ⟨i0, z0, hi, hz0, hz1, hz2, hz3⟩ := infoA2
 obtain ⟨hsz, h8, h9, h10, h17, _⟩ := hA
 obtain ⟨s, rfl⟩ := rpT_of hsz
 change s 8 = _ at h8
 change s 9 = _ at h9
 change s 10 = _ at h10
 change s 17 = _ at h17
 clear hsz
 have H : Aside (∀ u : World, u.heap = w.heap → Calls Try.prog 46 #[.pointer (some ⟨rq, 0, none⟩)] u fun x w' => x = .returned (.int .i64 lb) ∧ w'.heap = u.heap) := hC
 have O : Aside (w.heap[ob]? = some (.cells #[.slice none 0 0, .slice xo xl xc, .slice none 0 0, .bool st] 29 (0, 0))) := ho
 have HQ : Aside (∀ A' w' g cap, Slots 114 A' [(8, v8), (9, .pointer (some ⟨rq, 0, none⟩)), (10, .slice la n lc), (17, .pointer (some ⟨ob, 0, none⟩))] → w'.heap[ob]? = some (.cells #[.slice none 0 0, .slice xo xl xc, .slice (some ⟨g, 0, none⟩) 1 cap, .bool st] 29 (0, 0)) → w'.ownsRow 0 2 1 (.slice (some ⟨g, 0, none⟩) 1 cap) 1 [.int .i64 lb] → w.heap.size ≤ g → w.heap.size ≤ w'.heap.size → (∀ r, r < w.heap.size → r ≠ ob → w'.heap[r]? = w.heap[r]?) → Q ⟨A', []⟩ w') := hQ
 have f2 : w.cell? ⟨ob, 2, none⟩ = some (.slice none 0 0) := by simp [World.cell?, ho]
 have fz : w.frozen? ⟨ob, 2, none⟩ = false := by simp [World.frozen?, ho]
 have hobl := (Array.getElem?_eq_some_iff.1 ho).1
 clear hC ho hQ
 simp only [rpr16, rpBody, Code.piece, Try.f15, Option.getD_some, rpT, h8, h9, h10, h17]
 clear h8 h9 h10 h17
 go_region_law (first
  | (refine step_call rfl 46 #[.pointer (some ⟨rq, 0, none⟩)] (.int .i64 lb) (by simp [execOp, Act.eval, Act.put, resolve, invoke, Deferred.ofValue, callableY46.run]) (H.out _ rfl) ?_; intro w1 hw1; have g2 := cell_hq (w := w) hw1 f2; have gz := froz_hq (w := w) hw1 fz; have W1 : Aside (w1.heap = w.heap) := hw1; have hs1 : w1.heap.size = w.heap.size := congrArg Array.size hw1; have p2 := (cellB_alloc g2 (.cells #[.int .i64 lb] 2)).1; clear hw1)
  | (refine step_append_fresh rfl (.tmp 83) (.tmp 86) 22 rfl 2 i0 z0 1 8 Try.underlying22 hi hz0 hz1 hz2 hz3 (by decide) (.slice none 0 0) 0 [] (by simp [Act.eval, Act.put]) ⟨rfl, .inl ⟨rfl, rfl⟩⟩ ⟨w1.heap.size, 0, none⟩ 1 1 [.int .i64 lb] (by simp [Act.eval, Act.put]) rfl (new_cells (X := w1) (l := [.int .i64 lb]) rfl) (by intro u hu; simp at hu; subst hu; rfl) (by unfold maxLen; omega) (by omega) ?_; intro v' w2 hown hgrow hfr; obtain ⟨g, cap, rfl⟩ := own_slice hown; have hk1 := grown_old (W := w1) hgrow (r := ob) (by omega) (by simp [Value.ownBlock]); have k0 := (cell_heap (j := 2) hk1).1.trans g2; have k1 := (cell_heap (j := 2) hk1).2.trans gz; have F : Aside (w2.ownsRow 0 2 1 (.slice (some ⟨g, 0, none⟩) (0 + 1) cap) (0 + 1) ([] ++ [.int .i64 lb]) ∧ (∀ r, r < w1.heap.size → w2.heap[r]? = w1.heap[r]?) ∧ w1.heap.size ≤ w2.heap.size ∧ w1.heap.size ≤ g) := ⟨hown, fun r hr => grown_old (W := w1) hgrow hr (by simp [Value.ownBlock]), Nat.le_trans (by simp) hgrow.size, fresh_nil hfr (by simp)⟩; clear hown hgrow hfr hk1))
 all_goals (
  obtain ⟨a1, a2, a3, a4⟩ := F.out
  have hw := W1.out
  have hb2 := (a2 ob (by omega)).trans ((congrArg (·[ob]?) hw).trans O.out)
  have hgo : ob ≠ g := by omega
  refine HQ.out _ _ g cap ⟨rfl, rfl, rfl, rfl, rfl, trivial⟩ ?_ ?_ (by omega) ?_ fun r hr hne => ?_
  ·rw [heap_setCell_eq hb2]; rfl
  ·exact ownsRow_same2 a1 fun b hb _ => by
    simp only [Value.ownBlock, Option.some.injEq] at hb
    subst hb
    exact heap_setCell_ne _ _ _ hgo.symm
  ·rw [World.size_setCell]; omega
  ·rw [heap_setCell_ne _ _ _ hne, a2 r (by omega), hw])
end
noncomputable section
variable {w w' : World} {rq bb bc : Nat} {q : RQ}
theorem values_nil (hQ : RefQ w rq bb bc q) (hhd : q.hd < q.B.length) (hp : q.nx q.hd = none) (hB : q.B.length < 100000000) :
  Calls Try.prog 24 #[.pointer (some ⟨rq, 0, none⟩)] w fun x w' => x = .returned (.slice none 0 0) ∧ w'.heap = w.heap := by
 have q0 : w.cell? ⟨rq, 0, none⟩ = some (.slice (some ⟨bb, 0, none⟩) q.B.length bc) := by simp [World.cell?, hQ.o]
 have q1 : w.cell? ⟨rq, 1, none⟩ = some (.int .i64 q.hd) := by simp [World.cell?, hQ.o]
 have b1 := (hQ.nxt hhd).1
 rw [hp, nxI_none] at b1
 clear hQ
 go_enter Try.func24, Try.ntmps24
 go_wp2
 go_quiet (fail)
 go_wp2
 go_loopg [3, 4] 1 (fun g n i wr => n = .slice none 0 0 ∧ i = .int .i64 (-1) ∧ wr.heap = w.heap)
 case atStart => exact ⟨rfl, rfl, rfl⟩
 case round =>
  obtain ⟨rfl, rfl, hw⟩ := hrel
  have hm1 : ¬ (0 : Int) ≤ -1 := by omega
  go_wp2
  go_ret
  exact ⟨rfl, hw⟩
theorem app_nil {sb sc : Nat} (hsc : 0 < sc) (w : World) : (Builtin.append_ #[22, 22] 22 #[.slice (some ⟨sb, 0, none⟩) 1 sc, .slice none 0 0]).run Try.prog w = .ok (.slice (some ⟨sb, 0, none⟩) 1 sc) w := by
 simp [Builtin.append_, go_sem]
 intro h
 omega
theorem rp_17n {A : Array Value} {n lc ob sb sc lb : Nat} {la : Option Addr} {v8 : Value} {xo : Option Addr} {xl xc : Nat} {st : Bool} (hsc : 0 < sc) (hC : ∀ u : World, u.heap = w.heap → Calls Try.prog 24 #[.pointer (some ⟨rq, 0, none⟩)] u fun x w' => x = .returned (.slice none 0 0) ∧ w'.heap = u.heap)
  (ho : w.heap[ob]? = some (.cells #[.slice none 0 0, .slice xo xl xc, .slice (some ⟨sb, 0, none⟩) 1 sc, .bool st] 29 (0, 0)))
  (hA : Slots 114 A [(8, v8), (9, .pointer (some ⟨rq, 0, none⟩)), (10, .slice la n lc), (17, .pointer (some ⟨ob, 0, none⟩))]) {Q : Act → World → Prop}
  (hQ : ∀ A' w', Slots 114 A' [(8, v8), (10, .slice la n lc), (17, .pointer (some ⟨ob, 0, none⟩))] → w'.heap[ob]? = some (.cells #[.slice none 0 0, .slice xo xl xc, .slice (some ⟨sb, 0, none⟩) 1 sc, .bool st] 29 (0, 0)) → w'.heap.size = w.heap.size → (∀ r, r ≠ ob → w'.heap[r]? = w.heap[r]?) → Q ⟨A', []⟩ w') : rpr17.wp Try.prog (nrm Q) ⟨A, []⟩ w := by
 obtain ⟨hsz, h8, h9, h10, h17, _⟩ := hA
 obtain ⟨s, rfl⟩ := rpT_of hsz
 change s 8 = _ at h8
 change s 9 = _ at h9
 change s 10 = _ at h10
 change s 17 = _ at h17
 clear hsz
 have H : Aside (∀ u : World, u.heap = w.heap → Calls Try.prog 24 #[.pointer (some ⟨rq, 0, none⟩)] u fun x w' => x = .returned (.slice none 0 0) ∧ w'.heap = u.heap) := hC
 have O : Aside (w.heap[ob]? = some (.cells #[.slice none 0 0, .slice xo xl xc, .slice (some ⟨sb, 0, none⟩) 1 sc, .bool st] 29 (0, 0))) := ho
 have HQ : Aside (∀ A' w', Slots 114 A' [(8, v8), (10, .slice la n lc), (17, .pointer (some ⟨ob, 0, none⟩))] → w'.heap[ob]? = some (.cells #[.slice none 0 0, .slice xo xl xc, .slice (some ⟨sb, 0, none⟩) 1 sc, .bool st] 29 (0, 0)) → w'.heap.size = w.heap.size → (∀ r, r ≠ ob → w'.heap[r]? = w.heap[r]?) → Q ⟨A', []⟩ w') := hQ
 have f2 : w.cell? ⟨ob, 2, none⟩ = some (.slice (some ⟨sb, 0, none⟩) 1 sc) := by simp [World.cell?, ho]
 have fz : w.frozen? ⟨ob, 2, none⟩ = false := by simp [World.frozen?, ho]
 clear hC ho hQ
 simp only [rpr17, rpBody, Code.piece, Try.f15, Option.getD_some, rpT, h8, h9, h10, h17]
 clear h8 h9 h10 h17
 go_region_law (first
  | (refine step_call rfl 24 #[.pointer (some ⟨rq, 0, none⟩)] (.slice none 0 0) (by simp [execOp, Act.eval, Act.put, resolve, invoke, Deferred.ofValue, callableY24.run]) (H.out _ rfl) ?_; intro w1 hw1; have g2 := cell_hq (w := w) hw1 f2; have gz := froz_hq (w := w) hw1 fz; have W1 : Aside (w1.heap = w.heap) := hw1; clear hw1)
  | (refine step_append_nil rfl (.tmp 90) (.tmp 92) 22 rfl ⟨sb, 0, none⟩ 1 sc (by simp [Act.eval, Act.put]) (by simp [Act.eval, Act.put]) (app_nil hsc _) ?_; skip))
 all_goals (
  have hw := W1.out
  have hb1 : w1.heap[ob]? = _ := (congrArg (·[ob]?) hw).trans O.out
  refine HQ.out _ _ ⟨rfl, rfl, rfl, rfl, trivial⟩ ?_ ?_ fun r hne => ?_
  ·rw [heap_setCell_eq hb1]; rfl
  ·rw [World.size_setCell, hw]
  ·rw [heap_setCell_ne _ _ _ hne, hw])
end
noncomputable section
variable {w w' : World} {rq : Nat}
theorem vals_slice {w w1 : World} {ov : Value} {xs : List Int} (h : ValsAt w w1 ov xs) (hx : 0 < xs.length) : ∃ g c, ov = .slice (some ⟨g, 0, none⟩) xs.length c ∧ ValsAt w w1 (.slice (some ⟨g, 0, none⟩) xs.length c) xs := by
 rcases h.row.2 with ⟨_, h0⟩ | ⟨g, c, _, e, _⟩
 ·omega
 ·exact ⟨g, c, e, e ▸ h⟩
theorem rp_17 {A : Array Value} {n lc ob sb sc lb : Nat} {xs : List Int} {la : Option Addr} {v8 : Value} {xo : Option Addr} {xl xc : Nat} {st : Bool} (hx : 0 < xs.length) (hxl : xs.length < 100000000) (hC : ∀ u : World, u.heap = w.heap → Calls Try.prog 24 #[.pointer (some ⟨rq, 0, none⟩)] u fun x w' => ∃ ov, x = .returned ov ∧ ∃ g c, ov = .slice (some ⟨g, 0, none⟩) xs.length c ∧ ValsAt u w' (.slice (some ⟨g, 0, none⟩) xs.length c) xs)
  (ho : w.heap[ob]? = some (.cells #[.slice none 0 0, .slice xo xl xc, .slice (some ⟨sb, 0, none⟩) 1 sc, .bool st] 29 (0, 0))) (hr : w.ownsRow 0 2 1 (.slice (some ⟨sb, 0, none⟩) 1 sc) 1 [.int .i64 lb])
  (hA : Slots 114 A [(8, v8), (9, .pointer (some ⟨rq, 0, none⟩)), (10, .slice la n lc), (17, .pointer (some ⟨ob, 0, none⟩))]) {Q : Act → World → Prop}
  (hQ : ∀ A' w' g cap, Slots 114 A' [(8, v8), (10, .slice la n lc), (17, .pointer (some ⟨ob, 0, none⟩))] → w'.heap[ob]? = some (.cells #[.slice none 0 0, .slice xo xl xc, .slice (some ⟨g, 0, none⟩) (1 + xs.length) cap, .bool st] 29 (0, 0)) → w'.ownsRow 0 2 1 (.slice (some ⟨g, 0, none⟩) (1 + xs.length) cap) (1 + xs.length) (.int .i64 lb :: xs.map fun v => .int .i64 v) → w.heap.size ≤ w'.heap.size → (∀ r, r < w.heap.size → r ≠ ob → r ≠ sb → w'.heap[r]? = w.heap[r]?) → Q ⟨A', []⟩ w') : rpr17.wp Try.prog (nrm Q) ⟨A, []⟩ w := by
 obtain ⟨i0, z0, hi, hz0, hz1, hz2, hz3⟩ := infoA2
 obtain ⟨hsz, h8, h9, h10, h17, _⟩ := hA
 obtain ⟨s, rfl⟩ := rpT_of hsz
 change s 8 = _ at h8
 change s 9 = _ at h9
 change s 10 = _ at h10
 change s 17 = _ at h17
 clear hsz
 have H : Aside (∀ u : World, u.heap = w.heap → Calls Try.prog 24 #[.pointer (some ⟨rq, 0, none⟩)] u fun x w' => ∃ ov, x = .returned ov ∧ ∃ g c, ov = .slice (some ⟨g, 0, none⟩) xs.length c ∧ ValsAt u w' (.slice (some ⟨g, 0, none⟩) xs.length c) xs) := hC
 have O : Aside (w.heap[ob]? = some (.cells #[.slice none 0 0, .slice xo xl xc, .slice (some ⟨sb, 0, none⟩) 1 sc, .bool st] 29 (0, 0)) ∧ w.ownsRow 0 2 1 (.slice (some ⟨sb, 0, none⟩) 1 sc) 1 [.int .i64 lb]) := ⟨ho, hr⟩
 have HQ : Aside (∀ A' w' g cap, Slots 114 A' [(8, v8), (10, .slice la n lc), (17, .pointer (some ⟨ob, 0, none⟩))] → w'.heap[ob]? = some (.cells #[.slice none 0 0, .slice xo xl xc, .slice (some ⟨g, 0, none⟩) (1 + xs.length) cap, .bool st] 29 (0, 0)) → w'.ownsRow 0 2 1 (.slice (some ⟨g, 0, none⟩) (1 + xs.length) cap) (1 + xs.length) (.int .i64 lb :: xs.map fun v => .int .i64 v) → w.heap.size ≤ w'.heap.size → (∀ r, r < w.heap.size → r ≠ ob → r ≠ sb → w'.heap[r]? = w.heap[r]?) → Q ⟨A', []⟩ w') := hQ
 have f2 : w.cell? ⟨ob, 2, none⟩ = some (.slice (some ⟨sb, 0, none⟩) 1 sc) := by simp [World.cell?, ho]
 have fz : w.frozen? ⟨ob, 2, none⟩ = false := by simp [World.frozen?, ho]
 have hobl := (Array.getElem?_eq_some_iff.1 ho).1
 have hsbl : sb < w.heap.size := (hr.lt sb rfl).2
 have hobs : some ob ≠ (Value.slice (some ⟨sb, 0, none⟩) 1 sc).ownBlock := own_type hr ho (by decide)
 clear hC ho hr hQ
 simp only [rpr17, rpBody, Code.piece, Try.f15, Option.getD_some, rpT, h8, h9, h10, h17]
 clear h8 h9 h10 h17
 go_region_law (first
  | (refine step_callE rfl 24 #[.pointer (some ⟨rq, 0, none⟩)] (by simp [execOp, Act.eval, Act.put, resolve, invoke, Deferred.ofValue, callableY24.run]) (H.out _ rfl) ?_; intro ov w1 hR; obtain ⟨g1, c1, rfl, hV⟩ := hR; have hkb : w1.heap[ob]? = w.heap[ob]? := hV.old ob hobl; have g2 := (cell_heap (j := 2) hkb).1.trans f2; have gz := (cell_heap (j := 2) hkb).2.trans fz; have hs1 : w.heap.size ≤ w1.heap.size := hV.size; have hrow1 : w1.ownsRow 0 2 1 (.slice (some ⟨sb, 0, none⟩) 1 sc) 1 [.int .i64 lb] := ownsRow_same2 O.out.2 (fun b hb _ => hV.old b (by simp only [Value.ownBlock, Option.some.injEq] at hb; subst hb; exact hsbl)); have V1 : Aside (ValsAt w w1 (.slice (some ⟨g1, 0, none⟩) xs.length c1) xs) := ⟨hV.row, hV.size, hV.old, hV.new⟩; clear hV hkb)
  | (refine step_append_fresh rfl (.tmp 90) (.tmp 92) 22 rfl 2 i0 z0 1 8 Try.underlying22 hi hz0 hz1 hz2 hz3 (by decide) (.slice (some ⟨sb, 0, none⟩) 1 sc) 1 [.int .i64 lb] (by simp [Act.eval, Act.put]) hrow1 ⟨g1, 0, none⟩ xs.length c1 (xs.map fun v => .int .i64 v) (by simp [Act.eval, Act.put]) (by simp) (row_cells V1.out.row) (by intro u hu; obtain ⟨v, _, rfl⟩ := List.mem_map.1 hu; rfl) (by unfold maxLen; omega) (by omega) ?_; intro v' w2 hown hgrow hfr; have hown2 : w2.ownsRow 0 2 1 v' (xs.length + 1) (.int .i64 lb :: xs.map fun v => .int .i64 v) := (by have h := hown; rw [Nat.add_comm] at h; exact h); obtain ⟨g, cap, rfl⟩ := own_slice hown2; have hk1 : w2.heap[ob]? = w1.heap[ob]? := hgrow.block ob (by omega) hobs; have k0 := (cell_heap (j := 2) hk1).1.trans g2; have k1 := (cell_heap (j := 2) hk1).2.trans gz; have F : Aside (w2.ownsRow 0 2 1 (.slice (some ⟨g, 0, none⟩) (xs.length + 1) cap) (xs.length + 1) (.int .i64 lb :: xs.map fun v => .int .i64 v) ∧ (∀ r, r < w1.heap.size → r ≠ sb → w2.heap[r]? = w1.heap[r]?) ∧ w1.heap.size ≤ w2.heap.size) := ⟨hown2, fun r hr hne => hgrow.block r hr (by simp only [Value.ownBlock, ne_eq, Option.some.injEq]; exact hne), hgrow.size⟩; clear hown hown2 hgrow hfr hk1))
 all_goals (
  obtain ⟨a1, a2, a3⟩ := F.out
  obtain ⟨v1, v2, v3, v4⟩ := V1.out
  have hne : ob ≠ sb := fun e => hobs (by rw [e]; rfl)
  have hb2 : w2.heap[ob]? = _ := (a2 ob (by omega) hne).trans ((v3 ob hobl).trans O.out.1)
  have hgo : ob ≠ g := by
   rintro rfl
   obtain ⟨c, hc⟩ := own_row_ty a1 rfl
   rw [hb2] at hc
   simp only [Option.some.injEq, Obj.cells.injEq] at hc
   exact absurd hc.2.1 (by decide)
  rw [Nat.add_comm xs.length 1] at *
  refine HQ.out _ _ g cap ⟨rfl, rfl, rfl, rfl, trivial⟩ ?_ ?_ ?_ fun r hr h1 h2 => ?_
  ·rw [heap_setCell_eq hb2]; rfl
  ·exact ownsRow_same2 a1 fun b hb _ => by
    simp only [Value.ownBlock, Option.some.injEq] at hb
    subst hb
    exact heap_setCell_ne _ _ _ hgo.symm
  ·rw [World.size_setCell]; omega
  ·rw [heap_setCell_ne _ _ _ h1, a2 r (by omega) h2, v3 r hr])
end
noncomputable section
variable {w : World}
theorem callableX45 : Callable 45 := callable Try.func45 rfl rfl
theorem callableX46 : Callable 46 := callable Try.func46 rfl rfl
theorem callableX24 : Callable 24 := callable Try.func24 rfl rfl
theorem rp_15 {A : Array Value} {n lc ec ub : Nat} {la ea : Option Addr} {v8 v9 : Value} {e : Nat → Bool} {c0 c1 c2 c3 : Value} {xo : Option Addr} {xl xc : Nat} (hn : n ≤ 64) (hE : BRow w ea n e) (hu : w.heap[ub]? = some (.cells #[c0, c1, c2, c3, .slice xo xl xc] 102 (0, 0)))
  (hA : Slots 114 A [(8, v8), (9, v9), (10, .slice la n lc), (11, .slice ea n ec), (14, .pointer (some ⟨ub, 0, none⟩))]) {Q : Act → World → Prop}
  (hQ : ∀ A' w', Slots 114 A' [(8, v8), (9, v9), (10, .slice la n lc), (17, .pointer (some ⟨w.heap.size, 0, none⟩))] → w'.heap = (w.alloc (.cells #[.slice none 0 0, .slice xo xl xc, .slice none 0 0, .bool (!(List.range n).all e)] 29)).heap → Q ⟨A', []⟩ w') : rpr15.wp Try.prog (nrm Q) ⟨A, []⟩ w := by
 obtain ⟨hsz, h8, h9, h10, h11, h14, _⟩ := hA
 obtain ⟨s, rfl⟩ := rpT_of hsz
 change s 8 = _ at h8
 change s 9 = _ at h9
 change s 10 = _ at h10
 change s 11 = _ at h11
 change s 14 = _ at h14
 clear hsz
 have H : Aside (∀ u : World, u.heap = w.heap ∨ u.heap = (w.alloc (.cells #[.slice none 0 0, .slice none 0 0, .slice none 0 0, .bool false] 29)).heap → Calls Try.prog 45 #[.slice ea n ec] u fun x w' => x = .returned (.bool ((List.range n).all e)) ∧ w' = u) := fun u hu => over_ref hn ⟨fun j hj => by
  obtain ⟨eb, h1, h2⟩ := hE.c j hj
  refine ⟨eb, h1, ?_⟩
  rcases hu with hu | hu
  ·simpa only [World.cell?, hu] using h2
  ·have := (cellB_alloc h2 (.cells #[.slice none 0 0, .slice none 0 0, .slice none 0 0, .bool false] 29)).1
   simpa only [World.cell?, hu] using this⟩
 have HQ : Aside (∀ A' w', Slots 114 A' [(8, v8), (9, v9), (10, .slice la n lc), (17, .pointer (some ⟨w.heap.size, 0, none⟩))] → w'.heap = (w.alloc (.cells #[.slice none 0 0, .slice xo xl xc, .slice none 0 0, .bool (!(List.range n).all e)] 29)).heap → Q ⟨A', []⟩ w') := hQ
 have u4 : w.cell? ⟨ub, 4, none⟩ = some (.slice xo xl xc) := by simp [World.cell?, hu]
 have hub := (Array.getElem?_eq_some_iff.1 hu).1
 have hne : ¬ ub = w.heap.size := by omega
 clear hQ hE hu
 generalize (List.range n).all e = b at H HQ
 simp only [rpr15, rpBody, Code.piece, Try.f15, Option.getD_some, rpT, h8, h9, h10, h11, h14]
 clear h8 h9 h10 h11 h14
 go_region_law (refine step_call rfl 45 #[.slice ea n ec] (.bool b) (by simp [execOp, Act.eval, Act.put, resolve, invoke, Deferred.ofValue, callableX45.run]) (H.out _ (by first | exact .inl rfl | exact .inr rfl)) ?_; intro w1 hw1; subst hw1)
 all_goals exact HQ.out _ _ ⟨rfl, rfl, rfl, rfl, rfl, trivial⟩ (by first | rfl | (simp [World.setCell, World.drew]; done))
end
noncomputable section
variable {w w' : World}
structure RRow (w : World) (a : Option Addr) (xs : List Value) : Prop where
 c : ∀ k x, xs[k]? = some x → ∃ b o, a = some ⟨b, o, none⟩ ∧ w.cell? ⟨b, o + k, none⟩ = some x
theorem RRow.heap {a : Option Addr} {xs : List Value} (h : RRow w a xs) (e : w'.heap = w.heap) : RRow w' a xs :=
 ⟨fun k x hx => by
  obtain ⟨b, o, h1, h2⟩ := h.c k x hx
  exact ⟨b, o, h1, by simpa only [World.cell?, e] using h2⟩⟩
theorem rrow_of {base n size c : Nat} {e : TypeId} {a : Option Addr} {xs : List Value} (h : w.ownsRow base e size (.slice a n c) n xs) : RRow w a xs :=
 ⟨fun k x hx => by
  obtain ⟨b, cap, e1, h1⟩ := row_get h hx
  cases e1
  exact ⟨b, 0, rfl, by rw [Nat.zero_add]; exact h1.c⟩⟩
theorem same_numbers {aa ab : Option Addr} {ca cb : Nat} {xs : List Int} (hl : xs.length < 100000000) (hA : RRow w aa (xs.map fun v => .int .i64 v)) (hB : RRow w ab (xs.map fun v => .int .i64 v)) :
  Calls Try.prog 18 #[.slice aa xs.length ca, .slice ab xs.length cb] w fun x w' => x = .returned (.bool true) ∧ w'.heap = w.heap := by
 have E : Aside (RRow w aa (xs.map fun v => .int .i64 v) ∧ RRow w ab (xs.map fun v => .int .i64 v)) := ⟨hA, hB⟩
 clear hA hB
 go_enter Try.func18, Try.ntmps18
 go_wp2
 go_loopg [5] xs.length (fun g i wr => ∃ k : Nat, k ≤ xs.length ∧ i = .int .i64 k ∧ g = xs.length - k ∧ wr.heap = w.heap)
 case atStart => exact ⟨0, Nat.zero_le _, rfl, rfl, rfl⟩
 case round =>
  obtain ⟨k, hk, rfl, rfl, hw⟩ := hrel
  rcases Nat.lt_or_ge k xs.length with hlt | hge
  ·obtain ⟨b1, o1, rfl, h1⟩ := (E.out.1.heap hw).c k (.int .i64 xs[k]) (by simp [hlt])
   obtain ⟨b2, o2, rfl, h2⟩ := (E.out.2.heap hw).c k (.int .i64 xs[k]) (by simp [hlt])
   have hwr : IntKind.i64.wrap ((k : Int) + 1) = (k : Int) + 1 := IntWalk.i64_in _ (by omega)
   go_wp2
   go_quiet (fail)
   go_wp2
   go_roundg (xs.length - (k + 1))
   case measure => omega
   case rel => exact ⟨k + 1, hlt, rfl, rfl, hw⟩
  ·have : k = xs.length := by omega
   subst this
   go_wp2
   go_ret
   exact ⟨rfl, hw⟩
theorem same_ints {aa ab : Option Addr} {ca cb : Nat} {xs : List Int} (hl : xs.length < 100000000) (hA : RRow w aa (xs.map fun v => .int .i64 v)) (hB : RRow w ab (xs.map fun v => .int .i64 v)) :
  Calls Try.prog 35 #[.slice aa xs.length ca, .slice ab xs.length cb] w fun x w' => x = .returned (.bool true) ∧ w'.heap = w.heap := by
 have E : Aside (RRow w aa (xs.map fun v => .int .i64 v) ∧ RRow w ab (xs.map fun v => .int .i64 v)) := ⟨hA, hB⟩
 clear hA hB
 go_enter Try.func35, Try.ntmps35
 go_wp2
 go_loopg [5] xs.length (fun g i wr => ∃ k : Nat, k ≤ xs.length ∧ i = .int .i64 k ∧ g = xs.length - k ∧ wr.heap = w.heap)
 case atStart => exact ⟨0, Nat.zero_le _, rfl, rfl, rfl⟩
 case round =>
  obtain ⟨k, hk, rfl, rfl, hw⟩ := hrel
  rcases Nat.lt_or_ge k xs.length with hlt | hge
  ·obtain ⟨b1, o1, rfl, h1⟩ := (E.out.1.heap hw).c k (.int .i64 xs[k]) (by simp [hlt])
   obtain ⟨b2, o2, rfl, h2⟩ := (E.out.2.heap hw).c k (.int .i64 xs[k]) (by simp [hlt])
   have hwr : IntKind.i64.wrap ((k : Int) + 1) = (k : Int) + 1 := IntWalk.i64_in _ (by omega)
   go_wp2
   go_quiet (fail)
   go_wp2
   go_roundg (xs.length - (k + 1))
   case measure => omega
   case rel => exact ⟨k + 1, hlt, rfl, rfl, hw⟩
  ·have : k = xs.length := by omega
   subst this
   go_wp2
   go_ret
   exact ⟨rfl, hw⟩
theorem same_nil : Calls Try.prog 18 #[.slice none 0 0, .slice none 0 0] w fun x w' => x = .returned (.bool true) ∧ w' = w := by
 go_enter Try.func18, Try.ntmps18
 go_wp2
 go_loopg [5] 1 (fun g i wr => i = .int .i64 0 ∧ wr = w)
 case atStart => exact ⟨rfl, rfl⟩
 case round =>
  obtain ⟨rfl, rfl⟩ := hrel
  go_wp2
  go_ret
  exact ⟨rfl, rfl⟩
theorem ans_get (l : List (Bool × Int)) : ∀ (k : Nat), (ansC l)[k * 3]? = (l[k]?).map (fun a => Value.bool a.1) ∧ (ansC l)[k * 3 + 1]? = (l[k]?).map (fun a => Value.int .i64 a.2) ∧ (ansC l)[k * 3 + 2]? = (l[k]?).map (fun a => Value.slice none 0 0) := by
 induction l with
 | nil => intro k; simp [ansC]
 | cons a l ih =>
  intro k
  have e : ansC (a :: l) = Value.bool a.1 :: Value.int .i64 a.2 :: Value.slice none 0 0 :: ansC l := rfl
  cases k with
  | zero => simp [e]
  | succ k =>
   have e2 : (k + 1) * 3 = k * 3 + 1 + 1 + 1 := by omega
   rw [e, e2]
   simpa using ih k
theorem same_answers {aa ab : Option Addr} {ca cb : Nat} {xs : List (Bool × Int)} (hl : xs.length < 100000000) (hA : RRow w aa (ansC xs)) (hB : RRow w ab (ansC xs)) :
  Calls Try.prog 36 #[.slice aa xs.length ca, .slice ab xs.length cb] w fun x w' => x = .returned (.bool true) ∧ w'.heap = w.heap := by
 have E : Aside (RRow w aa (ansC xs) ∧ RRow w ab (ansC xs)) := ⟨hA, hB⟩
 clear hA hB
 go_enter Try.func36, Try.ntmps36
 go_wp2
 go_loopg [5] xs.length (fun g i wr => ∃ k : Nat, k ≤ xs.length ∧ i = .int .i64 k ∧ g = xs.length - k ∧ wr.heap = w.heap)
 case atStart => exact ⟨0, Nat.zero_le _, rfl, rfl, rfl⟩
 case round =>
  obtain ⟨k, hk, rfl, rfl, hw⟩ := hrel
  rcases Nat.lt_or_ge k xs.length with hlt | hge
  ·obtain ⟨g1, g2, g3⟩ := ans_get xs k
   rw [List.getElem?_eq_getElem hlt] at g1 g2 g3
   generalize xs[k] = x at g1 g2 g3
   obtain ⟨b, n⟩ := x
   obtain ⟨b1, o1, rfl, f0⟩ := (E.out.1.heap hw).c (k * 3) _ g1
   obtain ⟨_, _, e1, f1⟩ := (E.out.1.heap hw).c (k * 3 + 1) _ g2
   cases e1
   obtain ⟨_, _, e1, f2⟩ := (E.out.1.heap hw).c (k * 3 + 2) _ g3
   cases e1
   obtain ⟨b2, o2, rfl, h0⟩ := (E.out.2.heap hw).c (k * 3) _ g1
   obtain ⟨_, _, e1, h1⟩ := (E.out.2.heap hw).c (k * 3 + 1) _ g2
   cases e1
   obtain ⟨_, _, e1, h2⟩ := (E.out.2.heap hw).c (k * 3 + 2) _ g3
   cases e1
   rw [← Nat.add_assoc] at f1 f2 h1 h2
   have H : Aside (∀ m, Calls Try.prog 18 #[.slice none 0 0, .slice none 0 0] (wr.drewN m) fun x w' => x = .returned (.bool true) ∧ w' = wr.drewN m) := fun m => same_nil
   have hwr : IntKind.i64.wrap ((k : Int) + 1) = (k : Int) + 1 := IntWalk.i64_in _ (by omega)
   have W : Aside (wr.heap = w.heap) := hw
   clear g1 g2 g3 hw
   cases b
   all_goals (
    go_wp2
    go_quiet ((go_at_call 18; exact Calls.quiet_of_same (H.out _)))
    go_wp2
    go_roundg (xs.length - (k + 1))
    case measure => omega
    case rel => exact ⟨k + 1, hlt, rfl, rfl, W.out⟩)
  ·have : k = xs.length := by omega
   subst this
   go_wp2
   go_ret
   exact ⟨rfl, hw⟩
end
noncomputable section
variable {w w' : World}
theorem nrm_seq {P : Program} {a b : Code} {Q : Exit → Act → World → Prop} {x : Act} {w : World} (h : a.wp P (nrm fun a' w' => b.wp P Q a' w') x w) : (Code.seq a b).wp P Q x w :=
 wp_seq' (wp_mono h fun e a' w' hq => by cases e <;> first | exact hq | exact hq.elim)
theorem rp_0 {A : Array Value} {a0 a1 a2 a3 : Value} (hA : Slots 114 A [(0, a0), (1, a1), (2, a2), (3, a3)]) {Q : Act → World → Prop}
  (hQ : ∀ A', Slots 114 A' [(0, a0), (1, a1), (2, a2), (3, a3), (8, .pointer (some ⟨w.heap.size, 0, none⟩))] → Q ⟨A', []⟩ (w.alloc (.cells #[.slice none 0 0, .slice none 0 0, .slice none 0 0, .bool false] 29))) : rpr0.wp Try.prog (nrm Q) ⟨A, []⟩ w := by
 obtain ⟨hsz, h0, h1, h2, h3, _⟩ := hA
 obtain ⟨s, rfl⟩ := rpT_of hsz
 change s 0 = _ at h0
 change s 1 = _ at h1
 change s 2 = _ at h2
 change s 3 = _ at h3
 have HQ : Aside (∀ A', Slots 114 A' [(0, a0), (1, a1), (2, a2), (3, a3), (8, .pointer (some ⟨w.heap.size, 0, none⟩))] → Q ⟨A', []⟩ (w.alloc (.cells #[.slice none 0 0, .slice none 0 0, .slice none 0 0, .bool false] 29))) := hQ
 clear hsz hQ
 simp only [rpr0, rpBody, Code.piece, Try.f15, Option.getD_some, rpT, h0, h1, h2, h3]
 clear h0 h1 h2 h3
 go_wp2
 exact HQ.out _ ⟨rfl, rfl, rfl, rfl, rfl, rfl, trivial⟩
theorem rp_1 {A : Array Value} {a0 a1 a2 a3 v8 : Value} {R : Nat → World → Prop} (hC : Calls Try.prog 17 #[a0] w fun e w' => ∃ rq, e = .returned (.pointer (some ⟨rq, 0, none⟩)) ∧ R rq w') (hA : Slots 114 A [(0, a0), (1, a1), (2, a2), (3, a3), (8, v8)]) {Q : Act → World → Prop}
  (hQ : ∀ A' rq w', Slots 114 A' [(1, a1), (2, a2), (3, a3), (8, v8), (9, .pointer (some ⟨rq, 0, none⟩))] → R rq w' → Q ⟨A', []⟩ w') : rpr1.wp Try.prog (nrm Q) ⟨A, []⟩ w := by
 obtain ⟨hsz, h0, h1, h2, h3, h8, _⟩ := hA
 obtain ⟨s, rfl⟩ := rpT_of hsz
 change s 0 = _ at h0
 change s 1 = _ at h1
 change s 2 = _ at h2
 change s 3 = _ at h3
 change s 8 = _ at h8
 have HQ : Aside (∀ A' rq w', Slots 114 A' [(1, a1), (2, a2), (3, a3), (8, v8), (9, .pointer (some ⟨rq, 0, none⟩))] → R rq w' → Q ⟨A', []⟩ w') := hQ
 have H : Aside (Calls Try.prog 17 #[a0] w fun e w' => ∃ rq, e = .returned (.pointer (some ⟨rq, 0, none⟩)) ∧ R rq w') := hC
 clear hsz hQ hC
 simp only [rpr1, rpBody, Code.piece, Try.f15, Option.getD_some, rpT, h0, h1, h2, h3, h8]
 clear h0 h1 h2 h3 h8
 go_wp2_with (fail)
 go_at_call 17
 refine H.out.mono ?_
 rintro e w1 ⟨rq, rfl, hR⟩
 have R1 : Aside (R rq w1) := hR
 clear hR
 go_wp2
 exact HQ.out _ _ _ ⟨rfl, rfl, rfl, rfl, rfl, rfl, trivial⟩ R1.out
theorem rp_2 {A : Array Value} {a1 a2 a3 v8 v9 : Value} (hA : Slots 114 A [(1, a1), (2, a2), (3, a3), (8, v8), (9, v9)]) {Q : Act → World → Prop}
  (hQ : ∀ A', Slots 114 A' [(1, a1), (2, a2), (3, a3), (8, v8), (9, v9), (10, .slice none 0 0)] → Q ⟨A', []⟩ w) : rpr2.wp Try.prog (nrm Q) ⟨A, []⟩ w := by
 obtain ⟨hsz, h1, h2, h3, h8, h9, _⟩ := hA
 obtain ⟨s, rfl⟩ := rpT_of hsz
 change s 1 = _ at h1
 change s 2 = _ at h2
 change s 3 = _ at h3
 change s 8 = _ at h8
 change s 9 = _ at h9
 have HQ : Aside (∀ A', Slots 114 A' [(1, a1), (2, a2), (3, a3), (8, v8), (9, v9), (10, .slice none 0 0)] → Q ⟨A', []⟩ w) := hQ
 clear hsz hQ
 simp only [rpr2, rpBody, Code.piece, Try.f15, Option.getD_some, rpT, h1, h2, h3, h8, h9]
 clear h1 h2 h3 h8 h9
 go_wp2
 exact HQ.out _ ⟨rfl, rfl, rfl, rfl, rfl, rfl, rfl, trivial⟩
theorem rp_3 {A : Array Value} {a1 a2 a3 v8 v9 v10 : Value} (hA : Slots 114 A [(1, a1), (2, a2), (3, a3), (8, v8), (9, v9), (10, v10)]) {Q : Act → World → Prop}
  (hQ : ∀ A', Slots 114 A' [(1, a1), (2, a2), (3, a3), (8, v8), (9, v9), (10, v10), (11, .slice none 0 0)] → Q ⟨A', []⟩ w) : rpr3.wp Try.prog (nrm Q) ⟨A, []⟩ w := by
 obtain ⟨hsz, h1, h2, h3, h8, h9, h10, _⟩ := hA
 obtain ⟨s, rfl⟩ := rpT_of hsz
 change s 1 = _ at h1
 change s 2 = _ at h2
 change s 3 = _ at h3
 change s 8 = _ at h8
 change s 9 = _ at h9
 change s 10 = _ at h10
 have HQ : Aside (∀ A', Slots 114 A' [(1, a1), (2, a2), (3, a3), (8, v8), (9, v9), (10, v10), (11, .slice none 0 0)] → Q ⟨A', []⟩ w) := hQ
 clear hsz hQ
 simp only [rpr3, rpBody, Code.piece, Try.f15, Option.getD_some, rpT, h1, h2, h3, h8, h9, h10]
 clear h1 h2 h3 h8 h9 h10
 go_wp2
 exact HQ.out _ ⟨rfl, rfl, rfl, rfl, rfl, rfl, rfl, rfl, trivial⟩
theorem rp_10 {A : Array Value} {a2 a3 v8 v9 v10 v11 : Value} {R : Nat → World → Prop} (hC : Calls Try.prog 43 #[a2, a3] w fun e w' => ∃ ub, e = .returned (.pointer (some ⟨ub, 0, none⟩)) ∧ R ub w') (hA : Slots 114 A [(2, a2), (3, a3), (8, v8), (9, v9), (10, v10), (11, v11)]) {Q : Act → World → Prop}
  (hQ : ∀ A' ub w', Slots 114 A' [(8, v8), (9, v9), (10, v10), (11, v11), (14, .pointer (some ⟨ub, 0, none⟩))] → R ub w' → Q ⟨A', []⟩ w') : rpr10.wp Try.prog (nrm Q) ⟨A, []⟩ w := by
 obtain ⟨hsz, h2, h3, h8, h9, h10, h11, _⟩ := hA
 obtain ⟨s, rfl⟩ := rpT_of hsz
 change s 2 = _ at h2
 change s 3 = _ at h3
 change s 8 = _ at h8
 change s 9 = _ at h9
 change s 10 = _ at h10
 change s 11 = _ at h11
 have HQ : Aside (∀ A' ub w', Slots 114 A' [(8, v8), (9, v9), (10, v10), (11, v11), (14, .pointer (some ⟨ub, 0, none⟩))] → R ub w' → Q ⟨A', []⟩ w') := hQ
 have H : Aside (Calls Try.prog 43 #[a2, a3] w fun e w' => ∃ ub, e = .returned (.pointer (some ⟨ub, 0, none⟩)) ∧ R ub w') := hC
 clear hsz hQ hC
 simp only [rpr10, rpBody, Code.piece, Try.f15, Option.getD_some, rpT, h2, h3, h8, h9, h10, h11]
 clear h2 h3 h8 h9 h10 h11
 go_wp2_with (fail)
 go_at_call 43
 refine H.out.mono ?_
 rintro e w1 ⟨rq, rfl, hR⟩
 have R1 : Aside (R rq w1) := hR
 clear hR
 go_wp2
 exact HQ.out _ _ _ ⟨rfl, rfl, rfl, rfl, rfl, rfl, trivial⟩ R1.out
end
noncomputable section
variable {w w' : World}
def RefOut (w : World) (ops : Nat → List Op4) (n M : Nat) (S vs : List Int) (v : Value) (w' : World) : Prop :=
 ∃ (s : PS) (order : List Nat) (lb lv : List Nat) (xa oa' sa' : Option Addr) (xc oc' sc' : Nat) (va : Nat → Option Addr) (vc : Nat → Nat),
  v = .agg #[.slice xa n xc, .slice oa' order.length oc', .slice sa' (1 + lv.length) sc', .bool (decide (0 < cnt s.live n))] ∧ (∃ k, ∀ f, k ≤ f → pOver ops n M S f (q00 vs) = (s, order)) ∧ Path s.q (s.q.nx s.q.tl) lb ∧ Path s.q (s.q.nx s.q.hd) lv ∧
  RRow w' oa' (order.map fun i : Nat => .int .i64 i) ∧ RRow w' sa' (.int .i64 lb.length :: (lv.map s.q.vl).map fun v => .int .i64 v) ∧ RRow w' xa ((List.range n).map fun i => .slice (va i) (s.th i).ans.length (vc i)) ∧ (∀ i, i < n → RRow w' (va i) (ansC (s.th i).ans)) ∧ ∀ r, r < w.heap.size → w'.heap[r]? = w.heap[r]?
def vaOf (v : Value) : Option Addr := match v with | .slice a _ _ => a | _ => none
def vcOf (v : Value) : Nat := match v with | .slice _ _ c => c | _ => 0
theorem slice_of {base n size : Nat} {e : TypeId} {v : Value} {xs : List Value} (h : w.ownsRow base e size v n xs) : v = .slice (vaOf v) n (vcOf v) := by
 rcases h.2 with ⟨rfl, rfl⟩ | ⟨g, cap, cur, rfl, _⟩ <;> rfl
theorem stuck_is {s : PS} {n : Nat} : (!(List.range n).all (endedOf s)) = decide (0 < cnt s.live n) := by
 cases h : (List.range n).all (endedOf s) with
 | true => rw [endedOf_all.1 h]; rfl
 | false =>
  have : 0 < cnt s.live n := by
   rcases Nat.eq_zero_or_pos (cnt s.live n) with e | e
   ·rw [endedOf_all.2 e] at h; cases h
   ·exact e
  simp [this]
theorem Addr.add_at (b o j : Nat) : (⟨b, o, none⟩ : Addr).add j = ⟨b, o + j, none⟩ := by
 unfold Addr.add
 split
 ·subst_vars; rfl
 ·rfl
theorem newturns_ref {S : List Int} {sa : Option Addr} {sc M : Nat} {mo : Int} (hM : min (max mo 0) 1048576 = (M : Int)) (hl : S.length < 10000000) (hS : 0 < S.length → ∃ sb so, sa = some ⟨sb, so, none⟩ ∧ ∀ (j : Nat) (u : Value), (S.map fun i : Int => Value.int .i64 i)[j]? = some u → w.cell? ⟨sb, so + j, none⟩ = some u) :
  Calls Try.prog 43 #[.slice sa S.length sc, .int .i64 mo] w fun x w' => NTOut w S M x w' := by
 rcases Nat.eq_zero_or_pos S.length with h0 | h0
 ·have : S = [] := List.eq_nil_of_length_eq_zero h0
  subst this
  exact newturns_nil hM
 ·obtain ⟨sb, so, rfl, h⟩ := hS h0
  exact newturns_some hM hl h0 fun j u hu => by rw [Addr.add_at]; exact h j u hu
end
noncomputable section
theorem slots_start {n m : Nat} {a b c d : Value} (h : 4 + m = n) : Slots n (#[a, b, c, d] ++ Array.replicate m undef) [(0, a), (1, b), (2, c), (3, d)] := by
 refine ⟨by simp; omega, ?_, ?_, ?_, ?_, trivial⟩
 ·simp [Array.getD_eq_getD_getElem?, Array.getElem?_append]
 ·simp [Array.getD_eq_getD_getElem?, Array.getElem?_append]
 ·simp [Array.getD_eq_getD_getElem?, Array.getElem?_append]
 ·simp [Array.getD_eq_getD_getElem?, Array.getElem?_append]
theorem rp_body : Try.f15.body = some rpBody := by
 have h : ∃ c, Try.f15.body = some c := ⟨_, rfl⟩
 obtain ⟨c, h⟩ := h
 rw [rpBody, h]
 rfl
end
end Go.Proofs.Ytcejbandeikdjaa
