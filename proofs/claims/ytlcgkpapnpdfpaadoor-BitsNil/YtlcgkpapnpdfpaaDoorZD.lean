/-
  Go.Proofs.YtlcgkpapnpdfpaaDoor.bitsNil_holds : Rows.BitsNilCardSaid: whatever the operation, a nil set and the zero one are of the size 0, answer as the document's empty set does, and do no step; the law leaves what was. Conditions: none beyond the card's own.
  Part 4 of 4.
-/
import Derived.Test.YtlcgkpapnpdfpaaDoorZC
import Derived.ProofKit
import Derived.Conc.LeavingOf
import Derived.Deep.DrawnRows
import Derived.Test.YtlcgkpapnpdfpaaDoorRows
import Derived.JoinedCond
import Derived.Conc.Holds
import Derived.Test.YtlcgkpapnpdfpaaDoorCards
import Derived.Test.YtlcgkpapnpdfpaaDoorTie
import Derived.ChangeSame
import Derived.Deep.DeepHandedRow
import Derived.Lib.LaidTab
set_option linter.unusedSimpArgs false
set_option linter.unusedVariables false
set_option linter.unusedSectionVars false
set_option maxRecDepth 100000
set_option maxHeartbeats 8000000
namespace Go.Proofs.YtlcgkpapnpdfpaaDoor
open Go Go.Conc Go.RowKit Go.Proofs
section
variable{w w' w0:World}{lb wb:Nat}
theorem w0N(a:Addr):¬P1 F0 a:=fun h=>by obtain⟨z,hz,_⟩:=h;cases hz
structure g0i(sv:Value)(main:Bool)(sb:Option Nat)(X:Nat→World→Prop):Prop where
 tick:∀(m:Nat) (w:World) (c:Frame) (cs:List Frame) (Stop:Goroutine→World→Prop),X m w→m<4611686018427387904→(∀w',X (m+1) w'→w'.heap.size=w.heap.size→(∀r,some r≠sb→w'.heap[r]? =w.heap[r]?)→E0 Tryd.prog main F0 Stop (G (c.finish (.tuple #[])) cs) w')→
  E0 Tryd.prog main F0 Stop (G (Frame.enter Tryd.prog 48 #[sv] .normal) (c::cs)) w
 keep:∀(m:Nat) (w w':World),X m w→(∀b,sb=some b→b<w.heap.size→w'.heap[b]? =w.heap[b]?)→X m w'
theorem w0J(main:Bool):g0i .nilIface main none fun _ _=>True where
 tick:=fun m w c cs Stop _ _ h=>D8 (h w trivial rfl fun _ _=>rfl)
 keep:=fun _ _ _ _ _=>trivial
structure WU(lb wb:Nat)(k:Z1)(w:World):Prop where
 wf:BWf k
 o:w.heap[lb]? =some (.cells #[vI (k.n:Nat),vL wb 0 k.ws.length k.ws.length] 62 (0,0))
 ws:a0U w wb k.ws
 t:Tab w
 ne:wb≠lb
 z:wb≠0
theorem WU.bh{k:Z1}(h:WU lb wb k w):BH lb wb k.n k.ws.length w:=⟨by simp[World.cell?,h.o],by simp[World.cell?,h.o],h.wf.l,h.wf.n⟩
theorem WU.same{k:Z1}(h:WU lb wb k w)(h1:w'.heap[lb]? =w.heap[lb]?)(h2:w'.heap[wb]? =w.heap[wb]?)(h3:w'.heap[0]? =w.heap[0]?):WU lb wb k w':=⟨h.wf,h1.trans h.o,h2.trans h.ws,h.t.same h3,h.ne,h.z⟩
theorem WU.low{k:Z1}(h:WU lb wb k w):lb<w.heap.size∧wb<w.heap.size∧0<w.heap.size:=by
 have h1:=(Array.getElem?_eq_some_iff.1 h.o).1
 exact⟨h1,(Array.getElem?_eq_some_iff.1 (show w.heap[wb]? =_ from h.ws)).1,by omega⟩
theorem WU.wc{k:Z1}(h:WU lb wb k w){i:Nat}(hi:i<k.ws.length):w.cell? ⟨wb,i,none⟩=some (wV (k.wd i)):=h.ws.c hi
theorem WU.hz{k:Z1}(h:WU lb wb k w)(i:Nat):HiZ k.n i (k.wd i):=fun j _ hj=>h.wf.hi _ _ hj
theorem WU.setW{k:Z1}(h:WU lb wb k w){i:Nat}{z:BitVec 64}(hz:∀j,k.n≤i*64+j→z.getLsbD j=false):WU lb wb {k with ws:=k.ws.set i z} (w.setCell ⟨wb,i,none⟩ (wV z)):=by
 refine⟨⟨by simpa using h.wf.l,h.wf.n,j0Q (n:=k.n) h.wf.hi hz⟩,?_,h.ws.set _ _,h.t.same (r0 _ _ _ (Ne.symm h.z)),h.ne,h.z⟩
 rw[r0 _ _ _ (Ne.symm h.ne)]
 have:=h.o
 simpa using this
structure AlB(lb wb:Nat)(sb:Option Nat)(X:Nat→World→Prop)(w0:World)(k:Z1)(m:Nat)(w:World):Prop where
 u:WU lb wb k w
 x:X m w
 sz:w0.heap.size≤w.heap.size
 o:∀r,r<w0.heap.size→some r≠sb→r≠wb→w.heap[r]? =w0.heap[r]?
def Apt(lb wb:Nat)(sb:Option Nat):Prop:=∀b,sb=some b→b≠lb∧b≠wb∧b≠0
section
variable{sv:Value}{main:Bool}{sb:Option Nat}{m:Nat}{X:Nat→World→Prop}{k:Z1}
theorem AlB.tick(h:AlB lb wb sb X w0 k m w)(hsb:Apt lb wb sb)(hx:X (m+1) w')(hs:w'.heap.size=w.heap.size)(ho:∀r,some r≠sb→w'.heap[r]? =w.heap[r]?):AlB lb wb sb X w0 k (m+1) w':=
 ⟨h.u.same (ho _ fun e=>(hsb _ e.symm).1 rfl) (ho _ fun e=>(hsb _ e.symm).2.1 rfl) (ho _ fun e=>(hsb _ e.symm).2.2 rfl),hx,by rw[hs];exact h.sz,fun r hr h1 h2=>(ho r h1).trans (h.o r hr h1 h2)⟩
theorem AlB.grow(S:g0i sv main sb X)(h:AlB lb wb sb X w0 k m w)(hsb:Apt lb wb sb)(hsz:w.heap.size≤w'.heap.size)(ho:∀r,r<w0.heap.size→w'.heap[r]? =w.heap[r]?)(h1:w'.heap[lb]? =w.heap[lb]?)(h2:w'.heap[wb]? =w.heap[wb]?)(h3:w'.heap[0]? =w.heap[0]?)(hb:∀b,sb=some b→b<w.heap.size→w'.heap[b]? =w.heap[b]?):AlB lb wb sb X w0 k m w':=
 ⟨h.u.same h1 h2 h3,S.keep m _ _ h.x hb,Nat.le_trans h.sz hsz,fun r hr h1 h2=>(ho r hr).trans (h.o r hr h1 h2)⟩
theorem AlB.setW(S:g0i sv main sb X)(h:AlB lb wb sb X w0 k m w)(hsb:Apt lb wb sb){i:Nat}{z:BitVec 64}(hz:∀j,k.n≤i*64+j→z.getLsbD j=false):AlB lb wb sb X w0 {k with ws:=k.ws.set i z} m (w.setCell ⟨wb,i,none⟩ (wV z)):=
 ⟨h.u.setW hz,S.keep m _ _ h.x fun b hb _=>r0 _ _ _ (hsb b hb).2.1,by rw[World.size_setCell];exact h.sz,fun r hr h1 h2=>(r0 _ _ _ h2).trans (h.o r hr h1 h2)⟩
def Z1.numsTo(s:Z1)(i:Nat):List Int:=(List.range i).flatMap fun k=>J5 s.n k (s.wd k)
theorem v9(s:Z1)(i:Nat):s.numsTo (i+1)=s.numsTo i++J5 s.n i (s.wd i):=by simp[Z1.numsTo,List.range_succ]
theorem a0H(s:Z1):s.numsTo s.ws.length=s.nums:=rfl
theorem k04(n k:Nat)(x:BitVec 64):(J5 n k x).length≤64:=by
 unfold J5
 rw[List.length_map]
 exact Nat.le_trans (List.length_filter_le _ _) (by simp)
theorem a0I(s:Z1)(i:Nat):(s.numsTo i).length≤64*i:=by
 induction i with
 | zero=>simp[Z1.numsTo]
 | succ i ih=>
   rw[v9,List.length_append]
   have:=k04 s.n i (s.wd i)
   omega
theorem e0p(S:g0i sv main sb X)(hsb:Apt lb wb sb){w1:World}(hlow:lb<w1.heap.size∧wb<w1.heap.size∧0<w1.heap.size)(hsl:w0.heap.size≤w1.heap.size)(hsbl:∀b,sb=some b→b<w1.heap.size)(hm:m+2000<4611686018427387904){c:Frame}{cs:List Frame}{Stop:Goroutine→World→Prop}
 (K:∀w' ov,AlB lb wb sb X w0 k (m+k.ws.length) w'→w'.ownsRow 0 3 1 ov k.nums.length (k.nums.map fun v=>vI v)→(∀b,ov.ownBlock=some b→w1.heap.size≤b)→w1.heap.size≤w'.heap.size→(∀r,r<w1.heap.size→some r≠sb→w'.heap[r]? =w1.heap[r]?)→E0 Tryd.prog main F0 Stop (G (c.finish ov) cs) w'):
 ∀(j i:Nat) (w:World) (A:Array Value) (ov:Value),i+j+1=k.ws.length→AlB lb wb sb X w0 k (m+i) w→w.ownsRow 0 3 1 ov (k.numsTo i).length ((k.numsTo i).map fun v=>vI v)→(∀b,ov.ownBlock=some b→w1.heap.size≤b)→w1.heap.size≤w.heap.size→(∀r,r<w1.heap.size→some r≠sb→w.heap[r]? =w1.heap[r]?)→
  D0 40 A [(0,vP lb 0),(1,sv),(5,ov),(6,vI (i:Nat)),(11,vI (k.ws.length:Nat)),(12,vI (i:Nat))]→
  E0 Tryd.prog main F0 Stop (G (Frame.enter Tryd.prog 48 #[sv] .normal) ((bA 30 A [.inRegion (oC a0f) [1],.code o9,.inBlock 1,.code x4,.inLoop l7,.inBlock 0,.code U4])::c::cs)) w:=by
 intro j
 induction j with
 | zero=>
   intro i w A ov hi h hrow hnew hs ho hA
   have hl:=h.u.wf.l
   have hn:=h.u.wf.n
   refine S.tick _ _ _ _ _ h.x (by omega) fun w2 hx hz hq=>?_
   have h2:=h.tick hsb hx hz hq
   have hrow2:w2.ownsRow 0 3 1 ov (k.numsTo i).length ((k.numsTo i).map fun v=>vI v):=E1 hrow fun b hb _=>hq b fun e=>by have:=hsbl b e.symm;have:=hnew b hb;omega
   have hw:i<k.ws.length:=by omega
   have hlen:=a0I k i
   have hbl:=a0Z (k.wd i)
   have hnum:=R9 (h.u.hz i)
   refine p0t h2.u.bh hw (h2.u.wc hw) hA fun A' hA'=>?_
   refine c0I (w0:=w2) (ov0:=ov) (ys:=k.numsTo (i+1)) K1 (Nat.zero_le _) (by omega) h2.u.low.2.2 h2.u.t (fun e=>by have:=hnew 0 e.symm;omega) (fun q _=>rfl) (fun ov' w' A3 hrow3 hwf' hm' hA3=>?_) (O5 (k.wd i)) (k.wd i) (k.numsTo i) ov w2 A' rfl (by rw[v9,hnum]) (by omega) hrow2 (k0r _) (L4.refl _ _) hA'
   have hnw:∀r,r<w1.heap.size→w'.heap[r]? =w2.heap[r]?:=fun r hr=>hm'.old r (by omega) fun e=>by have:=hnew r e.symm;omega
   have h3:AlB lb wb sb X w0 k (m+i+1) w':=h2.grow S hsb hm'.size (fun r hr=>hnw r (by omega)) (hnw _ hlow.1) (hnw _ hlow.2.1) (hnw _ hlow.2.2) fun b hb _=>hnw b (hsbl b hb)
   have hnew':∀b,ov'.ownBlock=some b→w1.heap.size≤b:=fun b hb=>by
    rcases hm'.blk with h1|⟨q,h1,h2⟩
    ·exact hnew b (h1 ▸ hb)
    ·rw[h1]at hb;cases hb;omega
   have hms:=hm'.size
   have ho':∀r,r<w1.heap.size→some r≠sb→w'.heap[r]? =w1.heap[r]?:=fun r hr hrs=>(hnw r hr).trans ((hq r hrs).trans (ho r hr hrs))
   refine n0y (by omega) (by omega) hA3 (K w' ov' ?_ ?_ hnew' (by omega) ho')
   ·have e:m+i+1=m+k.ws.length:=by omega
    rw[← e];exact h3
   ·have e:i+1=k.ws.length:=by omega
    rw[e,a0H]at hrow3
    exact hrow3
 | succ j ih=>
   intro i w A ov hi h hrow hnew hs ho hA
   have hl:=h.u.wf.l
   have hn:=h.u.wf.n
   refine S.tick _ _ _ _ _ h.x (by omega) fun w2 hx hz hq=>?_
   have h2:=h.tick hsb hx hz hq
   have hrow2:w2.ownsRow 0 3 1 ov (k.numsTo i).length ((k.numsTo i).map fun v=>vI v):=E1 hrow fun b hb _=>hq b fun e=>by have:=hsbl b e.symm;have:=hnew b hb;omega
   have hw:i<k.ws.length:=by omega
   have hlen:=a0I k i
   have hbl:=a0Z (k.wd i)
   have hnum:=R9 (h.u.hz i)
   refine p0t h2.u.bh hw (h2.u.wc hw) hA fun A' hA'=>?_
   refine c0I (w0:=w2) (ov0:=ov) (ys:=k.numsTo (i+1)) K1 (Nat.zero_le _) (by omega) h2.u.low.2.2 h2.u.t (fun e=>by have:=hnew 0 e.symm;omega) (fun q _=>rfl) (fun ov' w' A3 hrow3 hwf' hm' hA3=>?_) (O5 (k.wd i)) (k.wd i) (k.numsTo i) ov w2 A' rfl (by rw[v9,hnum]) (by omega) hrow2 (k0r _) (L4.refl _ _) hA'
   have hnw:∀r,r<w1.heap.size→w'.heap[r]? =w2.heap[r]?:=fun r hr=>hm'.old r (by omega) fun e=>by have:=hnew r e.symm;omega
   have h3:AlB lb wb sb X w0 k (m+i+1) w':=h2.grow S hsb hm'.size (fun r hr=>hnw r (by omega)) (hnw _ hlow.1) (hnw _ hlow.2.1) (hnw _ hlow.2.2) fun b hb _=>hnw b (hsbl b hb)
   have hnew':∀b,ov'.ownBlock=some b→w1.heap.size≤b:=fun b hb=>by
    rcases hm'.blk with h1|⟨q,h1,h2⟩
    ·exact hnew b (h1 ▸ hb)
    ·rw[h1]at hb;cases hb;omega
   have hms:=hm'.size
   have ho':∀r,r<w1.heap.size→some r≠sb→w'.heap[r]? =w1.heap[r]?:=fun r hr hrs=>(hnw r hr).trans ((hq r hrs).trans (ho r hr hrs))
   refine n0x (by omega) (by omega) hA3 fun A4 hA4=>ih (i+1) w' A4 ov' (by omega) h3 hrow3 hnew' (by omega) ho' hA4
theorem h0b(S:g0i sv main sb X)(hsb:Apt lb wb sb)(h:AlB lb wb sb X w0 k m w)(hsbl:∀b,sb=some b→b<w.heap.size)(hm:m+2000<4611686018427387904){c:Frame}{cs:List Frame}{Stop:Goroutine→World→Prop}
 (K:∀w' ov,AlB lb wb sb X w0 k (m+k.ws.length) w'→w'.ownsRow 0 3 1 ov k.nums.length (k.nums.map fun v=>vI v)→(∀b,ov.ownBlock=some b→w.heap.size≤b)→w.heap.size≤w'.heap.size→(∀r,r<w.heap.size→some r≠sb→w'.heap[r]? =w.heap[r]?)→E0 Tryd.prog main F0 Stop (G (c.finish ov) cs) w'):
 E0 Tryd.prog main F0 Stop (G (Frame.enter Tryd.prog 30 #[vP lb 0,sv] .normal) (c::cs)) w:=by
 by_cases h0:k.ws.length=0
 ·refine n0w h.u.bh h0 (K w _ (by rw[h0];exact h) ?_ (fun b hb=>by simp[Value.ownBlock]at hb) (Nat.le_refl _) fun _ _ _=>rfl)
  have e:k.nums=[]:=by rw[← a0H,h0];rfl
  rw[e]
  exact World.ownsRow_nil _ _ _ _
 ·refine t0i h.u.bh (by omega) fun A hA=>?_
  exact e0p S hsb h.u.low h.sz hsbl hm K (k.ws.length - 1) 0 w A _ (by omega) h (World.ownsRow_nil _ _ _ _) (fun b hb=>by simp[Value.ownBlock]at hb) (Nat.le_refl _) (fun _ _ _=>rfl) hA
theorem h0g{lv:Value}{xs:List Int}(hl:xs.length≤70000)(hrow:w.ownsRow 0 3 1 lv xs.length (xs.map fun v=>vI v)){c:Frame}{cs:List Frame}{Stop:Goroutine→World→Prop}
 (K:∀w' ov,w'.ownsRow 0 2 1 ov xs.length (xs.map fun v=>vI v)→(∀b,ov.ownBlock=some b→w.heap.size≤b)→w.heap.size≤w'.heap.size→(∀r,r<w.heap.size→w'.heap[r]? =w.heap[r]?)→E0 Tryd.prog main F0 Stop (G (c.finish ov) cs) w'):
 E0 Tryd.prog main F0 Stop (G (Frame.enter Tryd.prog 29 #[lv] .normal) (c::cs)) w:=by
 obtain⟨la,lc,rfl⟩:=b0R hrow
 by_cases h0:xs.length=0
 ·refine o0C fun A6 hA6=>?_
  have hA7:D0 18 A6 [(3,.slice none 0 0),(6,.slice la xs.length lc),(7,vI (xs.length:Nat)),(8,vI (xs.length:Nat))]:=by rw[h0]at hA6 ⊢;exact hA6
  refine o0D hA7 (K w _ ?_ (fun b hb=>by simp[Value.ownBlock]at hb) (Nat.le_refl _) fun _ _=>rfl)
  have hy0:xs=[]:=List.length_eq_zero_iff.1 h0
  rw[hy0]
  exact World.ownsRow_nil _ _ _ _
 ·rcases hrow.2 with⟨e,_⟩|⟨gb,lc,cur,e,q1,q2,q3,q4,q5,q6⟩
  ·simp only[Value.slice.injEq]at e
   omega
  ·simp only[Value.slice.injEq]at e
   obtain⟨rfl,_,rfl⟩:=e
   refine o0C fun A6 hA6=>?_
   refine k0t (w0:=w) (xs:=xs) K1 (Nat.zero_le _) (by omega) (fun j x hj=>?_) (fun lv w2 A7 hr2 hwf2 hm2 hA7=>?_) xs.length 0 _ w A6 (by omega) (World.ownsRow_nil _ _ _ _) (k0r _) (L4.refl _ _) hA6
   ·obtain⟨b2,cap2,a1,a2⟩:=G8 hrow (k:=j) (x:=vI x) (by rw[List.getElem?_map,hj];rfl)
    cases a1
    exact a2.c
   ·refine o0D hA7 (K w2 lv hr2 (fun b hb=>?_) hm2.size fun r hr=>hm2.old r hr (by simp[Value.ownBlock]))
    rcases hm2.blk with h1|⟨g,h1,h2⟩
    ·rw[h1]at hb;simp[Value.ownBlock]at hb
    ·rw[h1]at hb;cases hb;exact h2
end
end
section
variable{F:Fz}{w w':World}
def e0d(w:World):Prop:=∃c e z,w.heap[0]? =some (.cells c e z)∧∀k,k<64→c[k]? =some (.int .u8 ((deB.getD k 0:Nat):Int))
def j0s(n:Nat)(xs:List Int):Z1:=⟨n,xs.foldl (a0v n) (List.replicate ((n+63) / 64) 0#64)⟩
theorem m0l{n:Nat}(hn:n≤65536)(xs:List Int):BWf (j0s n xs) where
 l:=by simp[j0s,e0J]
 n:=hn
 hi:=n0m _ _ (p0n _ _)
theorem f0m{sa:Option Addr}{sc n nn:Nat}{xs:List Int}(hU:Q1 F nn)(hn:nn≤w.heap.size)(hr:a0R w sa xs)(hl:xs.length<9223372036854775808)(hn6:n≤65536)(hg:e0d w){A:Array Value}(hA:D0 51 A [(0,.slice sa xs.length sc),(4,vI (n:Nat))]){c:Frame}{cs:List Frame}{main:Bool}{Stop:Goroutine→World→Prop}
 (K:∀w' g,BU (w.heap.size+1) (w.heap.size+4) (w.heap.size+3) (w.heap.size+2) ⟨j0s n xs,w.heap.size,g⟩ w'→w'.heap.size=w.heap.size+5→(∀r,r<w.heap.size→w'.heap[r]? =w.heap[r]?)→E0 Tryd.prog main F Stop (G (c.finish (.tuple #[vP (w.heap.size+1) 0,.func (.func 51) #[] #[vP (w.heap.size+4) 0,vP (w.heap.size+2) 0]])) cs) w'):
 E0 Tryd.prog main F Stop (G (Frame.enter Tryd.prog 11 #[vI (n:Nat)] .normal) (fMa A::c::cs)) w:=by
 have hnew:∀q,w.heap.size≤q→∀k,¬P1 F ⟨q,k,none⟩:=fun q hq k=>P2 hU (show nn≤q by omega)
 refine n08 hU hn hn6 rfl ?_
 have hx0:((w.alloc (.cells (madeCells #[.int .u64 0] ((n+63) / 64)) 113)).alloc (.cells #[vI (n:Nat),vL w.heap.size 0 ((n+63) / 64) ((n+63) / 64)] 62)).heap.size=w.heap.size+2:=by simp
 have hx1:∀r,r<w.heap.size→((w.alloc (.cells (madeCells #[.int .u64 0] ((n+63) / 64)) 113)).alloc (.cells #[vI (n:Nat),vL w.heap.size 0 ((n+63) / 64) ((n+63) / 64)] 62)).heap[r]? =w.heap[r]?:=fun r hr=>by rw[o0 _ _ (by simp;omega),o0 _ _ hr]
 have hx2:((w.alloc (.cells (madeCells #[.int .u64 0] ((n+63) / 64)) 113)).alloc (.cells #[vI (n:Nat),vL w.heap.size 0 ((n+63) / 64) ((n+63) / 64)] 62)).heap[w.heap.size+1]? =some (.cells #[vI (n:Nat),vL w.heap.size 0 ((n+63) / 64) ((n+63) / 64)] 62 (0,0)):=by
  have:=heap_alloc_new (w.alloc (.cells (madeCells #[.int .u64 0] ((n+63) / 64)) 113)) (.cells #[vI (n:Nat),vL w.heap.size 0 ((n+63) / 64) ((n+63) / 64)] 62)
  simpa using this
 have hx3:a0U ((w.alloc (.cells (madeCells #[.int .u64 0] ((n+63) / 64)) 113)).alloc (.cells #[vI (n:Nat),vL w.heap.size 0 ((n+63) / 64) ((n+63) / 64)] 62)) w.heap.size (List.replicate ((n+63) / 64) 0#64):=by
  show(World.heap _)[w.heap.size]? =_
  rw[o0 _ _ (by simp),heap_alloc_new]
  congr 2
  apply Array.toList_inj.1
  rw[toList_madeCells_one]
  simp[wV]
 generalize ((w.alloc (.cells (madeCells #[.int .u64 0] ((n+63) / 64)) 113)).alloc (.cells #[vI (n:Nat),vL w.heap.size 0 ((n+63) / 64) ((n+63) / 64)] 62))=X at hx0 hx1 hx2 hx3 ⊢
 refine y0I hU (by omega) hA fun A2 hA2=>?_
 rw[hx0]at hA2
 have hY0:(X.alloc (.cells #[vP (w.heap.size+1) 0] 33)).heap.size=w.heap.size+3:=by simp[hx0]
 have hY1:∀r,r<w.heap.size+2→(X.alloc (.cells #[vP (w.heap.size+1) 0] 33)).heap[r]? =X.heap[r]?:=fun r hr=>o0 _ _ (by omega)
 have hY2:(X.alloc (.cells #[vP (w.heap.size+1) 0] 33)).heap[w.heap.size+2]? =some (.cells #[vP (w.heap.size+1) 0] 33 (0,0)):=by
  rw[← hx0];exact heap_alloc_new _ _
 generalize X.alloc (.cells #[vP (w.heap.size+1) 0] 33)=Y at hY0 hY1 hY2 ⊢
 have hlo:∀b o,sa=some ⟨b,o,none⟩→0<xs.length→b<w.heap.size:=fun b o e hp=>by
  obtain⟨b2,o2,e2,h2⟩:=hr 0 xs[0] (List.getElem?_eq_getElem hp)
  rw[e]at e2
  simp only[Option.some.injEq,Addr.mk.injEq]at e2
  rw[e2.1]
  exact O6 h2
 have hrY:a0R Y sa xs:=hr.same fun r hr=>(hY1 r (by omega)).trans (hx1 r hr)
 have hcY:Y.cell? ⟨w.heap.size+2,0,none⟩=some (vP (w.heap.size+1) 0):=by simp[World.cell?,hY2]
 have hoY:Y.heap[w.heap.size+1]? =_:=(hY1 _ (by omega)).trans hx2
 have hBY:BH (w.heap.size+1) w.heap.size n ((n+63) / 64) Y:=⟨by simp[World.cell?,hoY],by simp[World.cell?,hoY],rfl,hn6⟩
 have hWY:a0U Y w.heap.size (List.replicate ((n+63) / 64) 0#64):=(hY1 _ (by omega)).trans hx3
 refine p0x (w0:=Y) (n:=n) (lb:=w.heap.size+1) (xb:=w.heap.size+2) (wb:=w.heap.size) (sc:=sc) (xs:=xs) hl hlo hrY (Nat.le_refl _) (by omega) (by omega) (hnew _ (Nat.le_refl _)) (List.replicate ((n+63) / 64) 0#64) (m:=(n+63) / 64) (by simp) (fun W A3 hB hc hs ho hW hA3=>?_) xs.length 0 Y A2 _ (by omega) (by simp) rfl hBY hcY rfl (fun _ _=>rfl) hWY hA2
 have hWs:W.heap.size=w.heap.size+3:=hs.trans hY0
 refine y0L hU (by omega) hc hA3 ?_
 obtain⟨tc,te,tz,hg1,hg2⟩:=hg
 have h0:0<w.heap.size:=(D4 hg1)
 have hZ0:∀r,r<w.heap.size+3→((W.alloc (.cells #[.func (.func 18) #[vP (w.heap.size+1) 0] #[],.func (.func 19) #[vP (w.heap.size+1) 0] #[],.func (.func 20) #[vP (w.heap.size+1) 0] #[]] 58)).alloc (.cells #[vL W.heap.size 0 3 3] 116)).heap[r]? =W.heap[r]?:=fun r hr=>by
  rw[o0 _ _ (by simp;omega),o0 _ _ (by omega)]
 have hold:∀r,r<w.heap.size→W.heap[r]? =w.heap[r]?:=fun r hr=>(ho r (by omega)).trans ((hY1 r (by omega)).trans (hx1 r hr))
 have hK:=K ((W.alloc (.cells #[.func (.func 18) #[vP (w.heap.size+1) 0] #[],.func (.func 19) #[vP (w.heap.size+1) 0] #[],.func (.func 20) #[vP (w.heap.size+1) 0] #[]] 58)).alloc (.cells #[vL W.heap.size 0 3 3] 116)) (.cells tc te tz) ⟨m0l hn6 xs,?_,?_,?_,?_,?_,?_,⟨tc,te,tz,rfl,hg2⟩,by show w.heap.size≠_;omega,by show w.heap.size≠_;omega,by show w.heap.size≠_;omega,by show w.heap.size≠_;omega,by show w.heap.size≠0;omega⟩ (by simp[hWs]) fun r hr=>(hZ0 r (by omega)).trans (hold r hr)
 ·rw[hWs]at hK ⊢
  exact hK
 ·rw[hZ0 _ (by omega),ho _ (by omega),hoY]
  simp[BS.m,j0s,e0J]
 ·rw[hZ0 _ (by simp)]
  exact hW
 ·have:=heap_alloc_new (W.alloc (.cells #[.func (.func 18) #[vP (w.heap.size+1) 0] #[],.func (.func 19) #[vP (w.heap.size+1) 0] #[],.func (.func 20) #[vP (w.heap.size+1) 0] #[]] 58)) (.cells #[vL W.heap.size 0 3 3] 116)
  simpa [hWs]using this
 ·have:=heap_alloc_new W (.cells #[.func (.func 18) #[vP (w.heap.size+1) 0] #[],.func (.func 19) #[vP (w.heap.size+1) 0] #[],.func (.func 20) #[vP (w.heap.size+1) 0] #[]] 58)
  rw[hWs]at this
  rw[o0 _ _ (by simp[hWs])]
  exact this
 ·rw[hZ0 _ (by omega),ho _ (by omega),hY2]
 ·rw[hZ0 _ (by omega),hold _ h0,hg1]
theorem o0e{va:Option Addr}{vc nn:Nat}{vs:List Int}(hU:Q1 F nn)(hn:nn≤w.heap.size)(hr:a0R w va vs)(hvc:vs.length≤vc)(hl:vs.length<9223372036854775808)(hg:e0d w){c:Frame}{cs:List Frame}{main:Bool}{Stop:Goroutine→World→Prop}
 (K:∀w' g,BU (w.heap.size+1) (w.heap.size+4) (w.heap.size+3) (w.heap.size+2) ⟨k0z vs,w.heap.size,g⟩ w'→w'.heap.size=w.heap.size+5→(∀r,r<w.heap.size→w'.heap[r]? =w.heap[r]?)→E0 Tryd.prog main F Stop (G (c.finish (.tuple #[vP (w.heap.size+1) 0,.func (.func 51) #[] #[vP (w.heap.size+4) 0,vP (w.heap.size+2) 0]])) cs) w'):
 E0 Tryd.prog main F Stop (G (Frame.enter Tryd.prog 27 #[.slice va vs.length vc] .normal) (c::cs)) w:=by
 cases vs with
 | nil=>
   refine w0D fun A hA=>?_
   exact f0m (xs:=[]) (n:=0) hU hn (fun i x h=>by simp at h) (by simp) (by omega) hg hA K
 | cons v xs=>
   obtain⟨b,o,rfl,hc⟩:=hr 0 v rfl
   simp only[List.length_cons]at hvc hl ⊢
   refine y0H (n:=c0i (v::xs)) hc hvc ?_ fun A hA=>?_
   ·have hb:=show((c0i (v::xs):Nat):Int)=min (max v 0) 65536 by unfold c0i;simp only[List.headD_cons];omega
    rw[hb]
    split<;>split<;>omega
   ·refine f0m (xs:=xs) hU hn (fun i x h=>?_) (by omega) (m0w _) hg hA K
    obtain⟨b2,o2,e2,h2⟩:=hr (i+1) x (by simpa using h)
    simp only[Option.some.injEq,Addr.mk.injEq]at e2
    obtain⟨rfl,rfl,_⟩:=e2
    have hi:i<xs.length:=(List.getElem?_eq_some_iff.1 h).1
    refine⟨b,o+1,by rw[if_neg (by omega)],?_⟩
    rw[← h2]
    congr 2
    omega
end
section
variable{An:O2}{w w':World}
theorem Z8.later3{N N':Nat→Prop}{n tb o tl:Nat}{ta:Option Addr}{oa:Nat→Option Addr}{ol oc:Nat→Nat}{ops:Nat→List I6}{S:List Int}{sa:Option Addr}(h:Z8 w N n tb o tl ta oa ol oc ops S sa)(hs:w.heap.size≤w'.heap.size)(hold:∀r,r<w.heap.size→w'.heap[r]? =w.heap[r]?)(hN:∀r,N' r→N r∨w.heap.size≤r):Z8 w' N' n tb o tl ta oa ol oc ops S sa:=by
 have hc:∀{a:Addr} {v:Value},w.cell? a=some v→w'.cell? a=some v∧w'.frozen? a=w.frozen? a:=fun{a v} h=>by
  obtain⟨c,e,z,ho⟩:=X4 h
  have e1:=hold _ (D4 ho)
  exact⟨by rw[← h];unfold World.cell?;simp only[e1],by unfold World.frozen?;simp only[e1]⟩
 refine⟨h.hn,h.hta,fun hp=>by have:=h.htb hp;omega,fun j hj=>?_,h.hlen,fun j hj k x hx=>?_,h.hsl,fun hp=>?_⟩
 ·obtain⟨h1,h2,h3⟩:=h.hth j hj
  exact⟨(hc h1).1,(hc h1).2.trans h2,h3⟩
 ·obtain⟨opb,oo,h1,h2,f0,f1,f2,f3,g0,g1,g2,g3⟩:=h.hop j hj k x hx
  obtain⟨c,e,z,ho⟩:=X4 f0
  have hlt:=(D4 ho)
  exact⟨opb,oo,h1,fun hn=>by rcases hN _ hn with h3|h3;exact h2 h3;simp only at hlt;omega,(hc f0).1,(hc f1).1,(hc f2).1,(hc f3).1,(hc f0).2.trans g0,(hc f1).2.trans g1,(hc f2).2.trans g2,(hc f3).2.trans g3⟩
 ·obtain⟨sb,so,c,e,z,h1,h2,h3,h4⟩:=h.hS hp
  have hlt:=(D4 h3)
  exact⟨sb,so,c,e,z,h1,fun hn=>by rcases hN _ hn with h5|h5;exact h2 h5;omega,(hold _ hlt).trans h3,h4⟩
theorem d0X{base n size:Nat}{e:TypeId}{v:Value}{xs:List Value}(h:w.ownsRow base e size v n xs)(hs:∀b c,w.heap[b]? =some (.cells c e (0,0))→base≤b→w'.heap[b]? =w.heap[b]?):w'.ownsRow base e size v n xs:=by
 refine⟨h.1,?_⟩
 rcases h.2 with h2|⟨b,cap,cur,rfl,h3,h4,h5⟩
 ·exact .inl h2
 ·exact .inr ⟨b,cap,cur,rfl,h3,(hs b cur h4 h3).trans h4,h5⟩
def o0J(w:World)(r:Nat):Prop:=∀c e z,w.heap[r]?≠some (.cells c e z)
structure f0s(w:World)(n:Nat)(ans:Nat→List SAn)(state:List Int)(order:List Nat)(aa:Nat)(rows:Nat→Value)(av:Nat→List SA)(ov sv:Value)(w':World):Prop where
 size:w.heap.size≤w'.heap.size
 old:∀(r:Nat) (c:Array Value) (e:TypeId) (z:Nat×Nat),w.heap[r]? =some (.cells c e z)→w'.heap[r]? =some (.cells c e z)
 arr:∃c,w'.heap[aa]? =some (.cells c 55 (0,0))∧c.size=n∧∀i,i<n→c[i]? =some (rows i)
 row:∀i,i<n→(av i).map SA.an=ans i∧(av i).length≤65536∧w'.ownsRow 0 49 3 (rows i) (av i).length (((av i).map fun a=>a.v.cells).flatten)∧∀a∈av i,SAU a w'
 nwa:o0J w aa
 nwr:∀i,i<n→∀r,(rows i).ownBlock=some r→o0J w r
 nwl:∀i,i<n→∀a∈av i,∀r,a.row.ownBlock=some r→o0J w r
 dj:∀i j,i<n→j<n→i≠j→∀r,(rows i).ownBlock=some r→(rows j).ownBlock≠some r
 ord:w'.ownsRow w.heap.size 3 1 ov order.length (order.map fun i:Nat=>Value.int .i64 i)
 st:w'.ownsRow w.heap.size 2 1 sv state.length (state.map fun v=>vI v)
def k0w(lb cb fb xb:Nat):Abs (L2 lb cb fb xb) BPl:=⟨BS.k,BeC.c,SA.an⟩
theorem o0R(lb cb fb xb:Nat):(k0w lb cb fb xb).Ok where
 beg:=fun s i o y h=>by
  obtain⟨y1,y2⟩:=y
  have h2:=h.2.2
  cases y2<;>exact h2
 stp:=fun s c y h=>by
  obtain⟨y1,y2⟩:=y
  have h2:=h.2.2
  cases y2<;>exact h2
theorem n0G(k:Z1)(h:BWf k):k.nums.length≤65600:=by
 rw[← a0H]
 have:=a0I k k.ws.length
 have:=h.l
 have:=h.n
 omega
section
variable{L:X9}{p:Par}{g:S0}{P:L.S→Prop}
theorem i0W(hb:∀s i o y,L.beg s i o y→P s→P y.1){i:Nat}{a b:L.S×Thr L}(h:Adv L p i a b):P a.1→P b.1:=by
 induction h with
 | done _ _=>exact id
 | live _ h2=>exact hb _ _ _ _ h2
 | imm _ h2 _ ih=>exact fun h=>ih (hb _ _ _ _ h2 h)
theorem p0W(hb:∀s i o y,L.beg s i o y→P s→P y.1)(hs:∀s c y,L.stp s c y→P s→P y.1){i:Nat}{a b:L.S×Thr L}(h:Stp L p i a b):P a.1→P b.1:=by
 cases h with
 | live _ h2=>exact hs _ _ _ h2
 | ans _ h2 h3=>exact fun h=>i0W hb h3 (hs _ _ _ h2 h)
theorem e0U(hb:∀s i o y,L.beg s i o y→P s→P y.1):∀(i:Nat) (x y:OX L),a0P (I1 L p g) i x y→P x.s→P y.s
 | 0,x,y,h,hp=>by
   have h:y=x:=h
   rw[h];exact hp
 | i+1,x,z,⟨y,h1,h2⟩,hp=>i0W hb h2.1 (e0U hb i x y h1 hp)
theorem o0A(hb:∀s i o y,L.beg s i o y→P s→P y.1)(hs:∀s c y,L.stp s c y→P s→P y.1){n M:Nat}{s t:OX L×List Nat}{i:Int}(h:a0T (I1 L p g) n M s i t)(hp:P s.1.s):P t.1.s:=by
 unfold a0T at h
 split at h
 ·exact p0W hb hs h.1.1 hp
 ·rw[h];exact hp
theorem b0Y(hb:∀s i o y,L.beg s i o y→P s→P y.1)(hs:∀s c y,L.stp s c y→P s→P y.1){n M:Nat}:∀(l:List Int) (s t:OX L×List Nat),O4 (I1 L p g) n M l s t→P s.1.s→P t.1.s
 | [],s,t,h,hp=>by
   have h:t=s:=h
   rw[h];exact hp
 | i::l,s,t,⟨u,h1,h2⟩,hp=>b0Y hb hs l u t h2 (o0A hb hs h1 hp)
theorem i0H{Z:R2}{P:Z.X→Prop}{n M:Nat}(ht:∀l s t,O4 Z n M l s t→P s.1→P t.1){s t:Z.X×List Nat}(h:a9 Z n M s t):P s.1→P t.1:=by
 induction h with
 | done _=>exact id
 | more _ _ h3 _ ih=>exact fun hp=>ih (ht _ _ _ h3 hp)
theorem g05(hb:∀s i o y,L.beg s i o y→P s→P y.1)(hs:∀s c y,L.stp s c y→P s→P y.1){n M:Nat}{S:List Int}{x0:OX L}{t:OX L×List Nat}(h:a0S (I1 L p g) n M S x0 t)(hp:P x0.s):P t.1.s:=by
 obtain⟨x1,h1,s,h2,h3⟩:=h
 exact i0H (Z:=I1 L p g) (P:=fun x:OX L=>P x.s) (b0Y hb hs) h3 (b0Y hb hs _ _ _ h2 (e0U hb _ _ _ h1 hp))
end
theorem k0y{va:Option Addr}{vc:Nat}{vs:List Int}(hv:a0R w va vs)(hvc:vs.length≤vc)(hvl:vs.length<9223372036854775808)(hg:e0d w)
 {n tb o tl tc sc M:Nat} {mo:Int} {ta sa:Option Addr} {oa:Nat→Option Addr} {ol oc:Nat→Nat} {ops:Nat→List I6} {S:List Int} (hI:Z8 w (fun r=>r=0) n tb o tl ta oa ol oc ops S sa) (hM:min (max mo 0) 1048576=(M:Int)) {c:Frame} {cs:List Frame} {Stop:Goroutine→World→Prop}
 (hP:∀(s:GS BPl) order,T7 n M (s,order)→(∃k,∀f,k≤f→e09 ops n M S f (bs0 vs)=(s,order))→
   ∀aa rows av oa' oc' xa xc w',f0s w n (fun i=>(s.th i).ans) (Z1.nums s.q) order aa rows av (.slice oa' order.length oc') (.slice xa (Z1.nums s.q).length xc) w'→
    Bes An Tryd.prog Stop (G (c.finish (.agg #[vL aa 0 n n,.slice oa' order.length oc',.slice xa (Z1.nums s.q).length xc,.bool (decide (0<y5 s.live n))])) cs) w'):
 Bes An Tryd.prog Stop (G (Frame.enter Tryd.prog 9 #[.slice va vs.length vc,.slice ta tl tc,.slice sa S.length sc,vI mo] .normal) (c::cs)) w:=by
 have hF:∀a:Addr,¬P1 F0 a:=w0N
 have hrow0:∀r,r<w.heap.size→(w.alloc (.cells #[.slice none 0 0,.slice none 0 0,.slice none 0 0,.bool false] 29)).heap[r]? =w.heap[r]?:=fun r hr=>o0 _ _ hr
 have hs0:(w.alloc (.cells #[.slice none 0 0,.slice none 0 0,.slice none 0 0,.bool false] 29)).heap.size=w.heap.size+1:=by simp
 have htr:d6 (w.alloc (.cells #[.slice none 0 0,.slice none 0 0,.slice none 0 0,.bool false] 29)) w.heap.size (.slice none 0 0) (.slice none 0 0) (.slice none 0 0) (.bool false):=⟨heap_alloc_new _ _⟩
 have h00:0<w.heap.size:=by
  obtain⟨_,_,_,h,_⟩:=hg
  exact(D4 h)
 have hg1:e0d (w.alloc (.cells #[.slice none 0 0,.slice none 0 0,.slice none 0 0,.bool false] 29)):=by
  obtain⟨c0,e0,z0,h1,h2⟩:=hg
  exact⟨c0,e0,z0,(hrow0 0 h00).trans h1,h2⟩
 generalize hW0:w.alloc (.cells #[.slice none 0 0,.slice none 0 0,.slice none 0 0,.bool false] 29)=w0 at hrow0 hs0 htr hg1
 refine W5 (F:=F0) (Stop:=fun a u=>∃A g,a=G (Frame.enter Tryd.prog 28 #[.slice ta tl tc,.func (.func 51) #[] #[vP (w.heap.size+5) 0,vP (w.heap.size+3) 0],.slice sa S.length sc,vI mo] .normal) ((bA 9 A [.inRegion (oC e0V) [4,5,6],.code g0E])::c::cs)∧
  D0 27 A [(8,vP w.heap.size 0),(9,vP (w.heap.size+2) 0)]∧BU (w.heap.size+2) (w.heap.size+5) (w.heap.size+4) (w.heap.size+3) ⟨k0z vs,w.heap.size+1,g⟩ u∧u.heap.size=w.heap.size+6∧(∀r,r<w.heap.size+1→u.heap[r]? =w0.heap[r]?))
  (u0Y K1 (Nat.zero_le _) fun A hA=>?_) fun a W hS=>?_
 ·rw[hW0]
  refine o0e K1 (Nat.zero_le _) (hv.same hrow0) hvc hvl hg1 fun w1 g k1 k2 k3=>?_
  rw[hs0]at k1 k2 k3 ⊢
  exact u0Z hA fun A2 hA2=>.stop fun d=>⟨A2,g,rfl,hA2,k1.same fun _ _=>rfl,k2,k3⟩
 obtain⟨A,g,rfl,hA,hQ,hWs,hWo⟩:=hS
 have hold1:∀r,r<w.heap.size→W.heap[r]? =w.heap[r]?:=fun r hr=>(hWo r (by omega)).trans (hrow0 r hr)
 have hrb1:W.heap[w.heap.size]? =some (.cells #[.slice none 0 0,.slice none 0 0,.slice none 0 0,.bool false] 29 (0,0)):=(hWo _ (by omega)).trans htr.o
 have hNr:∀r,BR (w.heap.size+2) (w.heap.size+5) (w.heap.size+4) (w.heap.size+3) ⟨k0z vs,w.heap.size+1,g⟩ r→r=0∨w.heap.size+1≤r:=fun r hr=>by
  rcases hr with rfl|rfl|rfl|rfl|rfl|rfl<;>first|(exact .inl rfl)|(refine .inr ?_;first|omega|exact Nat.le_refl _)
 have hI1:Z8 W (BR (w.heap.size+2) (w.heap.size+5) (w.heap.size+4) (w.heap.size+3) ⟨k0z vs,w.heap.size+1,g⟩) n tb o tl ta oa ol oc ops S sa:=hI.later3 (by omega) hold1 fun r hr=>(hNr r hr).imp id (by omega)
 refine l05 (L:=L2 (w.heap.size+2) (w.heap.size+5) (w.heap.size+4) (w.heap.size+3)) (o0X _ _ _ _) (s0:=⟨k0z vs,w.heap.size+1,g⟩) hQ hI1 hM ?_
 intro gt p p' t u oa' oc' hgn hpn hpo hOk hrel hpn' hpo' hpa hU hord hnR hsz hkeep hpI
 obtain⟨hd,hover⟩:=k08 (ab:=k0w _ _ _ _) (o0R _ _ _ _) hOk (fun j hj=>⟨rfl,rfl⟩) hrel
 have htg:t.1.s.g=g:=g05 (L:=L2 (w.heap.size+2) (w.heap.size+5) (w.heap.size+4) (w.heap.size+3)) (P:=fun s:BS=>s.g=g) (fun s i o y h hp=>h.2.1.trans hp) (fun s c y h hp=>h.2.1.trans hp) hrel rfl
 have htw:t.1.s.wb=w.heap.size+1:=g05 (L:=L2 (w.heap.size+2) (w.heap.size+5) (w.heap.size+4) (w.heap.size+3)) (P:=fun s:BS=>s.wb=w.heap.size+1) (fun s i o y h hp=>h.1.trans hp) (fun s c y h hp=>h.1.trans hp) hrel rfl
 rw[hpo]at hover
 have hK:=hP _ _ hd hover
 have hQU:BU (w.heap.size+2) (w.heap.size+5) (w.heap.size+4) (w.heap.size+3) t.1.s u:=hU.su
 have hrb2:u.heap[w.heap.size]? =some (.cells #[.slice none 0 0,.slice none 0 0,.slice none 0 0,.bool false] 29 (0,0)):=hkeep _ _ _ _ hrb1 fun h=>by rcases hNr _ h with h|h<;>omega
 have hcnt:y5 ((I1 (L2 (w.heap.size+2) (w.heap.size+5) (w.heap.size+4) (w.heap.size+3)) p gt).liv t.1) n=y5 ((k0w _ _ _ _).x t.1).live n:=M9 fun j _=>d0G t.1 j
 rw[hcnt]
 have hnew:∀r,r≠0→OR (L2 (w.heap.size+2) (w.heap.size+5) (w.heap.size+4) (w.heap.size+3)) p' t.1 r→o0J w r:=fun r h0 hr c0 e0 z0 h=>by
  have hlt:=(D4 h)
  exact hpI r c0 e0 z0 ((hold1 r hlt).trans h) (fun h2=>by rcases hNr r h2 with h3|h3<;>omega) (hU.inone r hr)
 obtain⟨ca,hca,hcs,hci⟩:=hU.arr
 have hlt:=(D4 hca)
 have hlr:=(D4 hrb2)
 have hSR0:BR (w.heap.size+2) (w.heap.size+5) (w.heap.size+4) (w.heap.size+3) t.1.s 0:=.inr (.inr (.inr (.inr (.inr rfl))))
 have hT0:∀i,i<n→∀r,TR (t.1.th i) r→r≠0:=fun i hi r hr e=>(hU.ts i (by rw[hpn'];exact hi) r hr).1 (by rw[e];exact hSR0)
 have ha0:p'.aa≠0:=fun e=>hU.sa (by rw[e];exact hSR0)
 obtain⟨q,hq⟩:∃q:Z1,q=((k0w (w.heap.size+2) (w.heap.size+5) (w.heap.size+4) (w.heap.size+3)).x t.1).q:=⟨_,rfl⟩
 obtain⟨sb,hsb⟩:∃b:Bool,b=decide (0<y5 ((k0w (w.heap.size+2) (w.heap.size+5) (w.heap.size+4) (w.heap.size+3)).x t.1).live n):=⟨_,rfl⟩
 rw[← hsb]at hK ⊢
 rw[← hq]at hK
 have hqs:t.1.s.k=q:=hq.symm
 have htb:=heap_alloc_new u (.cells #[vL p.aa 0 n n,.slice oa' t.2.length oc',.slice none 0 0,.bool sb] 29)
 have htl:∀r,r<u.heap.size→(u.alloc (.cells #[vL p.aa 0 n n,.slice oa' t.2.length oc',.slice none 0 0,.bool sb] 29)).heap[r]? =u.heap[r]?:=fun r hr=>o0 _ _ hr
 have hts:(u.alloc (.cells #[vL p.aa 0 n n,.slice oa' t.2.length oc',.slice none 0 0,.bool sb] 29)).heap.size=u.heap.size+1:=by simp
 refine W5 (F:=F0) (Stop:=fun a u2=>∃xa xc,a=G (c.finish (.agg #[vL p.aa 0 n n,.slice oa' t.2.length oc',.slice xa (Z1.nums q).length xc,.bool sb])) cs∧
  f0s w n (fun i=>(((k0w (w.heap.size+2) (w.heap.size+5) (w.heap.size+4) (w.heap.size+3)).x t.1).th i).ans) (Z1.nums q) t.2 p.aa (fun i=>(t.1.th i).row) (fun i=>(t.1.th i).ans) (.slice oa' t.2.length oc') (.slice xa (Z1.nums q).length xc) u2)
  (u00 K1 (Nat.zero_le _) hA fun A2 hA2=>?_) fun a u2 ⟨xa,xc,ha,hu2⟩=>?_
 ·generalize u.alloc (.cells #[vL p.aa 0 n n,.slice oa' t.2.length oc',.slice none 0 0,.bool sb] 29)=U at htb htl hts ⊢
  have hUU:BU (w.heap.size+2) (w.heap.size+5) (w.heap.size+4) (w.heap.size+3) t.1.s U:=hQU.same fun r hr=>htl r (hQU.low hr)
  have hwf:BWf q:=hqs ▸ hQU.wf
  have hal:AlB (w.heap.size+2) t.1.s.wb none (fun _ _=>True) U q 0 U:=⟨⟨hwf,by have:=hUU.o;rw[← hqs];exact this,by have:=hUU.ws;rw[← hqs];exact this,hUU.tab,hUU.ne.1,hUU.ne.2.2.2.2⟩,trivial,Nat.le_refl _,fun _ _ _ _=>rfl⟩
  refine h0b (w0J true) (fun b h=>by cases h) hal (fun b h=>by cases h) (by omega) fun w1 lv _ hrow1 hnew1 hsz1 hold1'=>?_
  refine u01 hA2 fun A3 hA3=>?_
  refine h0g (by have:=n0G q hwf;omega) hrow1 fun w2 ov hrow2 hnew2 hsz2 hold2=>?_
  obtain⟨xa,xc,rfl⟩:=b0R hrow2
  have hw2U:∀r,r<U.heap.size→w2.heap[r]? =U.heap[r]?:=fun r hr=>(hold2 r (by omega)).trans (hold1' r hr (by simp))
  have hR:d6 w2 w.heap.size (.slice none 0 0) (.slice none 0 0) (.slice none 0 0) (.bool false):=⟨(hw2U _ (by omega)).trans ((htl _ hlr).trans hrb2)⟩
  have hT:d6 w2 u.heap.size (vL p.aa 0 n n) (.slice oa' t.2.length oc') (.slice none 0 0) (.bool sb):=⟨(hw2U _ (by omega)).trans htb⟩
  refine u02 (show w.heap.size≠u.heap.size by omega) hR hT (fun k=>hF _) (fun k=>hF _) hA3 (.stop fun d=>⟨xa,xc,rfl,?_⟩)
  have hlw:∀r,r<u.heap.size→w2.heap[r]? =u.heap[r]?:=fun r hr=>(hw2U _ (by omega)).trans (htl _ hr)
  have hne2:∀r,r≠w.heap.size→r≠u.heap.size→((trW (w2.setCell ⟨u.heap.size,2,none⟩ (.slice xa (Z1.nums q).length xc)) w.heap.size (vL p.aa 0 n n) (.slice oa' t.2.length oc') (.slice xa (Z1.nums q).length xc) (.bool sb)).at d).heap[r]? =w2.heap[r]?:=fun r hr hr2=>by
   show(trW _ _ _ _ _ _).heap[r]? =_
   unfold trW
   rw[r0 _ _ _ hr,r0 _ _ _ hr,r0 _ _ _ hr,r0 _ _ _ hr,r0 _ _ _ hr2]
  have hsz3:((trW (w2.setCell ⟨u.heap.size,2,none⟩ (.slice xa (Z1.nums q).length xc)) w.heap.size (vL p.aa 0 n n) (.slice oa' t.2.length oc') (.slice xa (Z1.nums q).length xc) (.bool sb)).at d).heap.size=w2.heap.size:=by
   show(trW _ _ _ _ _ _).heap.size=_
   unfold trW;simp
  generalize (trW (w2.setCell ⟨u.heap.size,2,none⟩ (.slice xa (Z1.nums q).length xc)) w.heap.size (vL p.aa 0 n n) (.slice oa' t.2.length oc') (.slice xa (Z1.nums q).length xc) (.bool sb)).at d=V at hne2 hsz3 ⊢
  have hty:∀(b:Nat) (c:Array Value) (e:TypeId) (z:Nat×Nat),u.heap[b]? =some (.cells c e z)→e≠29→V.heap[b]? =u.heap[b]?:=fun b cc e z hb he=>by
   have hbl:=(D4 hb)
   rw[hne2 b (fun h=>by rw[h,hrb2]at hb;cases hb;exact he rfl) (by omega),hlw b hbl]
  have hth:∀i,i<n→e0e (L2 (w.heap.size+2) (w.heap.size+5) (w.heap.size+4) (w.heap.size+3)) p' (gt.st i) i (t.1.th i) u:=fun i hi=>hU.thr i (by rw[hpn'];exact hi)
  refine⟨by omega,fun r cc e z hr=>?_,⟨ca,?_,?_,fun i hi=>?_⟩,fun i hi=>⟨rfl,?_,?_,fun a ha=>?_⟩,?_,fun i hi r hr=>?_,fun i hi a ha r hr=>?_,fun i j hi hj hne r h1 h2=>?_,?_,?_⟩
  ·have hlt:=(D4 hr)
   rw[hne2 r (by omega) (by omega),hlw r (by omega)]
   by_cases e0:r=0
   ·subst e0
    have h1:=hQ.g
    have h2:=hQU.g
    rw[htg]at h2
    rw[h2]
    have h3:=(hold1 0 hlt).symm.trans h1
    rw[hr]at h3
    exact h3.symm
   ·exact hkeep _ _ _ _ ((hold1 r hlt).trans hr) fun h=>by rcases hNr _ h with h|h<;>omega
  ·rw[hty _ _ _ _ (hpa ▸ hca) (by decide)]
   exact hpa ▸ hca
  ·rw[hcs,hpn']
  ·exact hci i (by rw[hpn'];exact hi)
  ·have ht:=hth i hi
   have h1:=ht.al
   have h2:=ht.kl
   rw[hpo',hI.hlen i hi]at h2
   exact Nat.le_trans (Nat.le_of_eq h1) (Nat.le_trans h2 (by omega))
  ·have hr:u.ownsRow 0 49 3 (t.1.th i).row (t.1.th i).ans.length (((t.1.th i).ans.map fun a=>a.v.cells).flatten):=(hth i hi).row
   exact d0X hr fun b cc hb _=>hty b cc _ _ hb (by decide)
  ·have h1:SAU a u:=(hth i hi).au a ha
   exact d0X h1 fun b cc hb _=>hty b cc _ _ hb (by decide)
  ·exact hnew _ (hpa ▸ ha0) (.inr (.inl hpa.symm))
  ·exact hnew _ (hT0 i hi r (.inl hr)) (.inr (.inr ⟨i,by rw[hpn'];exact hi,.inl hr⟩))
  ·exact hnew _ (hT0 i hi r (.inr (.inl ⟨a,ha,hr⟩))) (.inr (.inr ⟨i,by rw[hpn'];exact hi,.inr (.inl ⟨a,ha,hr⟩)⟩))
  ·exact hU.tt i j (by rw[hpn'];exact hi) (by rw[hpn'];exact hj) hne r (.inl h1) (.inl h2)
  ·exact C4 (by omega) (d0X hord fun b cc hb _=>hty b cc _ _ hb (by decide))
  ·have e2:V.ownsRow 0 2 1 (.slice xa (Z1.nums q).length xc) (Z1.nums q).length ((Z1.nums q).map fun v=>vI v):=by
    refine E1 hrow2 fun b hb _=>?_
    have:=hnew2 b hb
    exact hne2 b (by omega) (by omega)
   refine⟨e2.1,?_⟩
   rcases e2.2 with h|⟨b,cap,cur,h1,h2,h3⟩
   ·exact .inl h
   ·refine .inr ⟨b,cap,cur,h1,?_,h3⟩
    have:=hnew2 b (by rw[h1];rfl)
    omega
 ·subst ha
  exact hK _ _ _ _ _ _ _ _ hu2
end
noncomputable section
variable{F:Fz}{w:World}
theorem p0Z(X:World)(x y z u x' y' z' u':Value):((((X.alloc (.cells #[x,y,z,u] 29)).setCell ⟨X.heap.size,0,none⟩ x').setCell ⟨X.heap.size,1,none⟩ y').setCell ⟨X.heap.size,2,none⟩ z').setCell ⟨X.heap.size,3,none⟩ u'=X.alloc (.cells #[x',y',z',u'] 29):=by go_simp
theorem x0H(k:Int):Tryd.prog.built 44 [(0,vI k)]=some #[vI k,vI 0,vI 0,vI 0]:=by kernel_rfl
@[go_sem] theorem x0G(k:Int)(w:World):(Instr.build 44 #[(0,vI k)]).run Tryd.prog w= .ok (.agg #[vI k,vI 0,vI 0,vI 0]) w:=run_build w _ _ _ (x0H k)
@[go_sem] theorem x03(k:Int)(w:World)(es:Array Event):(Instr.build 44 #[(0,vI k)]).events Tryd.prog w es=es:=E4 w es _ _ _ _ Tryd.underlying44 (x0H k)
def v6:Code:=Tryd.f7.body.getD .skip
def u0x:=pC [] v6
def q0c:=pC [zt] v6
def u0y:=pC [zf] v6
def e0x:=pC [zf,zt] v6
def baws2:=pC [zf,zf] v6
theorem k0K(args:Array Value):Frame.enter Tryd.prog 7 args .normal=(Go.Conc.base 7).at {tmps:=args++Array.replicate (81 - args.size) undef,defers:=[]} [.code u0x]:=enter_at args Tryd.func7 rfl
theorem k0D:X0 7:=G1 Tryd.func7 rfl rfl
def o0T(s:Nat→Value):Array Value:= #[s 0,s 1,s 2,s 3,s 4,s 5,s 6,s 7,s 8,s 9,s 10,s 11,s 12,s 13,s 14,s 15,s 16,s 17,s 18,s 19,s 20,s 21,s 22,s 23,s 24,s 25,s 26,s 27,s 28,s 29,s 30,s 31,s 32,s 33,s 34,s 35,s 36,s 37,s 38,s 39,s 40,s 41,s 42,s 43,s 44,s 45,s 46,s 47,s 48,s 49,s 50,s 51,s 52,s 53,s 54,s 55,s 56,s 57,s 58,s 59,s 60,s 61,s 62,s 63,s 64,s 65,s 66,s 67,s 68,s 69,s 70,s 71,s 72,s 73,s 74,s 75,s 76,s 77,s 78,s 79,s 80]
theorem o0U{A:Array Value}(h:A.size=81):∃s,A=o0T s:=by
 obtain⟨s,hs,_⟩:=F3 A h
 exact⟨s,hs⟩
def awW(w:World):World:=(((((w.alloc (.cells #[vI 2] 2)).alloc (.cells #[vI 4,vI 0,vI 0,vI 0] 44)).alloc (.cells #[vI 4,vI 0,vI 0,vI 0] 44)).alloc (.cells #[vL (w.heap.size+1) 0 1 1,vL (w.heap.size+2) 0 1 1] 32)).alloc (.cells #[vI 0,vI 1,vI 0,vI 1,vI 1,vI 1] 3))
theorem y0a{n:Nat}(hU:Q1 F n)(hn:n≤w.heap.size){cs:List Frame}{main:Bool}{Stop:Goroutine→World→Prop}
 (h:∀A,A.size=81→E0 Tryd.prog main F Stop (G (Frame.enter Tryd.prog 9 #[vL w.heap.size 0 1 1,vL (w.heap.size+3) 0 2 2,vL (w.heap.size+4) 0 6 6,vI 100] .normal) ((bA 7 A [.inRegion (oC e0x) [7,8,9],.code baws2])::cs)) (awW w)):
 E0 Tryd.prog main F Stop (G (Frame.enter Tryd.prog 7 #[] .normal) cs) w:=by
 rw[k0K]
 walk_nrm
 refine ogW q0c u0y ?_
 simp only[q0c,v6,Tryd.f7,zz,Nat.reduceAdd]
 refine oT ?_
 refine ogE<|ogW e0x baws2 ?_
 simp only[e0x,v6,Tryd.f7,zz,Nat.reduceAdd]
 refine oA hU ?_
 refine oT ?_
 refine oA hU ?_
 refine oT ?_
 iterate 3 refine oA hU ?_
 refine oc k0E #[vL w.heap.size 0 1 1,vL (w.heap.size+3) 0 2 2,vL (w.heap.size+4) 0 6 6,vI 100] ?_
 exact h _ rfl
theorem y0b{n:Nat}(hU:Q1 F n)(hn:n≤w.heap.size){aa oa xa:Option Addr}{al ac ol oz xl xc:Nat}{st:Bool}{A:Array Value}(hsz:A.size=81){cs:List Frame}{main:Bool}{Stop:Goroutine→World→Prop}
 (h:∀A,D0 81 A [(1,vP w.heap.size 0)]→E0 Tryd.prog main F Stop (G (bA 7 A [.code baws2]) cs) (w.alloc (.cells #[.slice aa al ac,.slice oa ol oz,.slice xa xl xc,.bool st] 29))):
 E0 Tryd.prog main F Stop (G ((bA 7 A [.inRegion (oC e0x) [7,8,9],.code baws2]).finish (.agg #[.slice aa al ac,.slice oa ol oz,.slice xa xl xc,.bool st])) cs) w:=by
 obtain⟨s,rfl⟩:=o0U hsz
 clear hsz
 simp only[o0T]
 rw[Frame.finish_at]
 simp only[e0x,v6,Tryd.f7,zz,Nat.reduceAdd]
 walk_nrm
 refine oA hU ?_
 (refine oW fun dd K hK=>?_;go_simp;refine hK _ _ ⟨⟨⟨0,g0Y (fun k=>P2 hU (show n≤w.heap.size by omega)) _ _ _ _⟩,fun e he=>by(have hm:=mem_listed he;clear he hK;simp[go_sem,storedEv]at hm;rcases hm with rfl|rfl|rfl|rfl<;>exact V0 _ _ ((fun k=>P2 hU (show n≤w.heap.size by omega)) _))⟩,?_⟩;clear hK K;simp only[setCell_at'];refine E0.at ?_ dd)
 have e1:=p0Z w (.slice none 0 0) (.slice none 0 0) (.slice none 0 0) (.bool false) (.slice aa al ac) (.slice oa ol oz) (.slice xa xl xc) (.bool st)
 rw[e1]
 clear e1
 refine ogE ?_
 refine h _ ?_
 exact⟨rfl,rfl,trivial⟩
end
section
variable{P:Program}
theorem k0q(w:World):Wf F0 w:=⟨fun r z h=>by cases h⟩
theorem k0l{fn:Func}{t:Array Value}{w:World}{τ:Tape}{e:Nat}{v:Value}(h:(results fn t).run P (retape w τ e)= .ok v (retape w τ e))(d:Nat):
 (results fn t).run P (w.at d)= .ok v (w.at d)∧∀x∈(results fn t).events P (w.at d) #[],EvT F0 x:=by
 obtain⟨w1,es,j,hu,r1,e1,t1,g1,hw1,l1⟩:=(F8 (P:=P) (F:=F0) fn t (retape w τ e) (k0q _)).ok (by rw[u4 (fun _=>rfl)];exact h)
 rw[u4 (fun _=>rfl)]at hu
 subst hu
 have hj:j=0:=by
  have:=g1.drawn
  omega
 subst hj
 have h2:=l1 (w.at d).tape (w.at d).drawn (by intro i q hi;omega)
 rw[u4 (fun _=>rfl)]at h2
 have h3:(results fn t).run P (w.at d)= .ok v (w.at d):=h2
 refine⟨h3,fun x hx=>?_⟩
 obtain⟨w2,es2,j2,hu2,r2,e2,t2,g2,hw2,l2⟩:=(F8 (P:=P) (F:=F0) fn t (w.at d) (k0q _)).ok (by rw[u4 (fun _=>rfl)];exact h3)
 rw[e2]at hx
 exact t2 x (by simpa using hx)
theorem b0P{S:FuncId→Bool}(hC:v4 P S true)(hE:V5 P){f:Nat}{fn:Func}{c:Code}(hf:P.funcs[f]? =some fn)(hb:fn.body=some c)(hc:W3 P S true c=true){args:Array Value}{w:World}{R:Value→World→Prop}
 (H:∀τ e,X8 P fn args (retape w τ e) R) {cl:Frame} {cs:List Frame} {main:Bool} {Stop:Goroutine→World→Prop}
 (K:∀v w' τ e,R v (retape w' τ e)→Gd F0 w w'→E0 P main F0 Stop (G (cl.finish v) cs) w'):E0 P main F0 Stop (G (Frame.enter P f args .normal) (cl::cs)) w:=by
 let b:Frame:={(default:Frame)with fn:=f,kind:=.normal}
 have henter:Frame.enter P f args .normal=b.at {tmps:=args++Array.replicate (fn.ntmps - args.size) undef,defers:=[]} [.code c]:=by
  simp[Frame.enter,Frame.at,hf,hb,b]
 rw[henter]
 have back:∀(a':Act) (w':World) (t':List Item) (τ:Tape) (e:Nat),a'.defers=[]→(∃v,(results fn a'.tmps).run P (retape (T0 F0 w') τ e)= .ok v (retape (T0 F0 w') τ e)∧∃v',Ending.returned v= .returned v'∧R v' (retape (T0 F0 w') τ e))→Gd F0 w w'→
  E0 P main F0 Stop (G {b.at a' t' with mode:=.returning} (cl::cs)) w':=fun a' w' t' τ e hd ⟨v,h1,v',h2,h3⟩ hg=>by
  cases h2
  rw[u4 (fun _=>rfl)]at h1 h3
  exact i2 rfl hd hf (fun d=>(k0l h1 d).1) (fun d x hx=>(k0l h1 d).2 x hx) (K _ _ τ e h3 hg)
 refine t0j (Q:=bodyPost P fn fun x w'=>∃v,x= .returned v∧R v w') hC (fun _ _=>rfl) hE hc (k0q w) rfl (fun e a w hq=>?_) (fun τ e=>?_) (by simp[b]) (fun a' w' τ e hq _ hg=>?_) (fun a' w' τ e t' hq _ hg=>?_)
 ·cases e with
  | normal=>exact .inl rfl
  | ret=>exact .inr ⟨rfl,hq.1⟩
  | panic ch=>obtain⟨_,v,h,_⟩:=hq;cases h
  | outgrown=>obtain⟨v,h,_⟩:=hq;cases h
  | exit _=>exact hq.elim
  | goto _=>exact hq.elim
 ·rw[u4 (fun _=>rfl)]
  exact H τ e c hb
 ·obtain⟨hd,h⟩:=hq
  have:b.at a' []=b.at ⟨a'.tmps,[]⟩ []:=by rw[← hd]
  rw[this]
  refine G0 rfl (fun d=>stepG_end) ?_
  exact back ⟨a'.tmps,[]⟩ w' [] τ e rfl h hg
 ·obtain⟨hd,h⟩:=hq
  exact back a' w' _ τ e hd h hg
def codeOkF(P:Program)(S:FuncId→Bool)(f:FuncId):Bool:=match P.funcs[f]? with
 | some fn => !(fn.name == "runtime.NumGoroutine") && match fn.body with
   | some c=>W3 P S true c
   | none=>false
 | none=>false
theorem i0p {P : Program} {S : FuncId → Bool} {f : FuncId} (h : codeOkF P S f = true) : ∃ fn, P.funcs[f]? = some fn ∧ (fn.name == "runtime.NumGoroutine") = false ∧ ∃ c, fn.body = some c ∧ W3 P S true c = true := by
 unfold codeOkF at h
 split at h
 ·rename_i fn hf
  rw[Bool.and_eq_true]at h
  obtain⟨h1,h2⟩:=h
  split at h2
  ·rename_i c hc
   exact⟨fn,hf,by simpa using h1,c,hc,h2⟩
  ·cases h2
 ·cases h
end
section
theorem l04{An:O2}{P:Program}{Post:Value→World→Prop}{fr:Frame}{W:World}(hA:An.Holds W)
 (hB:Bes An P (fun g w=>g.status= .running∧∀d,∃v,stepG P true g (w.at d)= .ended (.done v) (w.at d) #[]∧(An.Holds (w.at d)→Post v (w.at d))) (G fr []) W):
 ∃M last o w' t',runNT P (M+1) (solo (G fr []) W) #[]=(.ended o w',t')∧runN P M (solo (G fr []) W)= .next last∧step P last= .ended o w'∧Go.Conc.Good P Post last o w' t':=by
 rw[solo_eq_crowd]
 obtain⟨N,gs',g',w',sl',T',q',B',hr,h0',⟨hrun,hS⟩,hL',hP',hA'⟩:=hB #[G fr []] none #[] (fun _=>0) 0 rfl (leavers_one _ _) past_nil hA
 obtain⟨K,last,o,w2,t',e1,e2,e3,e4⟩:=beside_ends (P:=P) (Post:=Post) (D:=fun _ _ es=>∀e∈es,EvL Y8 B' e) (sl:=sl') (n:=0) (fun _ _ _ h=>h) h0' hL' hP' (Goes.stop fun w₂ r₂=>by
  obtain⟨d,rfl⟩:=r₂
  obtain⟨v,h1,h2⟩:=hS d
  exact⟨hrun,v,#[],h1,by simp,h2 (hA'.at d)⟩)
 refine⟨N+K,last,o,w2,t',?_,?_,e3,e4⟩
 ·rw[Nat.add_assoc,runNT_add,hr];exact e1
 ·rw[runN_add,← runNT_fst P _ _ #[],hr];exact e2
theorem l02{W w':World}(h:(⟨W.heap.size,W⟩:O2).Holds w')(hc:∀(r:Nat) (c:Array Value) (e:TypeId) (z:Nat×Nat),W.heap[r]? =some (.cells c e z)→w'.heap[r]? =some (.cells c e z)):Below W.heap.size W w':=by
 refine⟨h.os,h.tape,h.output,h.low,fun r hr=>?_⟩
 obtain⟨o,ho⟩:∃o,W.heap[r]? =some o:=⟨_,Array.getElem?_eq_getElem hr⟩
 by_cases e:∃c e z,o= .cells c e z
 ·obtain⟨c,e,z,rfl⟩:=e
  rw[hc r c e z ho,ho]
 ·rw[h.obj r o hr ho fun c e1 z e2=>e ⟨c,e1,z,e2⟩,ho]
theorem n0u{f k:Nat}{fn:Func}{A:Array Value}(h2:¬2=f)(hf:Tryd.prog.funcs[f]? =some fn)(hr:fn.results= #[.tmp k]){v:Value}(hA:A.getD k undef=v)(w:World):
 stepG Tryd.prog true (G {(base f).at ⟨A,[]⟩ [.code .ret]with mode:=.returning} []) w= .ended (.done v) w #[]:=by
 subst hA
 simp[G,stepG,unwind,doReturn,results,Frame.at,base,hf,hr,seen,GStep.after,h2]
section
variable{An:O2}{W:World}
def f0t(W:World)(v:Value)(w':World):Prop:=v= .bool true∧∀(r:Nat) (c:Array Value) (e:TypeId) (z:Nat×Nat),W.heap[r]? =some (.cells c e z)→w'.heap[r]? =some (.cells c e z)
def i0U(An:O2)(Post:Value→World→Prop)(g:Goroutine)(w:World):Prop:=g.status= .running∧∀d,∃v,stepG Tryd.prog true g (w.at d)= .ended (.done v) (w.at d) #[]∧(An.Holds (w.at d)→Post v (w.at d))
theorem n0v{f k:Nat}{fn:Func}{A:Array Value}(hf:Tryd.prog.funcs[f]? =some fn)(hr:fn.results= #[.tmp k])(h2:¬2=f)(hA:A.getD k undef= .bool true){w:World}(h:∀(r:Nat) (c:Array Value) (e:TypeId) (z:Nat×Nat),W.heap[r]? =some (.cells c e z)→w.heap[r]? =some (.cells c e z)):
 i0U An (f0t W) (G {(base f).at ⟨A,[]⟩ [.code .ret]with mode:=.returning} []) w:=
 ⟨rfl,fun d=>⟨_,n0u h2 hf hr hA _,fun _=>⟨rfl,h⟩⟩⟩
end
theorem Tryd.own:ownKnob Tryd.prog.godebug=none:=by kernel_rfl
theorem Tryd.laidOut:laidOutB Tryd.prog=true:=by kernel_rfl
end
section
structure u0n(P:Program)(f:FuncId):Prop where
 e : ∃ fn, P.funcs[f]? = some fn ∧ (fn.name == "runtime.NumGoroutine") = false ∧ fn.body = none ∧ Extern.findNext fn = none ∧ ∃ x, Extern.find fn = some x ∧ p02 P true x
theorem a0B{P:Program}{l x:List Nat}(hx:∀f∈x,u0n P f)(h:l.all (fun f=>x.contains f || codeOkF P (fun f=>l.contains f) f)=true):v4 P (fun f=>l.contains f) true:=fun f hf=>by
 have h1:=List.all_eq_true.1 h f (List.contains_iff_mem.1 hf)
 rw[Bool.or_eq_true]at h1
 rcases h1 with h1|h1
 ·obtain⟨fn,a1,a2,a3,a4,y,a5,a6⟩:=(hx f (List.contains_iff_mem.1 h1)).e
  exact⟨fn,a1,a2,.inr ⟨a3,a4,y,a5,a6⟩⟩
 ·obtain⟨fn,a1,a2,c,a3,a4⟩:=i0p h1
  exact⟨fn,a1,a2,.inl ⟨c,a3,a4⟩⟩
theorem X8.mono{P:Program}{fn:Func}{args:Array Value}{w:World}{R R':Value→World→Prop}(h:X8 P fn args w R)(hr:∀v u,R v u→R' v u):X8 P fn args w R':=fun c hc=>by
 refine Code.wp_mono (fun e a u hq=>?_) (h c hc)
 cases e with
 | normal=>obtain⟨h1,v,h2,v',h3,h4⟩:=hq;exact⟨h1,v,h2,v',h3,hr _ _ h4⟩
 | ret=>obtain⟨h1,v,h2,v',h3,h4⟩:=hq;exact⟨h1,v,h2,v',h3,hr _ _ h4⟩
 | panic ch=>obtain⟨h1,v',h3,h4⟩:=hq;exact⟨h1,v',h3,hr _ _ h4⟩
 | outgrown=>obtain⟨v',h3,h4⟩:=hq;exact⟨v',h3,hr _ _ h4⟩
 | exit _=>exact hq
 | goto _=>exact hq
end
section
variable{An:O2}{w w' w0:World}
def b0m(w w':World):Prop:=w.heap.size≤w'.heap.size∧∀(r:Nat) (c:Array Value) (e:TypeId) (z:Nat×Nat),w.heap[r]? =some (.cells c e z)→w'.heap[r]? =some (.cells c e z)
theorem b0m.refl(w:World):b0m w w:=⟨Nat.le_refl _,fun _ _ _ _ h=>h⟩
theorem b0m.trans{a b c:World}(h1:b0m a b)(h2:b0m b c):b0m a c:=⟨Nat.le_trans h1.1 h2.1,fun r x e z h=>h2.2 r x e z (h1.2 r x e z h)⟩
theorem b0m.of(h1:w.heap.size≤w'.heap.size)(h2:∀r,r<w.heap.size→w'.heap[r]? =w.heap[r]?):b0m w w':=⟨h1,fun r c e z h=>(h2 r (D4 h)).trans h⟩
theorem e0d.keep(h:e0d w)(k:b0m w w'):e0d w':=by
 obtain⟨c,e,z,h1,h2⟩:=h
 exact⟨c,e,z,k.2 _ _ _ _ h1,h2⟩
theorem e0h{m:Pl}{ops:Nat→List I6}{n M:Nat}:∀(f:Nat) (s:GS m×List Nat),T7 n M (X5 ops n M f s)→∀e,f≤e→X5 ops n M e s=X5 ops n M f s:=by
 intro f
 induction f with
 | zero=>
   intro s h e _
   exact B6 h e
 | succ f ih=>
   intro s h e he
   by_cases hd:T7 n M s
   ·rw[B6 hd,B6 hd]
   ·obtain⟨e,rfl⟩:∃k,e=k+1:=⟨e - 1,by omega⟩
    simp only[X5,if_neg hd]at h ⊢
    exact ih _ h e (by omega)
theorem n0l{m:Pl}{ops:Nat→List I6}{n M:Nat}{S:List Int}{s:GS m}{f0:Nat}(hd:T7 n M (e09 ops n M S f0 s))(t:GS m×List Nat)(h:∃k,∀f,k≤f→e09 ops n M S f s=t):t=e09 ops n M S f0 s:=by
 obtain⟨k,hk⟩:=h
 rw[← hk (max k f0) (by omega)]
 exact e0h f0 _ hd _ (by omega)
theorem L1{X:World}{k:Nat}{c:Array Value}{e:TypeId}(h:X.heap[k]? =some (.cells c e (0,0))){j:Nat}{v:Value}(hv:c[j]? =some v):X.cell? ⟨k,j,none⟩=some v∧X.frozen? ⟨k,j,none⟩=false:=⟨by simp only[World.cell?,h];simpa using hv,by simp[World.frozen?,h]⟩
theorem u0w{u:World}{N:Nat→Prop}{b0 b1 bt bs:Nat}(n0:¬N b0)(n1:¬N b1)(ns:¬N bs){k1 a1 x1 y1 k2 a2 x2 y2:Int}{S:List Int}(h0:u.heap[b0]? =some (.cells #[vI k1,vI a1,vI x1,vI y1] 44 (0,0)))(h1:u.heap[b1]? =some (.cells #[vI k2,vI a2,vI x2,vI y2] 44 (0,0)))(ht:u.heap[bt]? =some (.cells #[vL b0 0 1 1,vL b1 0 1 1] 32 (0,0)))(hs:u.heap[bs]? =some (.cells (S.map fun i:Int=>Value.int .i64 i).toArray 3 (0,0)))(hl:S.length<100):
 Z8 u N 2 bt 0 2 (some ⟨bt,0,none⟩) (fun i=>some ⟨if i=0 then b0 else b1,0,none⟩) (fun _=>1) (fun _=>1) (fun i=>if i=0 then[⟨k1,a1,x1,y1⟩]else if i=1 then[⟨k2,a2,x2,y2⟩]else[]) S (some ⟨bs,0,none⟩):=by
 refine⟨rfl,fun _=>rfl,fun _=>(D4 ht),fun j hj=>?_,fun j hj=>?_,fun j hj k x hx=>?_,by omega,fun _=>⟨_,_,_,_,_,rfl,ns,hs,fun k v hv=>⟨by rw[Nat.zero_add];simpa using hv,by simp⟩⟩⟩
 ·have:j=0∨j=1:=by omega
  rcases this with rfl|rfl
  ·exact⟨(L1 ht rfl).1,(L1 (j:=0) ht rfl).2,Nat.le_refl _⟩
  ·exact⟨(L1 ht rfl).1,(L1 (j:=1) ht rfl).2,Nat.le_refl _⟩
 ·have:j=0∨j=1:=by omega
  rcases this with rfl|rfl<;>rfl
 ·have:j=0∨j=1:=by omega
  rcases this with rfl|rfl
  ·have hk:k=0:=by
    have:=(List.getElem?_eq_some_iff.1 hx).1
    simp at this
    omega
   subst hk
   obtain rfl:(⟨k1,a1,x1,y1⟩:I6)=x:=by simpa using hx
   exact⟨_,_,rfl,n0,(L1 h0 rfl).1,(L1 h0 rfl).1,(L1 h0 rfl).1,(L1 h0 rfl).1,(L1 (j:=0) h0 rfl).2,(L1 (j:=1) h0 rfl).2,(L1 (j:=2) h0 rfl).2,(L1 (j:=3) h0 rfl).2⟩
  ·have hk:k=0:=by
    have:=(List.getElem?_eq_some_iff.1 hx).1
    simp at this
    omega
   subst hk
   obtain rfl:(⟨k2,a2,x2,y2⟩:I6)=x:=by simpa using hx
   exact⟨_,_,rfl,n1,(L1 h1 rfl).1,(L1 h1 rfl).1,(L1 h1 rfl).1,(L1 h1 rfl).1,(L1 (j:=0) h1 rfl).2,(L1 (j:=1) h1 rfl).2,(L1 (j:=2) h1 rfl).2,(L1 (j:=3) h1 rfl).2⟩
theorem s0a{u:World}{vb:Nat}{vs:List Int}(h:u.heap[vb]? =some (.cells (vs.map fun i:Int=>Value.int .i64 i).toArray 2 (0,0))):a0R u (some ⟨vb,0,none⟩) vs:=fun i x hx=>⟨vb,0,rfl,by
 rw[Nat.zero_add]
 exact(L1 h (by simp[hx])).1⟩
structure AwT(u:World)(T:Nat):Prop where
 t:∃aa oa oc xa xc g0 p0 g1 p1,u.cell? ⟨T,0,none⟩=some (vL aa 0 2 2)∧u.cell? ⟨T,1,none⟩=some (.slice oa 6 oc)∧u.cell? ⟨T,2,none⟩=some (vL xa 0 2 xc)∧u.cell? ⟨T,3,none⟩=some (.bool false)∧u.cell? ⟨aa,0,none⟩=some (vL g0 0 1 p0)∧u.cell? ⟨aa,1,none⟩=some (vL g1 0 1 p1)∧u.cell? ⟨g0,1,none⟩=some (vI 0)∧u.cell? ⟨g1,1,none⟩=some (vI 1)∧u.cell? ⟨g1,0,none⟩=some (.bool true)∧u.cell? ⟨xa,1,none⟩=some (vI 1)
theorem AwT.heap{u u':World}{T:Nat}(h:AwT u T)(e:u'.heap=u.heap):AwT u' T:=by
 obtain⟨t⟩:=h
 refine⟨?_⟩
 simpa only[World.cell?,e]using t
theorem l0F{u:World}{ans:Nat→List SAn}{state:List Int}{order:List Nat}{aa:Nat}{rows:Nat→Value}{av:Nat→List SA}{ov sv:Value}(h:f0s w 2 ans state order aa rows av ov sv u){i:Nat}(hi:i<2){ok:Bool}{n1:Int}(ha:ans i=[(ok,n1,[])]):∃g p,rows i=vL g 0 1 p∧u.cell? ⟨g,0,none⟩=some (.bool ok)∧u.cell? ⟨g,1,none⟩=some (vI n1):=by
 obtain⟨r1,r2,r3,r4⟩:=h.row i hi
 rw[ha]at r1
 obtain⟨sa,hsa⟩:∃sa,av i=[sa]:=by
  cases hq:av i with
  | nil=>rw[hq]at r1;cases r1
  | cons x t=>
    cases t with
    | nil=>exact⟨x,rfl⟩
    | cons y t=>rw[hq]at r1;simp at r1
 rw[hsa]at r1 r3 r4
 have r1:sa.an=(ok,n1,[]):=by simpa using r1
 obtain⟨an,la,ll,lc⟩:=sa
 simp only at r1
 subst r1
 have r3:u.ownsRow 0 49 3 (rows i) (0+1) (SA.v ⟨(ok,n1,[]),la,ll,lc⟩).cells:=by simpa using r3
 obtain⟨g,cap,hg⟩:=l0e r3
 have hcells:(SA.v ⟨(ok,n1,[]),la,ll,lc⟩).cells=[.bool ok,vI n1,.slice la ll lc]:=rfl
 rw[hcells]at r3
 obtain⟨b,cp,e1,g0⟩:=G8 (k:=0) r3 rfl
 obtain⟨b2,cp2,e2,g2⟩:=G8 (k:=1) r3 rfl
 rw[hg]at e1 e2
 cases e1
 cases e2
 exact⟨g,cap,hg,g0.c,g2.c⟩
theorem s0b{u u':World}{ans:Nat→List SAn}{order:List Nat}{aa:Nat}{rows:Nat→Value}{av:Nat→List SA}{oa xa:Option Addr}{oc xc:Nat}(h:f0s w 2 ans [0,1] order aa rows av (.slice oa order.length oc) (.slice xa ([0,1]:List Int).length xc) u)(h0:ans 0=[(true,0,[])])(h1:ans 1=[(true,1,[])])(ho6:order.length=6)
 (hT:u'.heap=(u.alloc (.cells #[vL aa 0 2 2,.slice oa order.length oc,.slice xa ([0,1]:List Int).length xc,.bool false] 29)).heap):AwT u' u.heap.size:=by
 have hn:u'.heap[u.heap.size]? =some (.cells #[vL aa 0 2 2,.slice oa order.length oc,.slice xa ([0,1]:List Int).length xc,.bool false] 29 (0,0)):=by rw[hT];exact heap_alloc_new _ _
 have ho:∀r,r<u.heap.size→u'.heap[r]? =u.heap[r]?:=fun r hr=>by rw[hT];exact o0 _ _ hr
 have hc:∀{a:Addr} {v:Value},u.cell? a=some v→u'.cell? a=some v:=fun{a v} h=>by
  obtain⟨c,e,z,hb⟩:=X4 h
  rw[← h];unfold World.cell?;simp only[ho _ (D4 hb)]
 obtain⟨c,a1,a2,a3⟩:=h.arr
 obtain⟨g0,p0,e0,c00,c01⟩:=l0F h (i:=0) (by decide) h0
 obtain⟨g1,p1,e1,c10,c11⟩:=l0F h (i:=1) (by decide) h1
 obtain⟨bx,cx,ex,x1⟩:=G8 (k:=1) h.st rfl
 cases ex
 refine⟨aa,oa,oc,bx,xc,g0,p0,g1,p1,(L1 hn rfl).1,?_,(L1 hn rfl).1,(L1 hn rfl).1,hc ?_,hc ?_,hc c01,hc c11,hc c10,hc x1.c⟩
 ·rw[← ho6];exact(L1 hn rfl).1
 ·have:=a3 0 (by decide)
  rw[e0]at this
  exact(L1 a1 this).1
 ·have:=a3 1 (by decide)
  rw[e1]at this
  exact(L1 a1 this).1
theorem o0g{P:Program}{S:FuncId→Bool}(hC:v4 P S true)(hE:V5 P){c:Code}(hc:W3 P S true c=true){A:Array Value}{w:World}{R:Array Value→World→Prop}{b:Frame}{k:List Item}(hk:b.kind≠.early)
 (H:∀τ e,c.wp P (fun x a w=>x= .ret∧a.defers=[]∧R a.tmps w) ⟨A,[]⟩ (retape w τ e)) {cs:List Frame} {main:Bool} {Stop:Goroutine→World→Prop}
 (K:∀A' w' τ e t',R A' (retape w' τ e)→Gd F0 w w'→E0 P main F0 Stop (G {b.at ⟨A',[]⟩ (.code .ret::t')with mode:=.returning} cs) w'):E0 P main F0 Stop (G (b.at ⟨A,[]⟩ (.code c::k)) cs) w:=by
 refine t0j (Q:=fun x a w=>x= .ret∧a.defers=[]∧R a.tmps w) hC (fun _ _=>rfl) hE hc (k0q w) rfl (fun e a w hq=>.inr ⟨hq.1,hq.2.1⟩) (fun τ e=>?_) hk (fun a' w' τ e hq _ hg=>?_) (fun a' w' τ e t' hq _ hg=>?_)
 ·rw[u4 (fun _=>rfl)]
  exact H τ e
 ·exact absurd hq.1 (by simp)
 ·obtain⟨_,hd,h⟩:=hq
  rw[u4 (fun _=>rfl)]at h
  obtain⟨tm,df⟩:=a'
  simp only at hd
  subst hd
  exact K tm w' τ e t' h hg
theorem m0V:v4 Tryd.prog (fun f=>([]:List Nat).contains f) true:=a0B (x:=[]) (fun f h=>by cases h) (by kernel_rfl)
theorem o0Q{T:Nat}(h:AwT w T){A:Array Value}(hA:D0 81 A [(1,vP T 0)]):
 baws2.wp Tryd.prog (fun x a u=>x= .ret∧a.defers=[]∧(a.tmps.getD 0 undef= .bool true∧u.heap=w.heap)) ⟨A,[]⟩ w:=by
 obtain⟨s,rfl,h1,_⟩:=v3 o0T hA
 obtain⟨aa,oa,oc,xa,xc,g0,p0,g1,p1,c1,c2,c3,c4,c5,c6,c7,c8,c9,c10⟩:=h.t
 clear h
 simp only[baws2,v6,pC,Tryd.f7,Option.getD_some,o0T,h1,List.append_eq,List.append,List.cons_append,List.nil_append]
 clear h1
 go_wp2
theorem k0x(hg:e0d w){c:Frame}{cs:List Frame}{Stop:Goroutine→World→Prop}(K:∀w',b0m w w'→Bes An Tryd.prog Stop (G (c.finish (.bool true)) cs) w'):
 Bes An Tryd.prog Stop (G (Frame.enter Tryd.prog 7 #[] .normal) (c::cs)) w:=by
 refine W5 (F:=F0) (Stop:=fun a u=>∃A,A.size=81∧u.heap=(awW w).heap∧a=G (Frame.enter Tryd.prog 9 #[vL w.heap.size 0 1 1,vL (w.heap.size+3) 0 2 2,vL (w.heap.size+4) 0 6 6,vI 100] .normal) ((bA 7 A [.inRegion (oC e0x) [7,8,9],.code baws2])::c::cs))
  (y0a K1 (Nat.zero_le _) fun A hA=>.stop fun d=>⟨A,hA,rfl,rfl⟩) fun a u ⟨A,hA,hu,ha⟩=>?_
 subst ha
 have h00:0<w.heap.size:=by
  obtain⟨_,_,_,h,_⟩:=hg
  exact(D4 h)
 have k1:b0m w u:=by
  refine .of (by rw[hu];simp[awW];omega) fun r hr=>?_
  rw[hu]
  simp only[awW]
  rw[o0 _ _ (by simp;omega),o0 _ _ (by simp;omega),o0 _ _ (by simp;omega),o0 _ _ (by simp;omega),o0 _ _ hr]
 have hsz:∀(X:World) (k:Nat) (o:Obj),X.heap.size=k→(X.alloc o).heap[k]? =some o:=fun X k o e=>by rw[← e];exact heap_alloc_new _ _
 have b0:u.heap[w.heap.size]? =some (.cells (([2]:List Int).map fun i:Int=>Value.int .i64 i).toArray 2 (0,0)):=by
  rw[hu]
  simp only[awW]
  rw[o0 _ _ (by simp;try omega),o0 _ _ (by simp;try omega),o0 _ _ (by simp;try omega),o0 _ _ (by simp)]
  exact hsz _ _ _ (by simp)
 have b1:u.heap[w.heap.size+1]? =some (.cells #[vI 4,vI 0,vI 0,vI 0] 44 (0,0)):=by
  rw[hu]
  simp only[awW]
  rw[o0 _ _ (by simp;try omega),o0 _ _ (by simp;try omega),o0 _ _ (by simp;try omega)]
  exact hsz _ _ _ (by simp)
 have b2:u.heap[w.heap.size+2]? =some (.cells #[vI 4,vI 0,vI 0,vI 0] 44 (0,0)):=by
  rw[hu]
  simp only[awW]
  rw[o0 _ _ (by simp;try omega),o0 _ _ (by simp;try omega)]
  exact hsz _ _ _ (by simp)
 have b3:u.heap[w.heap.size+3]? =some (.cells #[vL (w.heap.size+1) 0 1 1,vL (w.heap.size+2) 0 1 1] 32 (0,0)):=by
  rw[hu]
  simp only[awW]
  rw[o0 _ _ (by simp;try omega)]
  exact hsz _ _ _ (by simp)
 have b4:u.heap[w.heap.size+4]? =some (.cells (([0,1,0,1,1,1]:List Int).map fun i:Int=>Value.int .i64 i).toArray 3 (0,0)):=by
  rw[hu]
  simp only[awW]
  exact hsz _ _ _ (by simp)
 clear hu
 refine k0y (va:=some ⟨w.heap.size,0,none⟩) (vs:=[2]) (S:=[0,1,0,1,1,1]) (s0a b0) (by decide) (by decide) (hg.keep k1) (u0w (by omega) (by omega) (by omega) b1 b2 b3 b4 (by decide)) (M:=100) rfl fun s order hd hk aa rows av oa' oc' xa xc u1 hP=>?_
 obtain⟨rfl,rfl⟩:s=awE.1∧order=awE.2:=by
  have:=n0l l0E (s,order) hk
  exact⟨congrArg Prod.fst this,congrArg Prod.snd this⟩
 have hl:decide (0<y5 awE.1.live 2)=false:=by decide +kernel
 rw[hl]
 rw[r09]at hP ⊢
 have t1:∀u',u'.heap=(u1.alloc (.cells #[vL aa 0 2 2,.slice oa' awE.2.length oc',.slice xa ([0,1]:List Int).length xc,.bool false] 29)).heap→AwT u' u1.heap.size:=fun u' e=>s0b hP r07 r08 (by rw[o0P];rfl) e
 have k2:b0m u u1:=⟨hP.size,hP.old⟩
 clear hk hd b0 b1 b2 b3 b4 hP
 refine W5 (F:=F0) (Stop:=fun a u2=>a=G (c.finish (.bool true)) cs∧u1.heap.size≤u2.heap.size∧∀r,r<u1.heap.size→u2.heap[r]? =u1.heap[r]?)
  (y0b K1 (Nat.zero_le _) hA fun A hA=>?_) fun a u2 ⟨ha,hs2,ho2⟩=>?_
 ·have q1:=t1 _ rfl
  have ho:∀r,r<u1.heap.size→(u1.alloc (.cells #[vL aa 0 2 2,.slice oa' awE.2.length oc',.slice xa ([0,1]:List Int).length xc,.bool false] 29)).heap[r]? =u1.heap[r]?:=fun r hr=>o0 _ _ hr
  have hz:(u1.alloc (.cells #[vL aa 0 2 2,.slice oa' awE.2.length oc',.slice xa ([0,1]:List Int).length xc,.bool false] 29)).heap.size=u1.heap.size+1:=by simp
  generalize u1.alloc (.cells #[vL aa 0 2 2,.slice oa' awE.2.length oc',.slice xa ([0,1]:List Int).length xc,.bool false] 29)=V at q1 ho hz ⊢
  refine o0g m0V Z7 (by kernel_rfl) (by decide) (R:=fun A u=>A.getD 0 undef= .bool true∧u.heap=V.heap) (fun τ e=>o0Q (w:=retape V τ e) (q1.heap rfl) hA) fun A2 w2 τ e t' hR hgd=>?_
  obtain⟨r1,r2⟩:=hR
  rw[Array.getD_eq_getD_getElem?]at r1
  have r2:w2.heap=V.heap:=r2
  refine i2 (fn:=Tryd.f7) (v:=.bool true) rfl rfl Tryd.func7 (fun d=>by simp[results,Tryd.f7,go_sem,r1]) (fun d e he=>by simp[results,Tryd.f7,go_sem,r1]at he) (.stop fun d=>⟨rfl,?_,fun r hr=>?_⟩)
  ·show _≤w2.heap.size
   rw[r2];omega
  ·show w2.heap[r]? =_
   rw[r2];exact ho r hr
 ·subst ha
  exact K u2 (k1.trans (k2.trans (.of hs2 ho2)))
end
section
variable{w w':World}
theorem p0U{aa ab:Option Addr}{ca cb:Nat}{xs:List Int}(hl:xs.length<100000000)(hA:T9 w aa (xs.map fun v=>vI v))(hB:T9 w ab (xs.map fun v=>vI v)):
 Calls Tryd.prog 26 #[.slice aa xs.length ca,.slice ab xs.length cb] w fun x w'=>x= .returned (.bool true)∧∃m,w'=w.drewN m:=by
 have E:Aside (T9 w aa (xs.map fun v=>vI v)∧T9 w ab (xs.map fun v=>vI v)):=⟨hA,hB⟩
 clear hA hB
 go_enter Tryd.func26,Tryd.ntmps26
 go_wp2
 go_loopg [5] xs.length (fun g i wr=>∃k:Nat,k≤xs.length∧i=vI k∧g=xs.length - k∧∃m,wr=w.drewN m)
 case atStart=>exact⟨0,Nat.zero_le _,rfl,rfl,0,rfl⟩
 case round=>
  obtain⟨k,hk,rfl,rfl,m0,hw⟩:=hrel
  have W:Aside (wr=w.drewN m0):=hw
  have hh:wr.heap=w.heap:=by rw[hw];rfl
  clear hw
  rcases Nat.lt_or_ge k xs.length with hlt|hge
  ·obtain⟨b1,o1,rfl,h1⟩:=(E.out.1.heap hh).c k (vI xs[k]) (by simp[hlt])
   obtain⟨b2,o2,rfl,h2⟩:=(E.out.2.heap hh).c k (vI xs[k]) (by simp[hlt])
   have hwr:IntKind.i64.wrap ((k:Int)+1)=(k:Int)+1:=IntWalk.i64_in _ (by omega)
   clear hh
   go_wp2
   go_quiet (fail)
   go_wp2
   go_roundg (xs.length - (k+1))
   case measure=>omega
   case rel=>exact⟨k+1,hlt,rfl,rfl,_,by rw[W.out,World.drewN_drewN]⟩
  ·have:k=xs.length:=by omega
   subst this
   clear hh
   go_wp2
   go_ret
   exact⟨rfl,m0,W.out⟩
def b0o(l:List SA):List Value:=(l.map fun a=>a.v.cells).flatten
theorem g0l(l:List SA):∀k a,l[k]? =some a→(b0o l)[k*3]? =some (.bool a.an.1)∧(b0o l)[k*3+1]? =some (vI a.an.2.1)∧(b0o l)[k*3+2]? =some (.slice a.la a.ll a.lc):=by
 induction l with
 | nil=>intro k a h;simp at h
 | cons x t ih=>
   intro k a h
   have e:b0o (x::t)= .bool x.an.1::vI x.an.2.1:: .slice x.la x.ll x.lc::b0o t:=rfl
   rw[e]
   cases k with
   | zero=>
     simp at h
     subst h
     exact⟨rfl,rfl,rfl⟩
   | succ k=>
     have h:t[k]? =some a:=by simpa using h
     obtain⟨h1,h2,h3⟩:=ih k a h
     rw[show(k+1)*3=k*3+3 by omega]
     exact⟨by simpa using h1,by simpa [show k*3+3+1=k*3+1+3 by omega]using h2,by simpa [show k*3+3+2=k*3+2+3 by omega]using h3⟩
structure SAL(a:SA)(w:World):Prop where
 l:a.ll=a.an.2.2.length
 r:T9 w a.la (a.an.2.2.map fun v=>vI v)
theorem SAL.heap{a:SA}(h:SAL a w)(e:w'.heap=w.heap):SAL a w':=⟨h.l,h.r.heap e⟩
theorem SAL.of{a:SA}(h:SAU a w):SAL a w:=by
 obtain⟨an,la,ll,lc⟩:=a
 have h1:w.ownsRow 0 2 1 (.slice la ll lc) an.2.2.length (an.2.2.map fun v=>vI v):=h
 have hl:ll=an.2.2.length:=by
  rcases h1.2 with⟨e,h5⟩|⟨_,_,_,e,_⟩
  ·cases e;exact h5.symm
  ·cases e;rfl
 subst hl
 exact⟨rfl,p0N h1⟩
theorem p0T{aa ab:Option Addr}{ca cb:Nat}{xs ys:List SA}(hl:xs.length<100000000)(he:xs.map SA.an=ys.map SA.an)(hA:T9 w aa (b0o xs))(hB:T9 w ab (b0o ys))(hx:∀a∈xs,SAL a w∧a.an.2.2.length<100000000)(hy:∀a∈ys,SAL a w):
 X8 Tryd.prog Tryd.f16 #[.slice aa xs.length ca,.slice ab xs.length cb] w fun x w'=>x= .bool true∧w'.heap=w.heap:=by
 have E:Aside (T9 w aa (b0o xs)∧T9 w ab (b0o ys)∧xs.map SA.an=ys.map SA.an∧(∀a∈xs,SAL a w∧a.an.2.2.length<100000000)∧∀a∈ys,SAL a w):=⟨hA,hB,he,hx,hy⟩
 clear hA hB he hx hy
 refine I2 rfl ?_
 simp only[Tryd.ntmps16,List.size_toArray,List.length_cons,List.length_nil,Nat.reduceAdd,Nat.reduceSub,Array.replicate_succ,Array.replicate_zero,List.push_toArray,List.append_toArray,List.nil_append,List.cons_append]
 go_wp2
 go_loopg [5] xs.length (fun g i wr=>∃k:Nat,k≤xs.length∧i=vI k∧g=xs.length - k∧wr.heap=w.heap)
 case atStart=>exact⟨0,Nat.zero_le _,rfl,rfl,rfl⟩
 case round=>
  obtain⟨k,hk,rfl,rfl,hw⟩:=hrel
  rcases Nat.lt_or_ge k xs.length with hlt|hge
  ·have hq:=congrArg (fun l=>l[k]?) E.out.2.2.1
   simp only[List.getElem?_map,List.getElem?_eq_getElem hlt,Option.map_some]at hq
   obtain⟨y,hyk,hya⟩:=Option.map_eq_some_iff.1 hq.symm
   obtain⟨g1,g2,g3⟩:=g0l xs k _ (List.getElem?_eq_getElem hlt)
   obtain⟨j1,j2,j3⟩:=g0l ys k _ hyk
   have hsx:=(E.out.2.2.2.1 _ (List.getElem_mem hlt))
   have hsy:=E.out.2.2.2.2 y (List.mem_of_getElem? hyk)
   rw[hya]at j1 j2
   obtain⟨sl1,sr1⟩:=hsx.1.heap hw
   obtain⟨sl2,sr2⟩:=hsy.heap hw
   have hlen:=hsx.2
   rw[hya]at sl2 sr2
   generalize xs[k]=x at g1 g2 g3 j1 j2 sl1 sr1 sl2 sr2 hlen
   obtain⟨⟨ok,n,l⟩,la,ll,lc⟩:=x
   obtain⟨an2,la2,ll2,lc2⟩:=y
   simp only at g1 g2 g3 j1 j2 j3 sl1 sr1 sl2 sr2 hlen
   subst sl1
   subst sl2
   obtain⟨b1,o1,rfl,f0⟩:=(E.out.1.heap hw).c (k*3) _ g1
   obtain⟨_,_,e1,f1⟩:=(E.out.1.heap hw).c (k*3+1) _ g2
   cases e1
   obtain⟨_,_,e1,f2⟩:=(E.out.1.heap hw).c (k*3+2) _ g3
   cases e1
   obtain⟨b2,o2,rfl,h0⟩:=(E.out.2.1.heap hw).c (k*3) _ j1
   obtain⟨_,_,e1,h1⟩:=(E.out.2.1.heap hw).c (k*3+1) _ j2
   cases e1
   obtain⟨_,_,e1,h2⟩:=(E.out.2.1.heap hw).c (k*3+2) _ j3
   cases e1
   rw[← Nat.add_assoc]at f1 f2 h1 h2
   have H:Aside (∀m,Calls Tryd.prog 26 #[.slice la l.length lc,.slice la2 l.length lc2] (wr.drewN m) fun x w''=>x= .returned (.bool true)∧∃m',w''=wr.drewN m'):=fun m=>(p0U (w:=wr.drewN m) hlen (sr1.heap rfl) (sr2.heap rfl)).mono (by
    rintro e u ⟨rfl,m',rfl⟩
    exact⟨rfl,_,World.drewN_drewN _ _ _⟩)
   have hwr:IntKind.i64.wrap ((k:Int)+1)=(k:Int)+1:=IntWalk.i64_in _ (by omega)
   have W:Aside (wr.heap=w.heap):=hw
   clear g1 g2 g3 j1 j2 j3 hw hq hyk hya hsx hsy sr1 sr2 hlen
   cases ok
   all_goals(
    go_wp2
    go_quiet ((go_at_call 26;exact H.out _))
    go_wp2
    go_roundg (xs.length - (k+1))
    case measure=>omega
    case rel=>exact⟨k+1,hlt,rfl,rfl,W.out⟩)
  ·have:k=xs.length:=by omega
   subst this
   go_wp2
   go_ret
   exact⟨_,rfl,rfl,hw⟩
theorem m0U:v4 Tryd.prog (fun f=>[16,26].contains f) true:=a0B (x:=[]) (fun f h=>by cases h) (by kernel_rfl)
theorem callable16:X0 16:=G1 Tryd.func16 rfl rfl
theorem i0F{aa ab:Option Addr}{ca cb:Nat}{xs ys:List SA}(hl:xs.length<100000000)(he:xs.map SA.an=ys.map SA.an)(hA:T9 w aa (b0o xs))(hB:T9 w ab (b0o ys))(hx:∀a∈xs,SAL a w∧a.an.2.2.length<100000000)(hy:∀a∈ys,SAL a w){c:Frame}{cs:List Frame}{main:Bool}{Stop:Goroutine→World→Prop}
 (K:∀w1,w1.heap=w.heap→E0 Tryd.prog main F0 Stop (G (c.finish (.bool true)) cs) w1):
 E0 Tryd.prog main F0 Stop (G (Frame.enter Tryd.prog 16 #[.slice aa xs.length ca,.slice ab xs.length cb] .normal) (c::cs)) w:=by
 refine b0P m0U Z7 Tryd.func16 rfl (by kernel_rfl) (R:=fun x w'=>x= .bool true∧w'.heap=w.heap) (fun τ e=>p0T (w:=retape w τ e) hl he (hA.heap rfl) (hB.heap rfl) (fun a ha=>⟨(hx a ha).1.heap rfl,(hx a ha).2⟩) (fun a ha=>(hy a ha).heap rfl)) fun v w' τ e hR hg=>?_
 obtain⟨rfl,h⟩:=hR
 exact K w' h
end
section
variable {cs:List Frame}{main:Bool}{Stop:Goroutine→World→Prop}
variable{F:Fz}{w:World}
def Z5(xv:Value)(w:World):Prop:=xv= .pointer none∨∃lb,xv=vP lb 0∧w.cell? ⟨lb,0,none⟩=some (vI 0)∧w.cell? ⟨lb,1,none⟩=some (.slice none 0 0)
theorem Z5.heap{w w':World}{xv:Value}(h:Z5 xv w)(e:∀r,r<w.heap.size→w'.heap[r]? =w.heap[r]?):Z5 xv w':=by
 rcases h with h|⟨lb,h,h1,h2⟩
 ·exact .inl h
 ·refine .inr ⟨lb,h,?_,?_⟩
  ·rw[← h1];unfold World.cell?;rw[e lb (O6 h1)]
  ·rw[← h2];unfold World.cell?;rw[e lb (O6 h1)]
theorem t09{lb:Nat}(c0:w.cell? ⟨lb,0,none⟩=some (vI 0)){c:Frame}
 (h:E0 Tryd.prog main F Stop (G (c.finish (vI 0)) cs) w):
 E0 Tryd.prog main F Stop (G (Frame.enter Tryd.prog 17 #[vP lb 0] .normal) (c::cs)) w:=by
 rw[b0K]
 walk_nrm
 refine ogW e0X g0G ?_
 simp only[e0X,i4,Tryd.f17,zz,Nat.reduceAdd]
 refine oT ?_
 refine ogE<|ogV j0y m0x<|ogW e0Y j0w ?_
 simp only[e0Y,i4,Tryd.f17,zz,Nat.reduceAdd]
 iterate 2 refine oT ?_
 refine ogE<|ogGn .skip<|ogK<|ogW j0x .ret ?_
 simp only[j0x,i4,Tryd.f17,zz,Nat.reduceAdd]
 iterate 3 refine oT ?_
 refine oL ?_
 refine oT ?_
 refine ogE<|ogX ?_
 refine G0 rfl (fun d=>stepG_leave (fn:=Tryd.f17) (v:=vI 0) rfl rfl Tryd.func17 (by simp[results,Tryd.f17]) (by simp[results,Tryd.f17,go_sem])) ?_
 exact h
theorem c0L{xv:Value}(hx:Z5 xv w){c:Frame}(h:E0 Tryd.prog main F Stop (G (c.finish (vI 0)) cs) w):E0 Tryd.prog main F Stop (G (Frame.enter Tryd.prog 17 #[xv] .normal) (c::cs)) w:=by
 rcases hx with rfl|⟨lb,rfl,h1,_⟩
 ·exact f06 h
 ·exact t09 h1 h
theorem m0Q{xv sv:Value}(hx:Z5 xv w){inn:Bool}{i:Int}(hi:i<0){c:Frame}
 (h:E0 Tryd.prog main F Stop (G (c.finish (.tuple #[.bool false,.int .i64 1])) cs) w):
 E0 Tryd.prog main F Stop (G (Frame.enter Tryd.prog 47 #[xv,sv,.int .i64 i,.bool inn] .normal) (c::cs)) w:=by
 have e0:decide (i<0)=true:=decide_eq_true hi
 rw[P7]
 walk_nrm
 refine ogSR z0l z0i ?_
 simp only[a0a,v1,Tryd.f47,zz,Nat.reduceAdd]
 iterate 2 (refine oW fun dd K hK=>?_;go_simp;refine qT hK ?_;clear hK K)
 refine ogE ?_
 refine z0f z0m ?_
 refine ogSR z0n z0j ?_
 simp only[a0b,v1,Tryd.f47,zz,Nat.reduceAdd]
 iterate 3 (refine oW fun dd K hK=>?_;go_simp;refine qT hK ?_;clear hK K)
 iterate 4 refine ogU rfl rfl ?_
 (refine oW fun dd K hK=>?_;go_simp;refine qT hK ?_;clear hK K)
 refine ogE ?_
 rw[z0h]
 refine ogT ?_
 simp only[if_true]
 refine ogSR z0o z0k ?_
 simp only[b03,v1,Tryd.f47,zz,Nat.reduceAdd]
 iterate 2 (refine oW fun dd K hK=>?_;go_simp;refine qT hK ?_;clear hK K)
 refine ogE ?_
 refine ogX ?_
 refine G0 rfl (fun d=>stepG_leave (fn:=Tryd.f47) (v:=.tuple #[.bool false,.int .i64 1]) rfl rfl Tryd.func47 (by simp[results,Tryd.f47]) (by simp[results,Tryd.f47,go_sem])) ?_
 exact h
theorem m0R{xv sv:Value}(hx:Z5 xv w){inn:Bool}{i:Int}(h0:¬i<0){c:Frame}
 (h:E0 Tryd.prog main F Stop (G (c.finish (.tuple #[.bool false,vI 1])) cs) w):
 E0 Tryd.prog main F Stop (G (Frame.enter Tryd.prog 47 #[xv,sv,vI i,.bool inn] .normal) (c::cs)) w:=by
 have e0:decide (i<0)=false:=decide_eq_false h0
 have e1:decide ((0:Int)≤i)=true:=decide_eq_true (by omega)
 have e2:(0:Int)≤i:=by omega
 rw[P7]
 walk_nrm
 refine ogW a0a c0Y ?_
 simp only[a0a,v1,Tryd.f47,zz,Nat.reduceAdd]
 iterate 2 refine oT ?_
 refine ogE<|ogV e0z e0A<|ogW a0b b0s ?_
 simp only[a0b,v1,Tryd.f47,zz,Nat.reduceAdd]
 iterate 5 refine oT ?_
 refine oc callable17 #[xv] ?_
 refine c0L hx ?_
 rw[Frame.finish_at]
 walk_nrm
 iterate 2 refine oT ?_
 refine ogE<|ogYn i01<|ogW b03 .ret ?_
 simp only[b03,v1,Tryd.f47,zz,Nat.reduceAdd]
 iterate 2 refine oT ?_
 refine ogE<|ogX ?_
 refine G0 rfl (fun d=>stepG_leave (fn:=Tryd.f47) (v:=.tuple #[.bool false,vI 1]) rfl rfl Tryd.func47 (by simp[results,Tryd.f47]) (by simp[results,Tryd.f47,go_sem])) ?_
 exact h
theorem p0k{xv sv:Value}(hx:Z5 xv w){i:Int}(hi:i<0){c:Frame}
 (h:E0 Tryd.prog main F Stop (G (c.finish (.tuple #[.bool false,.int .i64 1])) cs) w):
 E0 Tryd.prog main F Stop (G (Frame.enter Tryd.prog 20 #[xv,sv,.int .i64 i] .normal) (c::cs)) w:=by
 have e0:decide (i<0)=true:=decide_eq_true hi
 rw[Q7]
 walk_nrm
 refine ogSR z0t z0q ?_
 simp only[a0c,N2,Tryd.f20,zz,Nat.reduceAdd]
 iterate 2 (refine oW fun dd K hK=>?_;go_simp;refine qT hK ?_;clear hK K)
 refine ogE ?_
 refine z0f z0u ?_
 refine ogSR z0v z0r ?_
 simp only[a0d,N2,Tryd.f20,zz,Nat.reduceAdd]
 iterate 3 (refine oW fun dd K hK=>?_;go_simp;refine qT hK ?_;clear hK K)
 iterate 4 refine ogU rfl rfl ?_
 (refine oW fun dd K hK=>?_;go_simp;refine qT hK ?_;clear hK K)
 refine ogE ?_
 rw[z0p]
 refine ogT ?_
 simp only[if_true]
 refine ogSR z0w z0s ?_
 simp only[c0d,N2,Tryd.f20,zz,Nat.reduceAdd]
 iterate 2 (refine oW fun dd K hK=>?_;go_simp;refine qT hK ?_;clear hK K)
 refine ogE ?_
 refine ogX ?_
 refine G0 rfl (fun d=>stepG_leave (fn:=Tryd.f20) (v:=.tuple #[.bool false,.int .i64 1]) rfl rfl Tryd.func20 (by simp[results,Tryd.f20]) (by simp[results,Tryd.f20,go_sem])) ?_
 exact h
theorem p0l{xv sv:Value}(hx:Z5 xv w){i:Int}(h0:¬i<0){c:Frame}
 (h:E0 Tryd.prog main F Stop (G (c.finish (.tuple #[.bool false,vI 1])) cs) w):
 E0 Tryd.prog main F Stop (G (Frame.enter Tryd.prog 20 #[xv,sv,vI i] .normal) (c::cs)) w:=by
 have e0:decide (i<0)=false:=decide_eq_false h0
 have e1:decide ((0:Int)≤i)=true:=decide_eq_true (by omega)
 have e2:(0:Int)≤i:=by omega
 rw[Q7]
 walk_nrm
 refine ogW a0c d0a ?_
 simp only[a0c,N2,Tryd.f20,zz,Nat.reduceAdd]
 iterate 2 refine oT ?_
 refine ogE<|ogV e0L e0M<|ogW a0d b0C ?_
 simp only[a0d,N2,Tryd.f20,zz,Nat.reduceAdd]
 iterate 5 refine oT ?_
 refine oc callable17 #[xv] ?_
 refine c0L hx ?_
 rw[Frame.finish_at]
 walk_nrm
 iterate 2 refine oT ?_
 refine ogE<|ogYn j0d<|ogW c0d .ret ?_
 simp only[c0d,N2,Tryd.f20,zz,Nat.reduceAdd]
 iterate 2 refine oT ?_
 refine ogE<|ogX ?_
 refine G0 rfl (fun d=>stepG_leave (fn:=Tryd.f20) (v:=.tuple #[.bool false,vI 1]) rfl rfl Tryd.func20 (by simp[results,Tryd.f20]) (by simp[results,Tryd.f20,go_sem])) ?_
 exact h
theorem o05{lb:Nat}{sv:Value}(c1:w.cell? ⟨lb,1,none⟩=some (.slice none 0 0)){c:Frame}
 (h:E0 Tryd.prog main F Stop (G (c.finish (.tuple #[vI 0,vI 3])) cs) w):
 E0 Tryd.prog main F Stop (G (Frame.enter Tryd.prog 45 #[vP lb 0,sv] .normal) (c::cs)) w:=by
 rw[P9]
 walk_nrm
 refine ogW b07 e0E ?_
 simp only[b07,O0,Tryd.f45,zz,Nat.reduceAdd]
 iterate 2 refine oT ?_
 refine ogE<|ogV g0s e0F<|ogW b08 c02 ?_
 simp only[b08,O0,Tryd.f45,zz,Nat.reduceAdd]
 iterate 2 refine oT ?_
 refine ogE<|ogGn .skip<|ogK<|ogV i05 v5<|ogW e0B g0q ?_
 simp only[e0B,O0,Tryd.f45,zz,Nat.reduceAdd]
 refine oT ?_
 refine ogE ?_
 rw[h0R]
 refine K5 ?_
 rw[h0U]
 refine ogP<|ogV c04 b06<|ogW P8 b0u ?_
 simp only[P8,O0,Tryd.f45,zz,Nat.reduceAdd]
 iterate 4 refine oT ?_
 refine oL ?_
 iterate 2 refine oT ?_
 refine ogE<|ogGn (.exit 0) ?_
 refine G0 rfl (fun d=>stepG_exit rfl) ?_
 refine ogW b0w .ret ?_
 simp only[b0w,O0,Tryd.f45,zz,Nat.reduceAdd]
 iterate 2 refine oT ?_
 refine ogE<|ogX ?_
 refine G0 rfl (fun d=>stepG_leave (fn:=Tryd.f45) (v:=.tuple #[vI 0,vI 3]) rfl rfl Tryd.func45 (by simp[results,Tryd.f45]) (by simp[results,Tryd.f45,go_sem])) ?_
 exact h
theorem j0U{xv sv:Value}(hx:Z5 xv w){c:Frame}
 (h:E0 Tryd.prog main F Stop (G (c.finish (.slice none 0 0)) cs) w):
 E0 Tryd.prog main F Stop (G (Frame.enter Tryd.prog 30 #[xv,sv] .normal) (c::cs)) w:=by
 rw[b0J]
 walk_nrm
 refine ogW e0N j0l ?_
 simp only[e0N,i1,Tryd.f30,zz,Nat.reduceAdd]
 refine oT ?_
 refine ogE<|ogW e0O g0w ?_
 simp only[e0O,i1,Tryd.f30,zz,Nat.reduceAdd]
 refine oT ?_
 refine ogE<|ogV j0m U4<|ogW e0P g0v ?_
 simp only[e0P,i1,Tryd.f30,zz,Nat.reduceAdd]
 refine oT ?_
 refine oc callable17 #[xv] ?_
 refine c0L hx ?_
 rw[Frame.finish_at]
 walk_nrm
 iterate 3 refine oT ?_
 refine ogE ?_
 rw[h05]
 refine K5 ?_
 rw[h07]
 refine ogP<|ogW a0e d0c ?_
 simp only[a0e,i1,Tryd.f30,zz,Nat.reduceAdd]
 refine oT ?_
 refine ogE<|ogV d0b e0Q<|ogGn (.exit 0) ?_
 refine G0 rfl (fun d=>stepG_exit rfl) ?_
 refine ogW b0D .ret ?_
 simp only[b0D,i1,Tryd.f30,zz,Nat.reduceAdd]
 iterate 2 refine oT ?_
 refine ogE<|ogX ?_
 refine G0 rfl (fun d=>stepG_leave (fn:=Tryd.f30) (v:=.slice none 0 0) rfl rfl Tryd.func30 (by simp[results,Tryd.f30]) (by simp[results,Tryd.f30,go_sem])) ?_
 exact h
theorem t06{xv sv:Value}(hx:Z5 xv w){i:Int}{c:Frame}(h:E0 Tryd.prog main F Stop (G (c.finish (.tuple #[.bool false,vI 1])) cs) w):E0 Tryd.prog main F Stop (G (Frame.enter Tryd.prog 18 #[xv,sv,vI i] .normal) (c::cs)) w:=by
 refine o0m fun A hA=>?_
 by_cases h0:i<0
 ·exact m0Q hx h0 (c0w hA h)
 ·exact m0R hx h0 (c0w hA h)
theorem p0d{xv sv:Value}(hx:Z5 xv w){i:Int}{c:Frame}(h:E0 Tryd.prog main F Stop (G (c.finish (.tuple #[.bool false,vI 1])) cs) w):E0 Tryd.prog main F Stop (G (Frame.enter Tryd.prog 19 #[xv,sv,vI i] .normal) (c::cs)) w:=by
 refine m06 fun A hA=>?_
 by_cases h0:i<0
 ·exact m0Q hx h0 (b0I hA h)
 ·exact m0R hx h0 (b0I hA h)
theorem s09{xv sv:Value}(hx:Z5 xv w){i:Int}{c:Frame}(h:E0 Tryd.prog main F Stop (G (c.finish (.tuple #[.bool false,vI 1])) cs) w):E0 Tryd.prog main F Stop (G (Frame.enter Tryd.prog 20 #[xv,sv,vI i] .normal) (c::cs)) w:=by
 by_cases h0:i<0
 ·exact p0k hx h0 h
 ·exact p0l hx h0 h
theorem m0T{xv sv:Value}(hx:Z5 xv w){c:Frame}(h:E0 Tryd.prog main F Stop (G (c.finish (.tuple #[vI 0,vI 3])) cs) w):E0 Tryd.prog main F Stop (G (Frame.enter Tryd.prog 45 #[xv,sv] .normal) (c::cs)) w:=by
 rcases hx with rfl|⟨lb,rfl,_,h2⟩
 ·exact e0n h
 ·exact o05 h2 h
theorem m0Y{xv sv:Value}(hx:Z5 xv w){c:Frame}(h:E0 Tryd.prog main F Stop (G (c.finish (vI (0:Nat))) cs) w):E0 Tryd.prog main F Stop (G (Frame.enter Tryd.prog 46 #[xv,sv] .normal) (c::cs)) w:=by
 exact j0I fun A hA=>j0U hx (f0M hA h)
end
noncomputable section
variable {cs:List Frame}{main:Bool}{Stop:Goroutine→World→Prop}
variable{F:Fz}{w:World}
theorem l0C(X:World)(x y z x' y' z':Value):(((X.alloc (.cells #[x,y,z] 49)).setCell ⟨X.heap.size,0,none⟩ x').setCell ⟨X.heap.size,1,none⟩ y').setCell ⟨X.heap.size,2,none⟩ z'=X.alloc (.cells #[x',y',z'] 49):=by go_simp
def K9:Code:=Tryd.f44.body.getD .skip
def u0P:=pC [] K9
def q0q:=pC [zt] K9
def u0Q:=pC [zf] K9
def q0r:=pC [zf,zt] K9
theorem k0N(args:Array Value):Frame.enter Tryd.prog 44 args .normal=(Go.Conc.base 44).at {tmps:=args++Array.replicate (6 - args.size) undef,defers:=[]} [.code u0P]:=enter_at args Tryd.func44 rfl
theorem a0y:X0 44:=G1 Tryd.func44 rfl rfl
theorem b0Q{v:Int}{c:Frame}
 (h:E0 Tryd.prog main F Stop (G (c.finish (vI (if(1073741824:Int)<(if v< -1 then -1 else v)then 1073741824 else(if v< -1 then -1 else v)))) cs) w):
 E0 Tryd.prog main F Stop (G (Frame.enter Tryd.prog 44 #[vI v] .normal) (c::cs)) w:=by
 rw[k0N]
 walk_nrm
 refine ogW q0q u0Q ?_
 simp only[q0q,K9,Tryd.f44,zz,Nat.reduceAdd]
 refine oT ?_
 refine ogE<|ogW q0r .ret ?_
 simp only[q0r,K9,Tryd.f44,zz,Nat.reduceAdd]
 iterate 4 refine oT ?_
 refine ogE<|ogX ?_
 refine G0 rfl (fun d=>stepG_leave (fn:=Tryd.f44) (v:=vI (if(1073741824:Int)<(if v< -1 then -1 else v)then 1073741824 else(if v< -1 then -1 else v))) rfl rfl Tryd.func44 (by simp[results,Tryd.f44]) (by simp[results,Tryd.f44,go_sem])) ?_
 exact h
def s7:Code:=Tryd.f43.body.getD .skip
def v0h:=pC [] s7
def q0T:=pC [zt] s7
def m0y:=pC [zf] s7
def q0W:=pC [zt] m0y
def q0U:=pC [zf,zt,zt] s7
def q0S:=pC [zf] q0W
def v0i:=pC [zt] q0S
def q0V:=pC [zf,zt,zf,zt,zt] s7
def v0j:=pC [zf] m0y
theorem k0S(args:Array Value):Frame.enter Tryd.prog 43 args .normal=(Go.Conc.base 43).at {tmps:=args++Array.replicate (11 - args.size) undef,defers:=[]} [.code v0h]:=enter_at args Tryd.func43 rfl
theorem a0x:X0 43:=G1 Tryd.func43 rfl rfl
theorem i0S{nn:Nat}(hU:Q1 F nn)(hn:nn≤w.heap.size){b:Bool}{c:Frame}
 (h:E0 Tryd.prog main F Stop (G (c.finish (.agg #[.bool false,vI 0,.slice none 0 0])) cs) (w.alloc (.cells #[.bool false,vI 0,.slice none 0 0] 49))):
 E0 Tryd.prog main F Stop (G (Frame.enter Tryd.prog 43 #[.bool b,vI 1] .normal) (c::cs)) w:=by
 rw[k0S]
 walk_nrm
 refine ogW q0T m0y ?_
 simp only[q0T,s7,Tryd.f43,zz,Nat.reduceAdd]
 refine oA hU ?_
 refine ogE<|ogV q0W v0j<|ogW q0U q0S ?_
 simp only[q0U,s7,Tryd.f43,zz,Nat.reduceAdd]
 iterate 2 refine oT ?_
 refine ogE<|ogYn v0i<|ogW q0V .ret ?_
 simp only[q0V,s7,Tryd.f43,zz,Nat.reduceAdd]
 refine oT ?_
 (refine oW fun dd K hK=>?_;go_simp;refine hK _ _ ⟨⟨⟨0,I5 (fun k=>P2 hU (show nn≤w.heap.size by omega)) _ _ _⟩,fun e he=>by(have hm:=mem_listed he;clear he hK;simp[go_sem,storedEv]at hm;rcases hm with rfl|rfl|rfl<;>exact V0 _ _ ((fun k=>P2 hU (show nn≤w.heap.size by omega)) _))⟩,?_⟩;clear hK K;simp only[setCell_at'];refine E0.at ?_ dd)
 have e1:=l0C w (.bool false) (vI 0) (.slice none 0 0) (.bool false) (vI 0) (.slice none 0 0)
 rw[e1]
 clear e1
 refine ogE<|ogX ?_
 refine i2 (fn:=Tryd.f43) (v:=.agg #[.bool false,vI 0,.slice none 0 0]) rfl rfl Tryd.func43 (fun d=>by simp[results,Tryd.f43,go_sem]) (fun d e he=>by(simp[results,Tryd.f43,go_sem]at he;rcases he with rfl|rfl|rfl<;>exact M0 _ _)) ?_
 exact h
def I0:Code:=Tryd.f15.body.getD .skip
def u0z:=pC [] I0
def X6:=pC [zt] I0
def a0W:=pC [zf] I0
def b02:=pC [zt] a0W
def Y6:=pC [zf,zt,zt] I0
def a0V:=pC [zf] b02
def q0d:=pC [zt] a0V
def Z6:=pC [zf,zt,zf,zt,zt] I0
def g8:=pC [zf] q0d
def u0A:=pC [zt] g8
def e9:=pC [zf,zt,zf,zt,zf,zt,zt] I0
def c0X:=pC [zf] g8
def N8:=pC [zf,zt,zf,zt,zf,zf,zt] I0
def d9:=pC [zf] c0X
def u0B:=pC [zt] d9
def g9:=pC [zf,zt,zf,zt,zf,zf,zf,zt,zt] I0
def e0y:=pC [zf] d9
def Z9:=pC [zf,zt,zf,zt,zf,zf,zf,zf,zt] I0
def a0r:=pC [zf] e0y
def u0C:=pC [zt] a0r
def i9:=pC [zf,zt,zf,zt,zf,zf,zf,zf,zf,zt,zt] I0
def g0p:=pC [zf] a0r
def b01:=pC [zf,zt,zf,zt,zf,zf,zf,zf,zf,zf,zt] I0
def b0q:=pC [zf] g0p
def l0M:=pC [zt] b0q
def g0o:=pC [zf,zt,zf,zt,zf,zf,zf,zf,zf,zf,zf,zt,zt] I0
def h0K:=pC [zf] l0M
def l0H:=pC [zf,zt,zf,zt,zf,zf,zf,zf,zf,zf,zf,zt,zf,zt] I0
def f0z:=pC [zf] b0q
def b0r:=pC [zf,zt,zf,zt,zf,zf,zf,zf,zf,zf,zf,zf,zt] I0
def c0R:=pC [zf] f0z
def s0j:=pC [zt] c0R
def c0S:=pC [zf,zt,zf,zt,zf,zf,zf,zf,zf,zf,zf,zf,zf,zt,zt] I0
def h0L:=pC [zf] c0R
def f0y:=pC [zf,zt,zf,zt,zf,zf,zf,zf,zf,zf,zf,zf,zf,zf,zt] I0
def h0H:=pC [zf] h0L
def l0N:=pC [zt] h0H
def l0I:=pC [zf,zt,zf,zt,zf,zf,zf,zf,zf,zf,zf,zf,zf,zf,zf,zt,zt] I0
def l0O:=pC [zf] l0N
def c0T:=pC [zf,zt,zf,zt,zf,zf,zf,zf,zf,zf,zf,zf,zf,zf,zf,zt,zf,zt] I0
def c0V:=pC [zf] l0O
def l0P:=pC [zt] c0V
def l0J:=pC [zf,zt,zf,zt,zf,zf,zf,zf,zf,zf,zf,zf,zf,zf,zf,zt,zf,zf,zt,zt] I0
def l0G:=pC [zf] l0P
def h0J:=pC [zt] l0G
def c0W:=pC [zt] h0J
def l0Q:=pC [zt] c0W
def c0U:=pC [zf,zt,zf,zt,zf,zf,zf,zf,zf,zf,zf,zf,zf,zf,zf,zt,zf,zf,zt,zf,zt,zt,zt,zt] I0
def h0I:=pC [zf] l0Q
def h0M:=pC [zf] c0W
def h0N:=pC [zf] c0V
def l0K:=pC [zf,zt,zf,zt,zf,zf,zf,zf,zf,zf,zf,zf,zf,zf,zf,zt,zf,zf,zf,zt] I0
def G2:=pC [zf] a0W
def l0L:=pC [zf,zf,zt] I0
theorem a0q:a0V= .block 0 q0d:=by kernel_rfl
theorem s0i:l0G= .block 1 h0J:=by kernel_rfl
theorem o0V:h0J= .loop c0W:=by kernel_rfl
theorem Q5(args:Array Value):Frame.enter Tryd.prog 15 args .normal=(Go.Conc.base 15).at {tmps:=args++Array.replicate (95 - args.size) undef,defers:=[]} [.code u0z]:=enter_at args Tryd.func15 rfl
theorem callable15:X0 15:=G1 Tryd.func15 rfl rfl
def N5(s:Nat→Value):Array Value:= #[s 0,s 1,s 2,s 3,s 4,s 5,s 6,s 7,s 8,s 9,s 10,s 11,s 12,s 13,s 14,s 15,s 16,s 17,s 18,s 19,s 20,s 21,s 22,s 23,s 24,s 25,s 26,s 27,s 28,s 29,s 30,s 31,s 32,s 33,s 34,s 35,s 36,s 37,s 38,s 39,s 40,s 41,s 42,s 43,s 44,s 45,s 46,s 47,s 48,s 49,s 50,s 51,s 52,s 53,s 54,s 55,s 56,s 57,s 58,s 59,s 60,s 61,s 62,s 63,s 64,s 65,s 66,s 67,s 68,s 69,s 70,s 71,s 72,s 73,s 74,s 75,s 76,s 77,s 78,s 79,s 80,s 81,s 82,s 83,s 84,s 85,s 86,s 87,s 88,s 89,s 90,s 91,s 92,s 93,s 94]
theorem x0L{A:Array Value}(h:A.size=95):∃s,A=N5 s:=by
 obtain⟨s,hs,_⟩:=F3 A h
 exact⟨s,hs⟩
theorem v0t{nn:Nat}(hU:Q1 F nn)(hn:nn≤w.heap.size){xv:Value}{sb:Nat}{a b c0:Int}
 (h:∀A,D0 95 A [(6,vP (w.heap.size+1) 0),(16,xv),(18,.iface 40 (vP sb 0))]→E0 Tryd.prog main F Stop (G (Frame.enter Tryd.prog 44 #[vI a] .normal) ((bA 15 A [.inRegion (oC e9) [5,6,7,8,9,10],.code .ret,.inBlock 0,.code G2])::cs)) ((w.alloc (.cells #[vI 1,vI a,vI b,vI c0] 44)).alloc (.cells #[.bool false,vI 0,.slice none 0 0] 49))):
 E0 Tryd.prog main F Stop (G (Frame.enter Tryd.prog 15 #[xv,vP sb 0,.agg #[vI 1,vI a,vI b,vI c0]] .normal) cs) w:=by
 rw[Q5]
 walk_nrm
 refine ogW X6 a0W ?_
 simp only[X6,I0,Tryd.f15,zz,Nat.reduceAdd]
 iterate 2 refine oA hU ?_
 refine ogE<|ogV b02 G2<|ogW Y6 a0V ?_
 simp only[Y6,I0,Tryd.f15,zz,Nat.reduceAdd]
 refine oT ?_
 refine oL ?_
 refine ogE ?_
 rw[a0q]
 refine K5<|ogW Z6 g8 ?_
 simp only[Z6,I0,Tryd.f15,zz,Nat.reduceAdd]
 iterate 2 refine oT ?_
 refine ogE<|ogYn u0A<|ogW e9 .ret ?_
 simp only[e9,I0,Tryd.f15,zz,Nat.reduceAdd]
 iterate 4 refine oT ?_
 refine oL ?_
 refine oc a0y #[vI a] ?_
 refine h _ ?_
 exact⟨rfl,rfl,rfl,rfl,trivial⟩
theorem v0z{ab:Nat}{xv:Value}{sb:Nat}{v:Int}{A:Array Value}(hA:D0 95 A [(6,vP ab 0),(16,xv),(18,.iface 40 (vP sb 0))])
 (h:∀A,D0 95 A [(6,vP ab 0)]→E0 Tryd.prog main F Stop (G (Frame.enter Tryd.prog 18 #[xv,.iface 40 (vP sb 0),vI v] .normal) ((bA 15 A [.inRegion (oC e9) [6,7,8,9,10],.code .ret,.inBlock 0,.code G2])::cs)) w):
 E0 Tryd.prog main F Stop (G ((bA 15 A [.inRegion (oC e9) [5,6,7,8,9,10],.code .ret,.inBlock 0,.code G2]).finish (vI v)) cs) w:=by
 obtain⟨s,rfl,h6,h16,h18,_⟩:=v3 N5 hA
 simp only[N5,h6,h16,h18]
 clear h6 h16 h18
 rw[Frame.finish_at]
 simp only[e9,I0,Tryd.f15,zz,Nat.reduceAdd]
 walk_nrm
 refine oc a0w #[xv,.iface 40 (vP sb 0),vI v] ?_
 refine h _ ?_
 exact⟨rfl,rfl,trivial⟩
theorem v0E{ab:Nat}{bv:Bool}{ev:Int}{A:Array Value}(hA:D0 95 A [(6,vP ab 0)])
 (h:∀A,D0 95 A [(6,vP ab 0)]→E0 Tryd.prog main F Stop (G (Frame.enter Tryd.prog 43 #[.bool bv,vI ev] .normal) ((bA 15 A [.inRegion (oC e9) [9,10],.code .ret,.inBlock 0,.code G2])::cs)) w):
 E0 Tryd.prog main F Stop (G ((bA 15 A [.inRegion (oC e9) [6,7,8,9,10],.code .ret,.inBlock 0,.code G2]).finish (.tuple #[.bool bv,vI ev])) cs) w:=by
 obtain⟨s,rfl,h6,_⟩:=v3 N5 hA
 simp only[N5,h6]
 clear h6
 rw[Frame.finish_at]
 simp only[e9,I0,Tryd.f15,zz,Nat.reduceAdd]
 walk_nrm
 iterate 2 refine oT ?_
 refine oc a0x #[.bool bv,vI ev] ?_
 refine h _ ?_
 exact⟨rfl,rfl,trivial⟩
theorem v0H{ab:Nat}(ha:C9 w ab)(hnh:∀k,¬P1 F ⟨ab,k,none⟩){ok:Bool}{v:Int}{A:Array Value}(hA:D0 95 A [(6,vP ab 0)]){c:Frame}
 (h:E0 Tryd.prog main F Stop (G (c.finish (.agg #[.bool ok,vI v,.slice none 0 0])) cs) (d8 w ab ok v)):
 E0 Tryd.prog main F Stop (G ((bA 15 A [.inRegion (oC e9) [9,10],.code .ret,.inBlock 0,.code G2]).finish (.agg #[.bool ok,vI v,.slice none 0 0])) (c::cs)) w:=by
 obtain⟨s,rfl,h6,_⟩:=v3 N5 hA
 simp only[N5,h6]
 clear h6
 obtain⟨x0,x1,x2,c0x,c1x,c2x⟩:=ha.c
 have z0:=ha.z 0
 have z1:=ha.z 1
 have z2:=ha.z 2
 rw[Frame.finish_at]
 simp only[e9,I0,Tryd.f15,zz,Nat.reduceAdd]
 walk_nrm
 (refine oW fun dd K hK=>?_;go_simp;refine hK _ _ ⟨⟨⟨0,I5 hnh _ _ _⟩,fun e he=>by(have hm:=mem_listed he;clear he hK;simp[go_sem,storedEv,c0x,c1x,c2x,z0,z1,z2]at hm;rcases hm with rfl|rfl|rfl<;>exact V0 _ _ (hnh _))⟩,?_⟩;clear hK K;simp only[setCell_at'];refine E0.at ?_ dd)
 refine ogE<|ogX ?_
 refine i2 (fn:=Tryd.f15) (v:=.agg #[.bool ok,vI v,.slice none 0 0]) rfl rfl Tryd.func15 (fun d=>by simp[results,Tryd.f15,go_sem,c0x,c1x,c2x,z0,z1,z2]) (fun d e he=>by(simp[results,Tryd.f15,go_sem,c0x,c1x,c2x,z0,z1,z2]at he;rcases he with rfl|rfl|rfl<;>exact M0 _ _)) ?_
 exact h
theorem v0u{nn:Nat}(hU:Q1 F nn)(hn:nn≤w.heap.size){xv:Value}{sb:Nat}{a b c0:Int}
 (h:∀A,D0 95 A [(6,vP (w.heap.size+1) 0),(28,xv),(30,.iface 40 (vP sb 0))]→E0 Tryd.prog main F Stop (G (Frame.enter Tryd.prog 44 #[vI a] .normal) ((bA 15 A [.inRegion (oC g9) [5,6,7,8,9,10],.code .ret,.inBlock 0,.code G2])::cs)) ((w.alloc (.cells #[vI 2,vI a,vI b,vI c0] 44)).alloc (.cells #[.bool false,vI 0,.slice none 0 0] 49))):
 E0 Tryd.prog main F Stop (G (Frame.enter Tryd.prog 15 #[xv,vP sb 0,.agg #[vI 2,vI a,vI b,vI c0]] .normal) cs) w:=by
 rw[Q5]
 walk_nrm
 refine ogW X6 a0W ?_
 simp only[X6,I0,Tryd.f15,zz,Nat.reduceAdd]
 iterate 2 refine oA hU ?_
 refine ogE<|ogV b02 G2<|ogW Y6 a0V ?_
 simp only[Y6,I0,Tryd.f15,zz,Nat.reduceAdd]
 refine oT ?_
 refine oL ?_
 refine ogE ?_
 rw[a0q]
 refine K5<|ogW Z6 g8 ?_
 simp only[Z6,I0,Tryd.f15,zz,Nat.reduceAdd]
 iterate 2 refine oT ?_
 refine ogE<|ogGn c0X<|ogW N8 d9 ?_
 simp only[N8,I0,Tryd.f15,zz,Nat.reduceAdd]
 iterate 2 refine oT ?_
 refine ogE<|ogYn u0B<|ogW g9 .ret ?_
 simp only[g9,I0,Tryd.f15,zz,Nat.reduceAdd]
 iterate 4 refine oT ?_
 refine oL ?_
 refine oc a0y #[vI a] ?_
 refine h _ ?_
 exact⟨rfl,rfl,rfl,rfl,trivial⟩
theorem v0A{ab:Nat}{xv:Value}{sb:Nat}{v:Int}{A:Array Value}(hA:D0 95 A [(6,vP ab 0),(28,xv),(30,.iface 40 (vP sb 0))])
 (h:∀A,D0 95 A [(6,vP ab 0)]→E0 Tryd.prog main F Stop (G (Frame.enter Tryd.prog 19 #[xv,.iface 40 (vP sb 0),vI v] .normal) ((bA 15 A [.inRegion (oC g9) [6,7,8,9,10],.code .ret,.inBlock 0,.code G2])::cs)) w):
 E0 Tryd.prog main F Stop (G ((bA 15 A [.inRegion (oC g9) [5,6,7,8,9,10],.code .ret,.inBlock 0,.code G2]).finish (vI v)) cs) w:=by
 obtain⟨s,rfl,h6,h28,h30,_⟩:=v3 N5 hA
 simp only[N5,h6,h28,h30]
 clear h6 h28 h30
 rw[Frame.finish_at]
 simp only[g9,I0,Tryd.f15,zz,Nat.reduceAdd]
 walk_nrm
 refine oc d0j #[xv,.iface 40 (vP sb 0),vI v] ?_
 refine h _ ?_
 exact⟨rfl,rfl,trivial⟩
theorem v0F{ab:Nat}{bv:Bool}{ev:Int}{A:Array Value}(hA:D0 95 A [(6,vP ab 0)])
 (h:∀A,D0 95 A [(6,vP ab 0)]→E0 Tryd.prog main F Stop (G (Frame.enter Tryd.prog 43 #[.bool bv,vI ev] .normal) ((bA 15 A [.inRegion (oC g9) [9,10],.code .ret,.inBlock 0,.code G2])::cs)) w):
 E0 Tryd.prog main F Stop (G ((bA 15 A [.inRegion (oC g9) [6,7,8,9,10],.code .ret,.inBlock 0,.code G2]).finish (.tuple #[.bool bv,vI ev])) cs) w:=by
 obtain⟨s,rfl,h6,_⟩:=v3 N5 hA
 simp only[N5,h6]
 clear h6
 rw[Frame.finish_at]
 simp only[g9,I0,Tryd.f15,zz,Nat.reduceAdd]
 walk_nrm
 iterate 2 refine oT ?_
 refine oc a0x #[.bool bv,vI ev] ?_
 refine h _ ?_
 exact⟨rfl,rfl,trivial⟩
theorem v0I{ab:Nat}(ha:C9 w ab)(hnh:∀k,¬P1 F ⟨ab,k,none⟩){ok:Bool}{v:Int}{A:Array Value}(hA:D0 95 A [(6,vP ab 0)]){c:Frame}
 (h:E0 Tryd.prog main F Stop (G (c.finish (.agg #[.bool ok,vI v,.slice none 0 0])) cs) (d8 w ab ok v)):
 E0 Tryd.prog main F Stop (G ((bA 15 A [.inRegion (oC g9) [9,10],.code .ret,.inBlock 0,.code G2]).finish (.agg #[.bool ok,vI v,.slice none 0 0])) (c::cs)) w:=by
 obtain⟨s,rfl,h6,_⟩:=v3 N5 hA
 simp only[N5,h6]
 clear h6
 obtain⟨x0,x1,x2,c0x,c1x,c2x⟩:=ha.c
 have z0:=ha.z 0
 have z1:=ha.z 1
 have z2:=ha.z 2
 rw[Frame.finish_at]
 simp only[g9,I0,Tryd.f15,zz,Nat.reduceAdd]
 walk_nrm
 (refine oW fun dd K hK=>?_;go_simp;refine hK _ _ ⟨⟨⟨0,I5 hnh _ _ _⟩,fun e he=>by(have hm:=mem_listed he;clear he hK;simp[go_sem,storedEv,c0x,c1x,c2x,z0,z1,z2]at hm;rcases hm with rfl|rfl|rfl<;>exact V0 _ _ (hnh _))⟩,?_⟩;clear hK K;simp only[setCell_at'];refine E0.at ?_ dd)
 refine ogE<|ogX ?_
 refine i2 (fn:=Tryd.f15) (v:=.agg #[.bool ok,vI v,.slice none 0 0]) rfl rfl Tryd.func15 (fun d=>by simp[results,Tryd.f15,go_sem,c0x,c1x,c2x,z0,z1,z2]) (fun d e he=>by(simp[results,Tryd.f15,go_sem,c0x,c1x,c2x,z0,z1,z2]at he;rcases he with rfl|rfl|rfl<;>exact M0 _ _)) ?_
 exact h
theorem v0v{nn:Nat}(hU:Q1 F nn)(hn:nn≤w.heap.size){xv:Value}{sb:Nat}{a b c0:Int}
 (h:∀A,D0 95 A [(6,vP (w.heap.size+1) 0),(40,xv),(42,.iface 40 (vP sb 0))]→E0 Tryd.prog main F Stop (G (Frame.enter Tryd.prog 44 #[vI a] .normal) ((bA 15 A [.inRegion (oC i9) [5,6,7,8,9,10],.code .ret,.inBlock 0,.code G2])::cs)) ((w.alloc (.cells #[vI 3,vI a,vI b,vI c0] 44)).alloc (.cells #[.bool false,vI 0,.slice none 0 0] 49))):
 E0 Tryd.prog main F Stop (G (Frame.enter Tryd.prog 15 #[xv,vP sb 0,.agg #[vI 3,vI a,vI b,vI c0]] .normal) cs) w:=by
 rw[Q5]
 walk_nrm
 refine ogW X6 a0W ?_
 simp only[X6,I0,Tryd.f15,zz,Nat.reduceAdd]
 iterate 2 refine oA hU ?_
 refine ogE<|ogV b02 G2<|ogW Y6 a0V ?_
 simp only[Y6,I0,Tryd.f15,zz,Nat.reduceAdd]
 refine oT ?_
 refine oL ?_
 refine ogE ?_
 rw[a0q]
 refine K5<|ogW Z6 g8 ?_
 simp only[Z6,I0,Tryd.f15,zz,Nat.reduceAdd]
 iterate 2 refine oT ?_
 refine ogE<|ogGn c0X<|ogW N8 d9 ?_
 simp only[N8,I0,Tryd.f15,zz,Nat.reduceAdd]
 iterate 2 refine oT ?_
 refine ogE<|ogGn e0y<|ogW Z9 a0r ?_
 simp only[Z9,I0,Tryd.f15,zz,Nat.reduceAdd]
 iterate 2 refine oT ?_
 refine ogE<|ogYn u0C<|ogW i9 .ret ?_
 simp only[i9,I0,Tryd.f15,zz,Nat.reduceAdd]
 iterate 4 refine oT ?_
 refine oL ?_
 refine oc a0y #[vI a] ?_
 refine h _ ?_
 exact⟨rfl,rfl,rfl,rfl,trivial⟩
theorem v0B{ab:Nat}{xv:Value}{sb:Nat}{v:Int}{A:Array Value}(hA:D0 95 A [(6,vP ab 0),(40,xv),(42,.iface 40 (vP sb 0))])
 (h:∀A,D0 95 A [(6,vP ab 0)]→E0 Tryd.prog main F Stop (G (Frame.enter Tryd.prog 20 #[xv,.iface 40 (vP sb 0),vI v] .normal) ((bA 15 A [.inRegion (oC i9) [6,7,8,9,10],.code .ret,.inBlock 0,.code G2])::cs)) w):
 E0 Tryd.prog main F Stop (G ((bA 15 A [.inRegion (oC i9) [5,6,7,8,9,10],.code .ret,.inBlock 0,.code G2]).finish (vI v)) cs) w:=by
 obtain⟨s,rfl,h6,h40,h42,_⟩:=v3 N5 hA
 simp only[N5,h6,h40,h42]
 clear h6 h40 h42
 rw[Frame.finish_at]
 simp only[i9,I0,Tryd.f15,zz,Nat.reduceAdd]
 walk_nrm
 refine oc d0k #[xv,.iface 40 (vP sb 0),vI v] ?_
 refine h _ ?_
 exact⟨rfl,rfl,trivial⟩
theorem v0G{ab:Nat}{bv:Bool}{ev:Int}{A:Array Value}(hA:D0 95 A [(6,vP ab 0)])
 (h:∀A,D0 95 A [(6,vP ab 0)]→E0 Tryd.prog main F Stop (G (Frame.enter Tryd.prog 43 #[.bool bv,vI ev] .normal) ((bA 15 A [.inRegion (oC i9) [9,10],.code .ret,.inBlock 0,.code G2])::cs)) w):
 E0 Tryd.prog main F Stop (G ((bA 15 A [.inRegion (oC i9) [6,7,8,9,10],.code .ret,.inBlock 0,.code G2]).finish (.tuple #[.bool bv,vI ev])) cs) w:=by
 obtain⟨s,rfl,h6,_⟩:=v3 N5 hA
 simp only[N5,h6]
 clear h6
 rw[Frame.finish_at]
 simp only[i9,I0,Tryd.f15,zz,Nat.reduceAdd]
 walk_nrm
 iterate 2 refine oT ?_
 refine oc a0x #[.bool bv,vI ev] ?_
 refine h _ ?_
 exact⟨rfl,rfl,trivial⟩
theorem v0J{ab:Nat}(ha:C9 w ab)(hnh:∀k,¬P1 F ⟨ab,k,none⟩){ok:Bool}{v:Int}{A:Array Value}(hA:D0 95 A [(6,vP ab 0)]){c:Frame}
 (h:E0 Tryd.prog main F Stop (G (c.finish (.agg #[.bool ok,vI v,.slice none 0 0])) cs) (d8 w ab ok v)):
 E0 Tryd.prog main F Stop (G ((bA 15 A [.inRegion (oC i9) [9,10],.code .ret,.inBlock 0,.code G2]).finish (.agg #[.bool ok,vI v,.slice none 0 0])) (c::cs)) w:=by
 obtain⟨s,rfl,h6,_⟩:=v3 N5 hA
 simp only[N5,h6]
 clear h6
 obtain⟨x0,x1,x2,c0x,c1x,c2x⟩:=ha.c
 have z0:=ha.z 0
 have z1:=ha.z 1
 have z2:=ha.z 2
 rw[Frame.finish_at]
 simp only[i9,I0,Tryd.f15,zz,Nat.reduceAdd]
 walk_nrm
 (refine oW fun dd K hK=>?_;go_simp;refine hK _ _ ⟨⟨⟨0,I5 hnh _ _ _⟩,fun e he=>by(have hm:=mem_listed he;clear he hK;simp[go_sem,storedEv,c0x,c1x,c2x,z0,z1,z2]at hm;rcases hm with rfl|rfl|rfl<;>exact V0 _ _ (hnh _))⟩,?_⟩;clear hK K;simp only[setCell_at'];refine E0.at ?_ dd)
 refine ogE<|ogX ?_
 refine i2 (fn:=Tryd.f15) (v:=.agg #[.bool ok,vI v,.slice none 0 0]) rfl rfl Tryd.func15 (fun d=>by simp[results,Tryd.f15,go_sem,c0x,c1x,c2x,z0,z1,z2]) (fun d e he=>by(simp[results,Tryd.f15,go_sem,c0x,c1x,c2x,z0,z1,z2]at he;rcases he with rfl|rfl|rfl<;>exact M0 _ _)) ?_
 exact h
theorem v0w{nn:Nat}(hU:Q1 F nn)(hn:nn≤w.heap.size){xv:Value}{sb:Nat}{a b c0:Int}
 (h:∀A,D0 95 A [(6,vP (w.heap.size+1) 0)]→E0 Tryd.prog main F Stop (G (Frame.enter Tryd.prog 45 #[xv,.iface 40 (vP sb 0)] .normal) ((bA 15 A [.inRegion (oC g0o) [3,4,5,6,7,8],.code h0K,.inBlock 0,.code G2])::cs)) ((w.alloc (.cells #[vI 4,vI a,vI b,vI c0] 44)).alloc (.cells #[.bool false,vI 0,.slice none 0 0] 49))):
 E0 Tryd.prog main F Stop (G (Frame.enter Tryd.prog 15 #[xv,vP sb 0,.agg #[vI 4,vI a,vI b,vI c0]] .normal) cs) w:=by
 rw[Q5]
 walk_nrm
 refine ogW X6 a0W ?_
 simp only[X6,I0,Tryd.f15,zz,Nat.reduceAdd]
 iterate 2 refine oA hU ?_
 refine ogE<|ogV b02 G2<|ogW Y6 a0V ?_
 simp only[Y6,I0,Tryd.f15,zz,Nat.reduceAdd]
 refine oT ?_
 refine oL ?_
 refine ogE ?_
 rw[a0q]
 refine K5<|ogW Z6 g8 ?_
 simp only[Z6,I0,Tryd.f15,zz,Nat.reduceAdd]
 iterate 2 refine oT ?_
 refine ogE<|ogGn c0X<|ogW N8 d9 ?_
 simp only[N8,I0,Tryd.f15,zz,Nat.reduceAdd]
 iterate 2 refine oT ?_
 refine ogE<|ogGn e0y<|ogW Z9 a0r ?_
 simp only[Z9,I0,Tryd.f15,zz,Nat.reduceAdd]
 iterate 2 refine oT ?_
 refine ogE<|ogGn g0p<|ogW b01 b0q ?_
 simp only[b01,I0,Tryd.f15,zz,Nat.reduceAdd]
 iterate 2 refine oT ?_
 refine ogE<|ogYn l0M<|ogW g0o h0K ?_
 simp only[g0o,I0,Tryd.f15,zz,Nat.reduceAdd]
 iterate 3 refine oT ?_
 refine oc d0m #[xv,.iface 40 (vP sb 0)] ?_
 refine h _ ?_
 exact⟨rfl,rfl,trivial⟩
theorem v0x{nn:Nat}(hU:Q1 F nn)(hn:nn≤w.heap.size){xv:Value}{sb:Nat}{a b c0:Int}
 (h:∀A,D0 95 A [(6,vP (w.heap.size+1) 0)]→E0 Tryd.prog main F Stop (G (Frame.enter Tryd.prog 46 #[xv,.iface 40 (vP sb 0)] .normal) ((bA 15 A [.inRegion (oC c0S) [3,4,5],.code .ret,.inBlock 0,.code G2])::cs)) ((w.alloc (.cells #[vI 5,vI a,vI b,vI c0] 44)).alloc (.cells #[.bool false,vI 0,.slice none 0 0] 49))):
 E0 Tryd.prog main F Stop (G (Frame.enter Tryd.prog 15 #[xv,vP sb 0,.agg #[vI 5,vI a,vI b,vI c0]] .normal) cs) w:=by
 rw[Q5]
 walk_nrm
 refine ogW X6 a0W ?_
 simp only[X6,I0,Tryd.f15,zz,Nat.reduceAdd]
 iterate 2 refine oA hU ?_
 refine ogE<|ogV b02 G2<|ogW Y6 a0V ?_
 simp only[Y6,I0,Tryd.f15,zz,Nat.reduceAdd]
 refine oT ?_
 refine oL ?_
 refine ogE ?_
 rw[a0q]
 refine K5<|ogW Z6 g8 ?_
 simp only[Z6,I0,Tryd.f15,zz,Nat.reduceAdd]
 iterate 2 refine oT ?_
 refine ogE<|ogGn c0X<|ogW N8 d9 ?_
 simp only[N8,I0,Tryd.f15,zz,Nat.reduceAdd]
 iterate 2 refine oT ?_
 refine ogE<|ogGn e0y<|ogW Z9 a0r ?_
 simp only[Z9,I0,Tryd.f15,zz,Nat.reduceAdd]
 iterate 2 refine oT ?_
 refine ogE<|ogGn g0p<|ogW b01 b0q ?_
 simp only[b01,I0,Tryd.f15,zz,Nat.reduceAdd]
 iterate 2 refine oT ?_
 refine ogE<|ogGn f0z<|ogW b0r c0R ?_
 simp only[b0r,I0,Tryd.f15,zz,Nat.reduceAdd]
 iterate 2 refine oT ?_
 refine ogE<|ogYn s0j<|ogW c0S .ret ?_
 simp only[c0S,I0,Tryd.f15,zz,Nat.reduceAdd]
 iterate 3 refine oT ?_
 refine oc d0n #[xv,.iface 40 (vP sb 0)] ?_
 refine h _ ?_
 exact⟨rfl,rfl,trivial⟩
theorem v0y{nn:Nat}(hU:Q1 F nn)(hn:nn≤w.heap.size){xv:Value}{sb:Nat}{a b c0:Int}
 (h:∀A,D0 95 A [(6,vP (w.heap.size+1) 0),(9,.slice none 0 0)]→E0 Tryd.prog main F Stop (G (Frame.enter Tryd.prog 30 #[xv,.iface 40 (vP sb 0)] .normal) ((bA 15 A [.inRegion (oC c0T) [3,4],.code c0V,.inBlock 0,.code G2])::cs)) ((w.alloc (.cells #[vI 6,vI a,vI b,vI c0] 44)).alloc (.cells #[.bool false,vI 0,.slice none 0 0] 49))):
 E0 Tryd.prog main F Stop (G (Frame.enter Tryd.prog 15 #[xv,vP sb 0,.agg #[vI 6,vI a,vI b,vI c0]] .normal) cs) w:=by
 rw[Q5]
 walk_nrm
 refine ogW X6 a0W ?_
 simp only[X6,I0,Tryd.f15,zz,Nat.reduceAdd]
 iterate 2 refine oA hU ?_
 refine ogE<|ogV b02 G2<|ogW Y6 a0V ?_
 simp only[Y6,I0,Tryd.f15,zz,Nat.reduceAdd]
 refine oT ?_
 refine oL ?_
 refine ogE ?_
 rw[a0q]
 refine K5<|ogW Z6 g8 ?_
 simp only[Z6,I0,Tryd.f15,zz,Nat.reduceAdd]
 iterate 2 refine oT ?_
 refine ogE<|ogGn c0X<|ogW N8 d9 ?_
 simp only[N8,I0,Tryd.f15,zz,Nat.reduceAdd]
 iterate 2 refine oT ?_
 refine ogE<|ogGn e0y<|ogW Z9 a0r ?_
 simp only[Z9,I0,Tryd.f15,zz,Nat.reduceAdd]
 iterate 2 refine oT ?_
 refine ogE<|ogGn g0p<|ogW b01 b0q ?_
 simp only[b01,I0,Tryd.f15,zz,Nat.reduceAdd]
 iterate 2 refine oT ?_
 refine ogE<|ogGn f0z<|ogW b0r c0R ?_
 simp only[b0r,I0,Tryd.f15,zz,Nat.reduceAdd]
 iterate 2 refine oT ?_
 refine ogE<|ogGn h0L<|ogW f0y h0H ?_
 simp only[f0y,I0,Tryd.f15,zz,Nat.reduceAdd]
 iterate 2 refine oT ?_
 refine ogE<|ogYn l0N<|ogW l0I l0O ?_
 simp only[l0I,I0,Tryd.f15,zz,Nat.reduceAdd]
 refine oT ?_
 refine ogE<|ogW c0T c0V ?_
 simp only[c0T,I0,Tryd.f15,zz,Nat.reduceAdd]
 iterate 3 refine oT ?_
 refine oc w8 #[xv,.iface 40 (vP sb 0)] ?_
 refine h _ ?_
 exact⟨rfl,rfl,rfl,trivial⟩
theorem s0O{ab:Nat}(ha:C9 w ab)(hnh:∀k,¬P1 F ⟨ab,k,none⟩){v:Int}{A:Array Value}(hA:D0 95 A [(6,vP ab 0)]){c:Frame}
 (h:E0 Tryd.prog main F Stop (G (c.finish (.agg #[.bool false,vI v,.slice none 0 0])) cs) (d8 w ab false v)):
 E0 Tryd.prog main F Stop (G ((bA 15 A [.inRegion (oC g0o) [3,4,5,6,7,8],.code h0K,.inBlock 0,.code G2]).finish (.tuple #[vI v,vI 3])) (c::cs)) w:=by
 obtain⟨s,rfl,h6,_⟩:=v3 N5 hA
 simp only[N5,h6]
 clear h6
 obtain⟨x0,x1,x2,c0x,c1x,c2x⟩:=ha.c
 have z0:=ha.z 0
 have z1:=ha.z 1
 have z2:=ha.z 2
 rw[Frame.finish_at]
 simp only[g0o,I0,Tryd.f15,zz,Nat.reduceAdd]
 walk_nrm
 iterate 5 refine oT ?_
 refine ogE<|ogW l0H .ret ?_
 simp only[l0H,I0,Tryd.f15,zz,Nat.reduceAdd]
 iterate 4 refine oT ?_
 (refine oW fun dd K hK=>?_;go_simp;refine hK _ _ ⟨⟨⟨0,I5 hnh _ _ _⟩,fun e he=>by(have hm:=mem_listed he;clear he hK;simp[go_sem,storedEv,c0x,c1x,c2x,z0,z1,z2]at hm;rcases hm with rfl|rfl|rfl<;>exact V0 _ _ (hnh _))⟩,?_⟩;clear hK K;simp only[setCell_at'];refine E0.at ?_ dd)
 refine ogE<|ogX ?_
 refine i2 (fn:=Tryd.f15) (v:=.agg #[.bool false,vI v,.slice none 0 0]) rfl rfl Tryd.func15 (fun d=>by simp[results,Tryd.f15,go_sem,c0x,c1x,c2x,z0,z1,z2]) (fun d e he=>by(simp[results,Tryd.f15,go_sem,c0x,c1x,c2x,z0,z1,z2]at he;rcases he with rfl|rfl|rfl<;>exact M0 _ _)) ?_
 exact h
theorem v0C{ab:Nat}(ha:C9 w ab)(hnh:∀k,¬P1 F ⟨ab,k,none⟩){v:Int}{A:Array Value}(hA:D0 95 A [(6,vP ab 0)]){c:Frame}
 (h:E0 Tryd.prog main F Stop (G (c.finish (.agg #[.bool true,vI v,.slice none 0 0])) cs) (d8 w ab true v)):
 E0 Tryd.prog main F Stop (G ((bA 15 A [.inRegion (oC c0S) [3,4,5],.code .ret,.inBlock 0,.code G2]).finish (vI v)) (c::cs)) w:=by
 obtain⟨s,rfl,h6,_⟩:=v3 N5 hA
 simp only[N5,h6]
 clear h6
 obtain⟨x0,x1,x2,c0x,c1x,c2x⟩:=ha.c
 have z0:=ha.z 0
 have z1:=ha.z 1
 have z2:=ha.z 2
 rw[Frame.finish_at]
 simp only[c0S,I0,Tryd.f15,zz,Nat.reduceAdd]
 walk_nrm
 refine oT ?_
 (refine oW fun dd K hK=>?_;go_simp;refine hK _ _ ⟨⟨⟨0,I5 hnh _ _ _⟩,fun e he=>by(have hm:=mem_listed he;clear he hK;simp[go_sem,storedEv,c0x,c1x,c2x,z0,z1,z2]at hm;rcases hm with rfl|rfl|rfl<;>exact V0 _ _ (hnh _))⟩,?_⟩;clear hK K;simp only[setCell_at'];refine E0.at ?_ dd)
 refine ogE<|ogX ?_
 refine i2 (fn:=Tryd.f15) (v:=.agg #[.bool true,vI v,.slice none 0 0]) rfl rfl Tryd.func15 (fun d=>by simp[results,Tryd.f15,go_sem,c0x,c1x,c2x,z0,z1,z2]) (fun d e he=>by(simp[results,Tryd.f15,go_sem,c0x,c1x,c2x,z0,z1,z2]at he;rcases he with rfl|rfl|rfl<;>exact M0 _ _)) ?_
 exact h
theorem v0D{ab:Nat}{la:Option Addr}{ll lc:Nat}{A:Array Value}(hA:D0 95 A [(6,vP ab 0),(9,.slice none 0 0)])
 (h:∀A,D0 95 A [(6,vP ab 0),(9,.slice none 0 0),(10,.slice la ll lc),(11,vI (0:Nat))]→E0 Tryd.prog main F Stop (G (bA 15 A [.inRegion (oC c0U) [0,1,2,3],.code h0I,.code h0M,.inLoop c0W,.inBlock 1,.code h0N,.inBlock 0,.code G2]) cs) w):
 E0 Tryd.prog main F Stop (G ((bA 15 A [.inRegion (oC c0T) [3,4],.code c0V,.inBlock 0,.code G2]).finish (.slice la ll lc)) cs) w:=by
 obtain⟨s,rfl,h6,h9,_⟩:=v3 N5 hA
 simp only[N5,h6,h9]
 clear h6 h9
 rw[Frame.finish_at]
 simp only[c0T,I0,Tryd.f15,zz,Nat.reduceAdd]
 walk_nrm
 refine oT ?_
 refine ogE<|ogV l0P h0N<|ogW l0J l0G ?_
 simp only[l0J,I0,Tryd.f15,zz,Nat.reduceAdd]
 refine oT ?_
 refine ogE ?_
 rw[s0i]
 refine K5 ?_
 rw[o0V]
 refine ogP<|ogV l0Q h0M<|ogW c0U h0I ?_
 simp only[c0U,I0,Tryd.f15,zz,Nat.reduceAdd]
 refine h _ ?_
 exact⟨rfl,rfl,rfl,rfl,rfl,trivial⟩
theorem v0K{ab:Nat}(ha:C9 w ab)(hnh:∀k,¬P1 F ⟨ab,k,none⟩){la va:Option Addr}{ll lc vl vc:Nat}{A:Array Value}(hA:D0 95 A [(6,vP ab 0),(9,.slice va vl vc),(10,.slice la ll lc),(11,vI (ll:Nat))]){c:Frame}
 (h:E0 Tryd.prog main F Stop (G (c.finish (.agg #[.bool true,vI 0,.slice va vl vc])) cs) (g0k w ab true (.slice va vl vc))):
 E0 Tryd.prog main F Stop (G (bA 15 A [.inRegion (oC c0U) [0,1,2,3],.code h0I,.code h0M,.inLoop c0W,.inBlock 1,.code h0N,.inBlock 0,.code G2]) (c::cs)) w:=by
 obtain⟨s,rfl,h6,h9,h10,h11,_⟩:=v3 N5 hA
 simp only[N5,h6,h9,h10,h11]
 clear h6 h9 h10 h11
 obtain⟨x0,x1,x2,c0x,c1x,c2x⟩:=ha.c
 have z0:=ha.z 0
 have z1:=ha.z 1
 have z2:=ha.z 2
 have hd:decide ((ll:Int)<(ll:Int))=false:=by simp
 have hd2:decide (ll<ll)=false:=by simp
 simp only[c0U,I0,Tryd.f15,zz,Nat.reduceAdd]
 iterate 4 refine oT ?_
 refine ogE<|ogGn (.exit 1) ?_
 refine G0 rfl (fun d=>stepG_exit rfl) ?_
 refine ogW l0K .ret ?_
 simp only[l0K,I0,Tryd.f15,zz,Nat.reduceAdd]
 iterate 2 refine oT ?_
 (refine oW fun dd K hK=>?_;go_simp;refine hK _ _ ⟨⟨⟨0,I5 hnh _ _ _⟩,fun e he=>by(have hm:=mem_listed he;clear he hK;simp[go_sem,storedEv,c0x,c1x,c2x,z0,z1,z2]at hm;rcases hm with rfl|rfl|rfl<;>exact V0 _ _ (hnh _))⟩,?_⟩;clear hK K;simp only[setCell_at'];refine E0.at ?_ dd)
 refine ogE<|ogX ?_
 refine i2 (fn:=Tryd.f15) (v:=.agg #[.bool true,vI 0,.slice va vl vc]) rfl rfl Tryd.func15 (fun d=>by simp[results,Tryd.f15,go_sem,c0x,c1x,c2x,z0,z1,z2]) (fun d e he=>by(simp[results,Tryd.f15,go_sem,c0x,c1x,c2x,z0,z1,z2]at he;rcases he with rfl|rfl|rfl<;>exact M0 _ _)) ?_
 exact h
theorem v0s{nn:Nat}(hU:Q1 F nn)(hn:nn≤w.heap.size){xv:Value}{sb:Nat}{a b c0:Int}{kd:Int}(k1:(kd == 1)=false)(k2:(kd == 2)=false)(k3:(kd == 3)=false)(k4:(kd == 4)=false)(k5:(kd == 5)=false)(k6:(kd == 6)=false){c:Frame}
 (h:∀w',w'.heap.size=w.heap.size+2→(∀r,r<w.heap.size→w'.heap[r]? =w.heap[r]?)→E0 Tryd.prog main F Stop (G (c.finish (.agg #[.bool false,vI 0,.slice none 0 0])) cs) w'):
 E0 Tryd.prog main F Stop (G (Frame.enter Tryd.prog 15 #[xv,vP sb 0,.agg #[vI kd,vI a,vI b,vI c0]] .normal) (c::cs)) w:=by
 rw[Q5]
 walk_nrm
 refine ogW X6 a0W ?_
 simp only[X6,I0,Tryd.f15,zz,Nat.reduceAdd]
 iterate 2 refine oA hU ?_
 refine ogE<|ogV b02 G2<|ogW Y6 a0V ?_
 simp only[Y6,I0,Tryd.f15,zz,Nat.reduceAdd]
 refine oT ?_
 refine oL ?_
 refine ogE ?_
 rw[a0q]
 refine K5<|ogW Z6 g8 ?_
 simp only[Z6,I0,Tryd.f15,zz,Nat.reduceAdd]
 iterate 2 refine oT ?_
 refine ogE<|ogGn c0X<|ogW N8 d9 ?_
 simp only[N8,I0,Tryd.f15,zz,Nat.reduceAdd]
 iterate 2 refine oT ?_
 refine ogE<|ogGn e0y<|ogW Z9 a0r ?_
 simp only[Z9,I0,Tryd.f15,zz,Nat.reduceAdd]
 iterate 2 refine oT ?_
 refine ogE<|ogGn g0p<|ogW b01 b0q ?_
 simp only[b01,I0,Tryd.f15,zz,Nat.reduceAdd]
 iterate 2 refine oT ?_
 refine ogE<|ogGn f0z<|ogW b0r c0R ?_
 simp only[b0r,I0,Tryd.f15,zz,Nat.reduceAdd]
 iterate 2 refine oT ?_
 refine ogE<|ogGn h0L<|ogW f0y h0H ?_
 simp only[f0y,I0,Tryd.f15,zz,Nat.reduceAdd]
 iterate 2 refine oT ?_
 refine ogE<|ogGn .skip<|ogK<|ogI<|ogW l0L .ret ?_
 simp only[l0L,I0,Tryd.f15,zz,Nat.reduceAdd]
 refine oT ?_
 (refine oW fun dd K hK=>?_;go_simp;refine hK _ _ ⟨⟨⟨0,I5 (fun k=>P2 hU (show nn≤w.heap.size+1 by omega)) _ _ _⟩,fun e he=>by(have hm:=mem_listed he;clear he hK;simp[go_sem,storedEv]at hm;rcases hm with rfl|rfl|rfl<;>exact V0 _ _ ((fun k=>P2 hU (show nn≤w.heap.size+1 by omega)) _))⟩,?_⟩;clear hK K;simp only[setCell_at'];refine E0.at ?_ dd)
 refine ogE<|ogX ?_
 refine i2 (fn:=Tryd.f15) (v:=.agg #[.bool false,vI 0,.slice none 0 0]) rfl rfl Tryd.func15 (fun d=>by simp[results,Tryd.f15,go_sem]) (fun d e he=>by(simp[results,Tryd.f15,go_sem]at he;rcases he with rfl|rfl|rfl<;>exact M0 _ _)) ?_
 refine h _ (by simp) (fun r h1=>?_)
 rw[r0 _ _ _ (by simp;omega),r0 _ _ _ (by simp;omega),r0 _ _ _ (by simp;omega),o0 _ _ (by simp;omega),o0 _ _ h1]
end
section
variable{w w':World}
theorem c0Q{X:World}{a:Obj}:C9 ((X.alloc a).alloc (.cells #[.bool false,vI 0,.slice none 0 0] 49)) (X.heap.size+1):=⟨_,_,_,f0X _ _ _ _⟩
theorem b0p{X:World}{a b:Obj}:C9 (((X.alloc a).alloc (.cells #[.bool false,vI 0,.slice none 0 0] 49)).alloc b) (X.heap.size+1):=⟨_,_,_,by rw[o0 _ _ (by simp)];exact f0X _ _ _ _⟩
theorem L7{ab:Nat}{b:Bool}{n:Int}:(d8 w ab b n).heap.size=w.heap.size:=by unfold d8;simp
theorem k0v{ab:Nat}{b:Bool}{v:Value}:(g0k w ab b v).heap.size=w.heap.size:=by unfold g0k;simp
abbrev opV(o:I6):Value:=.agg #[vI o.kd,vI o.a,vI o.b,vI o.c]
theorem f0l{xv:Value}{sb:Nat}{o:I6}(hx:Z5 xv w){c:Frame}{cs:List Frame}{main:Bool}{Stop:Goroutine→World→Prop}
 (K:∀w',w.heap.size≤w'.heap.size→(∀r,r<w.heap.size→w'.heap[r]? =w.heap[r]?)→E0 Tryd.prog main F0 Stop (G (c.finish (.agg #[.bool (decide (o.kd=5∨o.kd=6)),vI 0,.slice none 0 0])) cs) w'):
 E0 Tryd.prog main F0 Stop (G (Frame.enter Tryd.prog 15 #[xv,vP sb 0,opV o] .normal) (c::cs)) w:=by
 obtain⟨kd,a,b,c0⟩:=o
 have key:∀(ok:Bool) (W:World),decide (kd=5∨kd=6)=ok→w.heap.size≤W.heap.size→(∀r,r<w.heap.size→W.heap[r]? =w.heap[r]?)→E0 Tryd.prog main F0 Stop (G (c.finish (.agg #[.bool ok,vI 0,.slice none 0 0])) cs) W:=by
  rintro ok W rfl h1 h2
  exact K W h1 h2
 clear K
 have hnh:∀k,¬P1 F0 ⟨w.heap.size+1,k,none⟩:=fun k=>w0N _
 simp only[opV]
 by_cases k1:kd=1
 ·subst k1
  refine v0t K1 (Nat.zero_le _) fun A hA=>b0Q (v0z hA fun A hA=>t06 (hx.heap fun r hr=>V6 _ _ _ hr) (v0E hA fun A hA=>i0S K1 (Nat.zero_le _) (v0H b0p hnh hA (key _ _ (by decide) ?_ fun r hr=>?_))))
  ·rw[L7,World.size_alloc,c0z];omega
  ·rw[M5 (by omega),o0 _ _ (by simp;omega),V6 _ _ _ hr]
 by_cases k2:kd=2
 ·subst k2
  refine v0u K1 (Nat.zero_le _) fun A hA=>b0Q (v0A hA fun A hA=>p0d (hx.heap fun r hr=>V6 _ _ _ hr) (v0F hA fun A hA=>i0S K1 (Nat.zero_le _) (v0I b0p hnh hA (key _ _ (by decide) ?_ fun r hr=>?_))))
  ·rw[L7,World.size_alloc,c0z];omega
  ·rw[M5 (by omega),o0 _ _ (by simp;omega),V6 _ _ _ hr]
 by_cases k3:kd=3
 ·subst k3
  refine v0v K1 (Nat.zero_le _) fun A hA=>b0Q (v0B hA fun A hA=>s09 (hx.heap fun r hr=>V6 _ _ _ hr) (v0G hA fun A hA=>i0S K1 (Nat.zero_le _) (v0J b0p hnh hA (key _ _ (by decide) ?_ fun r hr=>?_))))
  ·rw[L7,World.size_alloc,c0z];omega
  ·rw[M5 (by omega),o0 _ _ (by simp;omega),V6 _ _ _ hr]
 by_cases k4:kd=4
 ·subst k4
  refine v0w K1 (Nat.zero_le _) fun A hA=>m0T (hx.heap fun r hr=>V6 _ _ _ hr) (s0O c0Q hnh hA (key _ _ (by decide) ?_ fun r hr=>?_))
  ·rw[L7,c0z];omega
  ·rw[M5 (by omega),V6 _ _ _ hr]
 by_cases k5:kd=5
 ·subst k5
  refine v0x K1 (Nat.zero_le _) fun A hA=>m0Y (hx.heap fun r hr=>V6 _ _ _ hr) (v0C c0Q hnh hA (key _ _ (by decide) ?_ fun r hr=>?_))
  ·rw[L7,c0z];omega
  ·rw[M5 (by omega),V6 _ _ _ hr]
 by_cases k6:kd=6
 ·subst k6
  refine v0y K1 (Nat.zero_le _) fun A hA=>j0U (hx.heap fun r hr=>V6 _ _ _ hr) (v0D hA fun A hA=>v0K (ll:=0) c0Q hnh hA (key _ _ (by decide) ?_ fun r hr=>?_))
  ·rw[k0v,c0z];omega
  ·rw[b0n (by omega),V6 _ _ _ hr]
 refine v0s K1 (Nat.zero_le _) (beq_eq_false_iff_ne.2 k1) (beq_eq_false_iff_ne.2 k2) (beq_eq_false_iff_ne.2 k3) (beq_eq_false_iff_ne.2 k4) (beq_eq_false_iff_ne.2 k5) (beq_eq_false_iff_ne.2 k6) fun W hs ho=>key _ W (by simp[k5,k6]) (by omega) ho
end
section
variable{w w':World}
structure f0u(w w':World)(b:Nat)(o:Obj):Prop where
 size:w'.heap.size=w.heap.size
 o:w'.heap[b]? =some o
 old:∀r,r≠b→w'.heap[r]? =w.heap[r]?
theorem E3{w:World}{b k:Nat}{c:Array Value}{e:TypeId}{v:Value}(h:w.heap[b]? =some (.cells c e (0,0))):f0u w (w.setCell ⟨b,k,none⟩ v) b (.cells (c.setIfInBounds k v) e (0,0)):=
 ⟨by simp,Y1 (o:=k) h v,fun r hr=>r0 _ _ _ hr⟩
theorem f0u.trans{a b c:World}{p:Nat}{o1 o2:Obj}(h1:f0u a b p o1)(h2:f0u b c p o2):f0u a c p o2:=⟨h2.size.trans h1.size,h2.o,fun r hr=>(h2.old r hr).trans (h1.old r hr)⟩
structure RCl where
 kd:Int
 i:Int
 ph:Int
 w:Int
 old:BitVec 64
 done:Bool
 ok:Bool
 n:Int
 l:Value
def RCl.o(c:RCl):Obj:=.cells #[vI c.kd,vI c.i,vI c.ph,vI c.w,wV c.old,.bool c.done,.bool c.ok,vI c.n,c.l] 51
abbrev S9(w:World)(cb:Nat)(c:RCl):Prop:=w.heap[cb]? =some c.o
structure RS(xb wb:Nat)(k:Z1)(w:World):Prop where
 o:w.heap[xb]? =some (.cells #[vI (k.n:Nat),vL wb 0 k.ws.length k.ws.length] 98 (0,0))
 ws:w.heap[wb]? =some (.cells ((k.ws.map fun x=>wV x).toArray) 47 (0,0))
 ne:xb≠wb
theorem j0J{cb:Nat}{c:RCl}{ok:Bool}{n:Int}(h:S9 w cb c):Calls Tryd.prog 39 #[vP cb 0,.bool ok,vI n] w fun x w'=>x= .returned (.tuple #[])∧f0u w w' cb ({c with done:=true,ok:=ok,n:=n}:RCl).o:=by
 have H:Aside (S9 w cb c):=h
 have c5:=(L1 h (j:=5) rfl).1
 have c6:=(L1 h (j:=6) rfl).1
 have c7:=(L1 h (j:=7) rfl).1
 have z5:=(L1 h (j:=5) rfl).2
 have z6:=(L1 h (j:=6) rfl).2
 have z7:=(L1 h (j:=7) rfl).2
 clear h
 go_enter Tryd.func39,Tryd.ntmps39
 go_wp2
 go_end0
 refine⟨rfl,?_⟩
 exact((E3 (k:=5) H.out).trans (E3 (k:=6) (E3 (k:=5) H.out).o)).trans (E3 (k:=7) (E3 (k:=6) (E3 (k:=5) H.out).o).o)
theorem t0c:∃i z,Tryd.prog.info? 47=some i∧i.zero=some z∧i.size=1∧i.bytes=8∧z.cells= #[.int .u64 0]:=by
 obtain⟨i,hi,h⟩:=Option.map_eq_some_iff.1 (show(Tryd.prog.info? 47).map (fun i=>(i.zero.map Value.cells,i.size,i.bytes))=some (some #[.int .u64 0],1,8)by kernel_rfl)
 simp only[Prod.mk.injEq]at h
 obtain⟨z,hz,hc⟩:=Option.map_eq_some_iff.1 h.1
 exact⟨i,z,hi,hz,h.2.1,h.2.2,hc⟩
@[go_sem] theorem z0d{m:Nat}(hm:m≤1024)(w:World):(Instr.makeSlice 96 (vI (m:Nat)) (vI (m:Nat))).run Tryd.prog w= .ok (vL w.heap.size 0 m m) (w.alloc (.cells (madeCells #[.int .u64 0] m) 47)):=by
 obtain⟨i,z,hi,hz,hs,hb,hc⟩:=t0c
 have:=run_make (P:=Tryd.prog) w 96 47 i _ Tryd.underlying96 hi hz .i64 .i64 m m (by omega) (by omega) (by rw[hb];omega) (by omega)
 rw[hs,hc]at this
 simpa using this
theorem y0k(n:Int)(a:Option Addr)(l c:Nat):Tryd.prog.built 98 [(0,vI n),(1,.slice a l c)]=some #[vI n,.slice a l c]:=by kernel_rfl
@[go_sem] theorem x06(n:Int)(a:Option Addr)(l c:Nat)(w:World):(Instr.build 98 #[(0,vI n),(1,.slice a l c)]).run Tryd.prog w= .ok (.agg #[vI n,.slice a l c]) w:=run_build w _ _ _ (y0k n a l c)
theorem y0j(k:Int):Tryd.prog.built 51 [(0,vI k),(2,vI 1)]=some #[vI k,vI 0,vI 1,vI 0,.int .u64 0,.bool false,.bool false,vI 0,.slice none 0 0]:=by kernel_rfl
@[go_sem] theorem x05(k:Int)(w:World):(Instr.build 51 #[(0,vI k),(2,vI 1)]).run Tryd.prog w= .ok (.agg #[vI k,vI 0,vI 1,vI 0,.int .u64 0,.bool false,.bool false,vI 0,.slice none 0 0]) w:=run_build w _ _ _ (y0j k)
def n8(n:Nat):Z1:=⟨n,List.replicate ((n+63) / 64) 0#64⟩
theorem l0i{n:Nat}(hn:n≤65536):X8 Tryd.prog Tryd.f12 #[vI (n:Nat)] w fun x w'=>x= .tuple #[vP (w.heap.size+1) 0,.bool true]∧RS (w.heap.size+1) w.heap.size (n8 n) w'∧w'.heap.size=w.heap.size+2∧∀r,r<w.heap.size→w'.heap[r]? =w.heap[r]?:=by
 obtain⟨m,hm⟩:∃m,m=(n+63) / 64:=⟨_,rfl⟩
 have hm1:m≤1024:=by omega
 have e0:decide ((n:Int)<0)=false:=decide_eq_false (by omega)
 have e1:decide ((65536:Int)<(n:Int))=false:=decide_eq_false (by omega)
 have e2:decide (65536<n)=false:=decide_eq_false (by omega)
 have w1:IntKind.i64.wrap ((n:Int)+63)=(n:Int)+63:=IntWalk.i64_in _ (by omega)
 have w2:IntKind.i64.wrap (((n:Int)+63).tdiv 64)=(m:Int):=by
  rw[Int.tdiv_eq_ediv_of_nonneg (by omega),IntWalk.i64_in _ (by omega)]
  omega
 have M:Aside (m=(n+63) / 64):=hm
 clear hm
 refine I2 rfl ?_
 simp only[Tryd.ntmps12,List.size_toArray,List.length_cons,List.length_nil,Nat.reduceAdd,Nat.reduceSub,Array.replicate_succ,Array.replicate_zero,List.push_toArray,List.append_toArray,List.nil_append,List.cons_append]
 go_wp2
 go_ret2
 refine⟨_,rfl,rfl,⟨?_,?_,by omega⟩,by simp,fun r hr=>V6 _ _ _ hr⟩
 ·rw[show(n8 n).ws.length=m by rw[M.out];simp[n8]]
  exact f0X _ _ _ _
 ·rw[o0 _ _ (by simp),heap_alloc_new]
  congr 2
  apply Array.toList_inj.1
  rw[toList_madeCells_one]
  simp[n8,wV,M.out]
def F5(s:Z1)(o:I6):RCl:=match(s.begin o).2 with
 | .inl c=>⟨o.kd,c.i,1,c.w,0#64,false,false,0,.slice none 0 0⟩
 | .inr a=>⟨o.kd,0,1,0,0#64,true,a.1,a.2.1,.slice none 0 0⟩
theorem h0Z{xb wb:Nat}{k:Z1}{o:I6}(h:RS xb wb k w)(hn:k.n≤65536):X8 Tryd.prog Tryd.f13 #[vP xb 0,opV o] w fun x w'=>x=vP (w.heap.size+1) 0∧S9 w' (w.heap.size+1) (F5 k o)∧w'.heap.size=w.heap.size+2∧∀r,r<w.heap.size→w'.heap[r]? =w.heap[r]?:=by
 obtain⟨kd,a,b,c⟩:=o
 have c0:=(L1 h.o (j:=0) rfl).1
 have c1:=(L1 h.o (j:=1) rfl).1
 have hxl:xb<w.heap.size:=(Array.getElem?_eq_some_iff.1 h.o).1
 have E:Aside (∀(ok:Bool) (n:Int),Calls Tryd.prog 39 #[vP (w.heap.size+1) 0,.bool ok,vI n] ((w.alloc (.cells #[vI kd,vI a,vI b,vI c] 44)).alloc (.cells #[vI kd,vI 0,vI 1,vI 0,.int .u64 0,.bool false,.bool false,vI 0,.slice none 0 0] 51)) fun x w'=>x= .returned (.tuple #[])∧f0u ((w.alloc (.cells #[vI kd,vI a,vI b,vI c] 44)).alloc (.cells #[vI kd,vI 0,vI 1,vI 0,.int .u64 0,.bool false,.bool false,vI 0,.slice none 0 0] 51)) w' (w.heap.size+1) (⟨kd,0,1,0,0#64,true,ok,n,.slice none 0 0⟩:RCl).o):=
  fun ok n=>j0J (c:=⟨kd,0,1,0,0#64,false,false,0,.slice none 0 0⟩) (f0X _ _ _ _)
 have E2:Aside (∀(m:Nat) (ok:Bool) (n:Int),Calls Tryd.prog 39 #[vP (w.heap.size+1) 0,.bool ok,vI n] (((w.alloc (.cells #[vI kd,vI a,vI b,vI c] 44)).alloc (.cells #[vI kd,vI 0,vI 1,vI 0,.int .u64 0,.bool false,.bool false,vI 0,.slice none 0 0] 51)).drewN m) fun x w'=>x= .returned (.tuple #[])∧f0u ((w.alloc (.cells #[vI kd,vI a,vI b,vI c] 44)).alloc (.cells #[vI kd,vI 0,vI 1,vI 0,.int .u64 0,.bool false,.bool false,vI 0,.slice none 0 0] 51)) w' (w.heap.size+1) (⟨kd,0,1,0,0#64,true,ok,n,.slice none 0 0⟩:RCl).o):=
  fun m ok n=>(j0J (w:=((w.alloc (.cells #[vI kd,vI a,vI b,vI c] 44)).alloc (.cells #[vI kd,vI 0,vI 1,vI 0,.int .u64 0,.bool false,.bool false,vI 0,.slice none 0 0] 51)).drewN m) (c:=⟨kd,0,1,0,0#64,false,false,0,.slice none 0 0⟩) (f0X _ _ _ _)).mono fun x u h=>⟨h.1,h.2.size,h.2.o,h.2.old⟩
 have F:Aside (∀(ok:Bool) (n:Int) (u:World),(k.begin ⟨kd,a,b,c⟩).2= .inr (ok,n,[])→f0u ((w.alloc (.cells #[vI kd,vI a,vI b,vI c] 44)).alloc (.cells #[vI kd,vI 0,vI 1,vI 0,.int .u64 0,.bool false,.bool false,vI 0,.slice none 0 0] 51)) u (w.heap.size+1) (⟨kd,0,1,0,0#64,true,ok,n,.slice none 0 0⟩:RCl).o→S9 u (w.heap.size+1) (F5 k ⟨kd,a,b,c⟩)∧u.heap.size=w.heap.size+2∧∀r,r<w.heap.size→u.heap[r]? =w.heap[r]?):=fun ok n u hb hp=>by
  refine⟨?_,hp.size.trans (c0z _ _ _),fun r hr=>(hp.old r (by omega)).trans (V6 _ _ _ hr)⟩
  unfold F5
  rw[hb]
  exact hp.o
 have hX:Aside (∀m,(((w.alloc (.cells #[vI kd,vI a,vI b,vI c] 44)).alloc (.cells #[vI kd,vI 0,vI 1,vI 0,.int .u64 0,.bool false,.bool false,vI 0,.slice none 0 0] 51)).drewN m).heap[w.heap.size+1]? =some (.cells #[vI kd,vI 0,vI 1,vI 0,.int .u64 0,.bool false,.bool false,vI 0,.slice none 0 0] 51 (0,0))):=fun m=>f0X _ _ _ _
 have hX0:Aside (((w.alloc (.cells #[vI kd,vI a,vI b,vI c] 44)).alloc (.cells #[vI kd,vI 0,vI 1,vI 0,.int .u64 0,.bool false,.bool false,vI 0,.slice none 0 0] 51)).heap[w.heap.size+1]? =some (.cells #[vI kd,vI 0,vI 1,vI 0,.int .u64 0,.bool false,.bool false,vI 0,.slice none 0 0] 51 (0,0))):=f0X _ _ _ _
 have wlen:Aside (k.ws.length=0∨¬((k.ws.length:Int)=0)):=by rcases Nat.eq_zero_or_pos k.ws.length with h|h;exact .inl h;exact .inr (by omega)
 clear h
 simp only[opV]
 by_cases k1:kd=1
 ·subst k1
  by_cases h0:a<0
  ·have B0:(k.begin ⟨1,a,b,c⟩).2= .inr (false,0,[]):=by simp[Z1.begin,h0]
   have B:Aside _:=B0
   clear B0
   have e0:decide (a<0)=true:=decide_eq_true h0
   refine I2 rfl ?_
   simp only[Tryd.ntmps13,List.size_toArray,List.length_cons,List.length_nil,Nat.reduceAdd,Nat.reduceSub,Array.replicate_succ,Array.replicate_zero,List.push_toArray,List.append_toArray,List.nil_append,List.cons_append]
   go_wp2
   go_quiet (fail)
   go_wp2_with (go_at_call 39;refine(E2.out _ _ _).mono ?_;rintro e u ⟨rfl,hu⟩;have U:Aside (S9 u (w.heap.size+1) (F5 k ⟨1,a,b,c⟩)∧u.heap.size=w.heap.size+2∧∀r,r<w.heap.size→u.heap[r]? =w.heap[r]?):=F.out _ _ _ B.out hu;clear hu)
   go_ret
   exact⟨_,rfl,rfl,U.out⟩
  by_cases h1:(k.n:Int)≤a
  ·have B0:(k.begin ⟨1,a,b,c⟩).2= .inr (false,0,[]):=by simp[Z1.begin,h1]
   have B:Aside _:=B0
   clear B0
   have e0:decide (a<0)=false:=decide_eq_false h0
   have e1:decide ((k.n:Int)≤a)=true:=decide_eq_true h1
   refine I2 rfl ?_
   simp only[Tryd.ntmps13,List.size_toArray,List.length_cons,List.length_nil,Nat.reduceAdd,Nat.reduceSub,Array.replicate_succ,Array.replicate_zero,List.push_toArray,List.append_toArray,List.nil_append,List.cons_append]
   go_wp2
   go_quiet (fail)
   go_wp2_with (go_at_call 39;refine(E2.out _ _ _).mono ?_;rintro e u ⟨rfl,hu⟩;have U:Aside (S9 u (w.heap.size+1) (F5 k ⟨1,a,b,c⟩)∧u.heap.size=w.heap.size+2∧∀r,r<w.heap.size→u.heap[r]? =w.heap[r]?):=F.out _ _ _ B.out hu;clear hu)
   go_ret
   exact⟨_,rfl,rfl,U.out⟩
  obtain⟨q,rfl⟩:∃q:Nat,a=(q:Int):=⟨a.toNat,by omega⟩
  have B0:(k.begin ⟨1,(q:Int),b,c⟩).2= .inl ⟨1,0,q,q / 64,0#64,[]⟩:=by
   have hq:¬k.n≤q:=by omega
   simp[Z1.begin,hq]
   rw[if_neg h0]
  have B:Aside _:=B0
  clear B0
  have e0:decide ((q:Int)<0)=false:=decide_eq_false h0
  have e1:decide ((k.n:Int)≤(q:Int))=false:=decide_eq_false h1
  have e3:decide (k.n≤q)=false:=decide_eq_false (by omega)
  have w2:IntKind.i64.wrap ((q:Int).tdiv 64)=((q / 64:Nat):Int):=by
   rw[Int.tdiv_eq_ediv_of_nonneg (by omega),IntWalk.i64_in _ (by omega)]
   omega
  refine I2 rfl ?_
  simp only[Tryd.ntmps13,List.size_toArray,List.length_cons,List.length_nil,Nat.reduceAdd,Nat.reduceSub,Array.replicate_succ,Array.replicate_zero,List.push_toArray,List.append_toArray,List.nil_append,List.cons_append]
  go_wp2
  go_quiet (fail)
  go_wp2
  go_ret
  refine⟨_,rfl,rfl,?_,by simp,fun r hr=>?_⟩
  ·have hp:=((E3 (k:=1) (v:=vI (q:Nat)) (hX.out 0)).trans (E3 (k:=3) (v:=vI ((q / 64:Nat):Int)) (E3 (k:=1) (v:=vI (q:Nat)) (hX.out 0)).o)).o
   unfold F5
   rw[B.out]
   exact hp
  ·rw[r0 _ _ _ (show r≠w.heap.size+1 by omega),r0 _ _ _ (show r≠w.heap.size+1 by omega)]
   exact V6 _ _ _ hr
 by_cases k2:kd=2
 ·subst k2
  by_cases h0:a<0
  ·have B0:(k.begin ⟨2,a,b,c⟩).2= .inr (false,0,[]):=by simp[Z1.begin,h0]
   have B:Aside _:=B0
   clear B0
   have e0:decide (a<0)=true:=decide_eq_true h0
   refine I2 rfl ?_
   simp only[Tryd.ntmps13,List.size_toArray,List.length_cons,List.length_nil,Nat.reduceAdd,Nat.reduceSub,Array.replicate_succ,Array.replicate_zero,List.push_toArray,List.append_toArray,List.nil_append,List.cons_append]
   go_wp2
   go_quiet (fail)
   go_wp2_with (go_at_call 39;refine(E2.out _ _ _).mono ?_;rintro e u ⟨rfl,hu⟩;have U:Aside (S9 u (w.heap.size+1) (F5 k ⟨2,a,b,c⟩)∧u.heap.size=w.heap.size+2∧∀r,r<w.heap.size→u.heap[r]? =w.heap[r]?):=F.out _ _ _ B.out hu;clear hu)
   go_ret
   exact⟨_,rfl,rfl,U.out⟩
  by_cases h1:(k.n:Int)≤a
  ·have B0:(k.begin ⟨2,a,b,c⟩).2= .inr (false,0,[]):=by simp[Z1.begin,h1]
   have B:Aside _:=B0
   clear B0
   have e0:decide (a<0)=false:=decide_eq_false h0
   have e1:decide ((k.n:Int)≤a)=true:=decide_eq_true h1
   refine I2 rfl ?_
   simp only[Tryd.ntmps13,List.size_toArray,List.length_cons,List.length_nil,Nat.reduceAdd,Nat.reduceSub,Array.replicate_succ,Array.replicate_zero,List.push_toArray,List.append_toArray,List.nil_append,List.cons_append]
   go_wp2
   go_quiet (fail)
   go_wp2_with (go_at_call 39;refine(E2.out _ _ _).mono ?_;rintro e u ⟨rfl,hu⟩;have U:Aside (S9 u (w.heap.size+1) (F5 k ⟨2,a,b,c⟩)∧u.heap.size=w.heap.size+2∧∀r,r<w.heap.size→u.heap[r]? =w.heap[r]?):=F.out _ _ _ B.out hu;clear hu)
   go_ret
   exact⟨_,rfl,rfl,U.out⟩
  obtain⟨q,rfl⟩:∃q:Nat,a=(q:Int):=⟨a.toNat,by omega⟩
  have B0:(k.begin ⟨2,(q:Int),b,c⟩).2= .inl ⟨2,0,q,q / 64,0#64,[]⟩:=by
   have hq:¬k.n≤q:=by omega
   simp[Z1.begin,hq]
   rw[if_neg h0]
  have B:Aside _:=B0
  clear B0
  have e0:decide ((q:Int)<0)=false:=decide_eq_false h0
  have e1:decide ((k.n:Int)≤(q:Int))=false:=decide_eq_false h1
  have e3:decide (k.n≤q)=false:=decide_eq_false (by omega)
  have w2:IntKind.i64.wrap ((q:Int).tdiv 64)=((q / 64:Nat):Int):=by
   rw[Int.tdiv_eq_ediv_of_nonneg (by omega),IntWalk.i64_in _ (by omega)]
   omega
  refine I2 rfl ?_
  simp only[Tryd.ntmps13,List.size_toArray,List.length_cons,List.length_nil,Nat.reduceAdd,Nat.reduceSub,Array.replicate_succ,Array.replicate_zero,List.push_toArray,List.append_toArray,List.nil_append,List.cons_append]
  go_wp2
  go_quiet (fail)
  go_wp2
  go_ret
  refine⟨_,rfl,rfl,?_,by simp,fun r hr=>?_⟩
  ·have hp:=((E3 (k:=1) (v:=vI (q:Nat)) (hX.out 0)).trans (E3 (k:=3) (v:=vI ((q / 64:Nat):Int)) (E3 (k:=1) (v:=vI (q:Nat)) (hX.out 0)).o)).o
   unfold F5
   rw[B.out]
   exact hp
  ·rw[r0 _ _ _ (show r≠w.heap.size+1 by omega),r0 _ _ _ (show r≠w.heap.size+1 by omega)]
   exact V6 _ _ _ hr
 by_cases k3:kd=3
 ·subst k3
  by_cases h0:a<0
  ·have B0:(k.begin ⟨3,a,b,c⟩).2= .inr (false,0,[]):=by simp[Z1.begin,h0]
   have B:Aside _:=B0
   clear B0
   have e0:decide (a<0)=true:=decide_eq_true h0
   refine I2 rfl ?_
   simp only[Tryd.ntmps13,List.size_toArray,List.length_cons,List.length_nil,Nat.reduceAdd,Nat.reduceSub,Array.replicate_succ,Array.replicate_zero,List.push_toArray,List.append_toArray,List.nil_append,List.cons_append]
   go_wp2
   go_quiet (fail)
   go_wp2_with (go_at_call 39;refine(E2.out _ _ _).mono ?_;rintro e u ⟨rfl,hu⟩;have U:Aside (S9 u (w.heap.size+1) (F5 k ⟨3,a,b,c⟩)∧u.heap.size=w.heap.size+2∧∀r,r<w.heap.size→u.heap[r]? =w.heap[r]?):=F.out _ _ _ B.out hu;clear hu)
   go_ret
   exact⟨_,rfl,rfl,U.out⟩
  by_cases h1:(k.n:Int)≤a
  ·have B0:(k.begin ⟨3,a,b,c⟩).2= .inr (false,0,[]):=by simp[Z1.begin,h1]
   have B:Aside _:=B0
   clear B0
   have e0:decide (a<0)=false:=decide_eq_false h0
   have e1:decide ((k.n:Int)≤a)=true:=decide_eq_true h1
   refine I2 rfl ?_
   simp only[Tryd.ntmps13,List.size_toArray,List.length_cons,List.length_nil,Nat.reduceAdd,Nat.reduceSub,Array.replicate_succ,Array.replicate_zero,List.push_toArray,List.append_toArray,List.nil_append,List.cons_append]
   go_wp2
   go_quiet (fail)
   go_wp2_with (go_at_call 39;refine(E2.out _ _ _).mono ?_;rintro e u ⟨rfl,hu⟩;have U:Aside (S9 u (w.heap.size+1) (F5 k ⟨3,a,b,c⟩)∧u.heap.size=w.heap.size+2∧∀r,r<w.heap.size→u.heap[r]? =w.heap[r]?):=F.out _ _ _ B.out hu;clear hu)
   go_ret
   exact⟨_,rfl,rfl,U.out⟩
  obtain⟨q,rfl⟩:∃q:Nat,a=(q:Int):=⟨a.toNat,by omega⟩
  have B0:(k.begin ⟨3,(q:Int),b,c⟩).2= .inl ⟨3,0,q,q / 64,0#64,[]⟩:=by
   have hq:¬k.n≤q:=by omega
   simp[Z1.begin,hq]
   rw[if_neg h0]
  have B:Aside _:=B0
  clear B0
  have e0:decide ((q:Int)<0)=false:=decide_eq_false h0
  have e1:decide ((k.n:Int)≤(q:Int))=false:=decide_eq_false h1
  have e3:decide (k.n≤q)=false:=decide_eq_false (by omega)
  have w2:IntKind.i64.wrap ((q:Int).tdiv 64)=((q / 64:Nat):Int):=by
   rw[Int.tdiv_eq_ediv_of_nonneg (by omega),IntWalk.i64_in _ (by omega)]
   omega
  refine I2 rfl ?_
  simp only[Tryd.ntmps13,List.size_toArray,List.length_cons,List.length_nil,Nat.reduceAdd,Nat.reduceSub,Array.replicate_succ,Array.replicate_zero,List.push_toArray,List.append_toArray,List.nil_append,List.cons_append]
  go_wp2
  go_quiet (fail)
  go_wp2
  go_ret
  refine⟨_,rfl,rfl,?_,by simp,fun r hr=>?_⟩
  ·have hp:=((E3 (k:=1) (v:=vI (q:Nat)) (hX.out 0)).trans (E3 (k:=3) (v:=vI ((q / 64:Nat):Int)) (E3 (k:=1) (v:=vI (q:Nat)) (hX.out 0)).o)).o
   unfold F5
   rw[B.out]
   exact hp
  ·rw[r0 _ _ _ (show r≠w.heap.size+1 by omega),r0 _ _ _ (show r≠w.heap.size+1 by omega)]
   exact V6 _ _ _ hr
 by_cases k4:kd=4
 ·subst k4
  rcases wlen.out with h0|h0
  ·have B0:(k.begin ⟨4,a,b,c⟩).2= .inr (false,0,[]):=by simp[Z1.begin,h0]
   have B:Aside _:=B0
   clear B0
   rw[h0]at c1
   refine I2 rfl ?_
   simp only[Tryd.ntmps13,List.size_toArray,List.length_cons,List.length_nil,Nat.reduceAdd,Nat.reduceSub,Array.replicate_succ,Array.replicate_zero,List.push_toArray,List.append_toArray,List.nil_append,List.cons_append]
   go_wp2_with (go_at_call 39;refine(E.out _ _).mono ?_;rintro e u ⟨rfl,hu⟩;have U:Aside (S9 u (w.heap.size+1) (F5 k ⟨4,a,b,c⟩)∧u.heap.size=w.heap.size+2∧∀r,r<w.heap.size→u.heap[r]? =w.heap[r]?):=F.out _ _ _ B.out hu;clear hu)
   go_ret
   exact⟨_,rfl,rfl,U.out⟩
  ·have hq:¬k.ws.length=0:=by omega
   have B0:(k.begin ⟨4,a,b,c⟩).2= .inl ⟨4,0,0,0,0#64,[]⟩:=by simp[Z1.begin,hq]
   have B:Aside _:=B0
   clear B0
   have e0:((k.ws.length:Int) == 0)=false:=beq_eq_false_iff_ne.2 h0
   refine I2 rfl ?_
   simp only[Tryd.ntmps13,List.size_toArray,List.length_cons,List.length_nil,Nat.reduceAdd,Nat.reduceSub,Array.replicate_succ,Array.replicate_zero,List.push_toArray,List.append_toArray,List.nil_append,List.cons_append]
   go_wp2
   go_ret
   refine⟨_,rfl,rfl,?_,by simp,fun r hr=>V6 _ _ _ hr⟩
   unfold F5
   rw[B.out]
   exact hX0.out
 by_cases k5:kd=5
 ·subst k5
  rcases wlen.out with h0|h0
  ·have B0:(k.begin ⟨5,a,b,c⟩).2= .inr (true,0,[]):=by simp[Z1.begin,h0]
   have B:Aside _:=B0
   clear B0
   rw[h0]at c1
   refine I2 rfl ?_
   simp only[Tryd.ntmps13,List.size_toArray,List.length_cons,List.length_nil,Nat.reduceAdd,Nat.reduceSub,Array.replicate_succ,Array.replicate_zero,List.push_toArray,List.append_toArray,List.nil_append,List.cons_append]
   go_wp2_with (go_at_call 39;refine(E.out _ _).mono ?_;rintro e u ⟨rfl,hu⟩;have U:Aside (S9 u (w.heap.size+1) (F5 k ⟨5,a,b,c⟩)∧u.heap.size=w.heap.size+2∧∀r,r<w.heap.size→u.heap[r]? =w.heap[r]?):=F.out _ _ _ B.out hu;clear hu)
   go_ret
   exact⟨_,rfl,rfl,U.out⟩
  ·have hq:¬k.ws.length=0:=by omega
   have B0:(k.begin ⟨5,a,b,c⟩).2= .inl ⟨5,0,0,0,0#64,[]⟩:=by simp[Z1.begin,hq]
   have B:Aside _:=B0
   clear B0
   have e0:((k.ws.length:Int) == 0)=false:=beq_eq_false_iff_ne.2 h0
   refine I2 rfl ?_
   simp only[Tryd.ntmps13,List.size_toArray,List.length_cons,List.length_nil,Nat.reduceAdd,Nat.reduceSub,Array.replicate_succ,Array.replicate_zero,List.push_toArray,List.append_toArray,List.nil_append,List.cons_append]
   go_wp2
   go_ret
   refine⟨_,rfl,rfl,?_,by simp,fun r hr=>V6 _ _ _ hr⟩
   unfold F5
   rw[B.out]
   exact hX0.out
 by_cases k6:kd=6
 ·subst k6
  rcases wlen.out with h0|h0
  ·have B0:(k.begin ⟨6,a,b,c⟩).2= .inr (true,0,[]):=by simp[Z1.begin,h0]
   have B:Aside _:=B0
   clear B0
   rw[h0]at c1
   refine I2 rfl ?_
   simp only[Tryd.ntmps13,List.size_toArray,List.length_cons,List.length_nil,Nat.reduceAdd,Nat.reduceSub,Array.replicate_succ,Array.replicate_zero,List.push_toArray,List.append_toArray,List.nil_append,List.cons_append]
   go_wp2_with (go_at_call 39;refine(E.out _ _).mono ?_;rintro e u ⟨rfl,hu⟩;have U:Aside (S9 u (w.heap.size+1) (F5 k ⟨6,a,b,c⟩)∧u.heap.size=w.heap.size+2∧∀r,r<w.heap.size→u.heap[r]? =w.heap[r]?):=F.out _ _ _ B.out hu;clear hu)
   go_ret
   exact⟨_,rfl,rfl,U.out⟩
  ·have hq:¬k.ws.length=0:=by omega
   have B0:(k.begin ⟨6,a,b,c⟩).2= .inl ⟨6,0,0,0,0#64,[]⟩:=by simp[Z1.begin,hq]
   have B:Aside _:=B0
   clear B0
   have e0:((k.ws.length:Int) == 0)=false:=beq_eq_false_iff_ne.2 h0
   refine I2 rfl ?_
   simp only[Tryd.ntmps13,List.size_toArray,List.length_cons,List.length_nil,Nat.reduceAdd,Nat.reduceSub,Array.replicate_succ,Array.replicate_zero,List.push_toArray,List.append_toArray,List.nil_append,List.cons_append]
   go_wp2
   go_ret
   refine⟨_,rfl,rfl,?_,by simp,fun r hr=>V6 _ _ _ hr⟩
   unfold F5
   rw[B.out]
   exact hX0.out
 have B0:(k.begin ⟨kd,a,b,c⟩).2= .inr (false,0,[]):=by simp[Z1.begin,k1,k2,k3,k4,k5,k6]
 have B:Aside _:=B0
 clear B0
 have q1:(kd == 1)=false:=beq_eq_false_iff_ne.2 k1
 have q2:(kd == 2)=false:=beq_eq_false_iff_ne.2 k2
 have q3:(kd == 3)=false:=beq_eq_false_iff_ne.2 k3
 have q4:(kd == 4)=false:=beq_eq_false_iff_ne.2 k4
 have q5:(kd == 5)=false:=beq_eq_false_iff_ne.2 k5
 have q6:(kd == 6)=false:=beq_eq_false_iff_ne.2 k6
 refine I2 rfl ?_
 simp only[Tryd.ntmps13,List.size_toArray,List.length_cons,List.length_nil,Nat.reduceAdd,Nat.reduceSub,Array.replicate_succ,Array.replicate_zero,List.push_toArray,List.append_toArray,List.nil_append,List.cons_append]
 go_wp2_with (go_at_call 39;refine(E.out _ _).mono ?_;rintro e u ⟨rfl,hu⟩;have U:Aside (S9 u (w.heap.size+1) (F5 k ⟨kd,a,b,c⟩)∧u.heap.size=w.heap.size+2∧∀r,r<w.heap.size→u.heap[r]? =w.heap[r]?):=F.out _ _ _ B.out hu;clear hu)
 go_ret
 exact⟨_,rfl,rfl,U.out⟩
theorem e0Z:v4 Tryd.prog (fun f=>[12,13,39].contains f) true:=a0B (x:=[]) (fun f h=>by cases h) (by kernel_rfl)
theorem o0h{n:Nat}(hn:n≤65536){c:Frame}{cs:List Frame}{main:Bool}{Stop:Goroutine→World→Prop}(K:∀w',RS (w.heap.size+1) w.heap.size (n8 n) w'→w'.heap.size=w.heap.size+2→(∀r,r<w.heap.size→w'.heap[r]? =w.heap[r]?)→E0 Tryd.prog main F0 Stop (G (c.finish (.tuple #[vP (w.heap.size+1) 0,.bool true])) cs) w'):
 E0 Tryd.prog main F0 Stop (G (Frame.enter Tryd.prog 12 #[vI (n:Nat)] .normal) (c::cs)) w:=by
 refine b0P e0Z Z7 Tryd.func12 rfl (by kernel_rfl) (R:=fun x w'=>x= .tuple #[vP (w.heap.size+1) 0,.bool true]∧RS (w.heap.size+1) w.heap.size (n8 n) w'∧w'.heap.size=w.heap.size+2∧∀r,r<w.heap.size→w'.heap[r]? =w.heap[r]?) (fun τ e=>l0i (w:=retape w τ e) hn) fun v w' τ e hR hg=>?_
 obtain⟨rfl,h1,h2,h3⟩:=hR
 exact K w' ⟨h1.o,h1.ws,h1.ne⟩ h2 h3
theorem l0a{xb wb:Nat}{k:Z1}{o:I6}(h:RS xb wb k w)(hn:k.n≤65536){c:Frame}{cs:List Frame}{main:Bool}{Stop:Goroutine→World→Prop}(K:∀w',S9 w' (w.heap.size+1) (F5 k o)→w'.heap.size=w.heap.size+2→(∀r,r<w.heap.size→w'.heap[r]? =w.heap[r]?)→E0 Tryd.prog main F0 Stop (G (c.finish (vP (w.heap.size+1) 0)) cs) w'):
 E0 Tryd.prog main F0 Stop (G (Frame.enter Tryd.prog 13 #[vP xb 0,opV o] .normal) (c::cs)) w:=by
 refine b0P e0Z Z7 Tryd.func13 rfl (by kernel_rfl) (R:=fun x w'=>x=vP (w.heap.size+1) 0∧S9 w' (w.heap.size+1) (F5 k o)∧w'.heap.size=w.heap.size+2∧∀r,r<w.heap.size→w'.heap[r]? =w.heap[r]?) (fun τ e=>h0Z (w:=retape w τ e) ⟨h.o,h.ws,h.ne⟩ hn) fun v w' τ e hR hg=>?_
 obtain⟨rfl,h1,h2,h3⟩:=hR
 exact K w' h1 h2 h3
end
noncomputable section
variable {cs:List Frame}{main:Bool}{Stop:Goroutine→World→Prop}
variable{F:Fz}{w:World}
theorem i0f:X0 12:=G1 Tryd.func12 rfl rfl
theorem i0g:X0 13:=G1 Tryd.func13 rfl rfl
theorem q0R:Tryd.prog.built 62 []=some #[vI 0,.slice none 0 0]:=by kernel_rfl
@[go_sem] theorem x0F(w:World):(Instr.build 62 #[]).run Tryd.prog w= .ok (.agg #[vI 0,.slice none 0 0]) w:=run_build w _ _ _ q0R
@[go_sem] theorem x02(w:World)(es:Array Event):(Instr.build 62 #[]).events Tryd.prog w es=es:=E4 w es _ _ _ _ Tryd.underlying62 q0R
theorem q0Q:Tryd.prog.built 42 []=some #[vI 0]:=by kernel_rfl
@[go_sem] theorem x0E(w:World):(Instr.build 42 #[]).run Tryd.prog w= .ok (.agg #[vI 0]) w:=run_build w _ _ _ q0Q
@[go_sem] theorem x01(w:World)(es:Array Event):(Instr.build 42 #[]).events Tryd.prog w es=es:=E4 w es _ _ _ _ Tryd.underlying42 q0Q
def J1:Code:=Tryd.f5.body.getD .skip
def u0V:=pC [] J1
def q0y:=pC [zt] J1
def m0q:=pC [zf] J1
def q0C:=pC [zt] m0q
def e0T:=pC [zf,zt,zt] J1
def d0e:=pC [zf] q0C
def y04:=pC [zt] d0e
def g0B:=pC [zf] m0q
def q0z:=pC [zf,zf,zt] J1
def q0D:=pC [zf] g0B
def q0A:=pC [zf,zf,zf,zt] J1
def q0E:=pC [zf] q0D
def g0z:=pC [zf,zf,zf,zf,zt] J1
def j0t:=pC [zf] q0E
def g0A:=pC [zf,zf,zf,zf,zf,zt] J1
def g0C:=pC [zf] j0t
def q0F:=pC [zt] g0C
def q0B:=pC [zf,zf,zf,zf,zf,zf,zt,zt] J1
def m0m:=pC [zf] q0F
def i0c:=pC [zt] m0m
def p6:=pC [zt] i0c
def i0d:=pC [zt] p6
def p9:=pC [zf,zf,zf,zf,zf,zf,zt,zf,zt,zt,zt,zt] J1
def a0u:=pC [zf] i0d
def r9:=pC [zf] p6
def m0n:=pC [zt] r9
def m0r:=pC [zt] m0n
def m0o:=pC [zf,zf,zf,zf,zf,zf,zt,zf,zt,zt,zf,zt,zt,zt] J1
def m0s:=pC [zf] m0r
def N3:=pC [zf,zf,zf,zf,zf,zf,zt,zf,zt,zt,zf,zt,zt,zf,zt] J1
def b0F:=pC [zf] m0s
def y0i:=pC [zt] b0F
def c0g:=pC [zf,zf,zf,zf,zf,zf,zt,zf,zt,zt,zf,zf] J1
def G7:=pC [zf] g0C
def m0p:=pC [zf,zf,zf,zf,zf,zf,zf,zt] J1
theorem s0F:m0m= .block 0 i0c:=by kernel_rfl
theorem o00:i0c= .loop p6:=by kernel_rfl
theorem s0G:m0n= .block 1 m0r:=by kernel_rfl
theorem o01:N3= .region 11 (oC N3) true:=by kernel_rfl
theorem s0H:c0g= .region 9 (oC c0g) false:=by kernel_rfl
theorem k0O(args:Array Value):Frame.enter Tryd.prog 5 args .normal=(Go.Conc.base 5).at {tmps:=args++Array.replicate (61 - args.size) undef,defers:=[]} [.code u0V]:=enter_at args Tryd.func5 rfl
def P5(s:Nat→Value):Array Value:= #[s 0,s 1,s 2,s 3,s 4,s 5,s 6,s 7,s 8,s 9,s 10,s 11,s 12,s 13,s 14,s 15,s 16,s 17,s 18,s 19,s 20,s 21,s 22,s 23,s 24,s 25,s 26,s 27,s 28,s 29,s 30,s 31,s 32,s 33,s 34,s 35,s 36,s 37,s 38,s 39,s 40,s 41,s 42,s 43,s 44,s 45,s 46,s 47,s 48,s 49,s 50,s 51,s 52,s 53,s 54,s 55,s 56,s 57,s 58,s 59,s 60]
theorem x0U{A:Array Value}(h:A.size=61):∃s,A=P5 s:=by
 obtain⟨s,hs,_⟩:=F3 A h
 exact⟨s,hs⟩
theorem y0c{nn:Nat}(hU:Q1 F nn)(hn:nn≤w.heap.size){kd a b c0:Int}
 (h:∀A,D0 61 A [(1,vP w.heap.size 0)]→E0 Tryd.prog main F Stop (G (Frame.enter Tryd.prog 7 #[] .normal) ((bA 5 A [.inRegion (oC e0T) [0,1],.code d0e,.code g0B])::cs)) (w.alloc (.cells #[vI kd,vI a,vI b,vI c0] 44))):
 E0 Tryd.prog main F Stop (G (Frame.enter Tryd.prog 5 #[.agg #[vI kd,vI a,vI b,vI c0]] .normal) cs) w:=by
 rw[k0O]
 walk_nrm
 refine ogW q0y m0q ?_
 simp only[q0y,J1,Tryd.f5,zz,Nat.reduceAdd]
 refine oA hU ?_
 refine oT ?_
 refine ogE<|ogV q0C g0B<|ogW e0T d0e ?_
 simp only[e0T,J1,Tryd.f5,zz,Nat.reduceAdd]
 refine oc k0D #[] ?_
 refine h _ ?_
 exact⟨rfl,rfl,trivial⟩
theorem y0d{nn:Nat}(hU:Q1 F nn)(hn:nn≤w.heap.size){pb:Nat}{A:Array Value}(hA:D0 61 A [(1,vP pb 0)])
 (h:∀A,D0 61 A [(1,vP pb 0),(4,vL (w.heap.size+1) 0 2 2)]→E0 Tryd.prog main F Stop (G (Frame.enter Tryd.prog 12 #[vI 0] .normal) ((bA 5 A [.inRegion (oC g0z) [0,1,2,3,4,5],.code j0t])::cs)) ((w.alloc (.cells #[vI 0,.slice none 0 0] 62)).alloc (.cells #[.pointer none,vP w.heap.size 0] 33))):
 E0 Tryd.prog main F Stop (G ((bA 5 A [.inRegion (oC e0T) [0,1],.code d0e,.code g0B]).finish (.bool true)) cs) w:=by
 obtain⟨s,rfl,h1,_⟩:=v3 P5 hA
 simp only[P5,h1]
 clear h1
 rw[Frame.finish_at]
 simp only[e0T,J1,Tryd.f5,zz,Nat.reduceAdd]
 walk_nrm
 refine oT ?_
 refine ogE<|ogGn .skip<|ogK<|ogW q0z q0D ?_
 simp only[q0z,J1,Tryd.f5,zz,Nat.reduceAdd]
 refine oT ?_
 refine ogE<|ogW q0A q0E ?_
 simp only[q0A,J1,Tryd.f5,zz,Nat.reduceAdd]
 iterate 2 refine oT ?_
 iterate 2 refine oA hU ?_
 refine oT ?_
 refine ogE<|ogW g0z j0t ?_
 simp only[g0z,J1,Tryd.f5,zz,Nat.reduceAdd]
 refine oc i0f #[vI 0] ?_
 refine h _ ?_
 exact⟨rfl,rfl,rfl,trivial⟩
structure OpF(pb:Nat)(kd a b c0:Int)(w:World):Prop where
 f0:w.cell? ⟨pb,0,none⟩=some (vI kd)
 f1:w.cell? ⟨pb,1,none⟩=some (vI a)
 f2:w.cell? ⟨pb,2,none⟩=some (vI b)
 f3:w.cell? ⟨pb,3,none⟩=some (vI c0)
theorem OpF.of{pb:Nat}{kd a b c0:Int}(h:w.heap[pb]? =some (.cells #[vI kd,vI a,vI b,vI c0] 44 (0,0))):OpF pb kd a b c0 w:=⟨(L1 h rfl).1,(L1 h rfl).1,(L1 h rfl).1,(L1 h rfl).1⟩
theorem Q2{w w':World}{b k:Nat}{v:Value}(h:w.cell? ⟨b,k,none⟩=some v)(hs:∀r,r<w.heap.size→w'.heap[r]? =w.heap[r]?):w'.cell? ⟨b,k,none⟩=some v:=by
 rw[← h]
 unfold World.cell?
 rw[hs b (O6 h)]
theorem OpF.grow{w w':World}{pb:Nat}{kd a b c0:Int}(h:OpF pb kd a b c0 w)(hs:∀r,r<w.heap.size→w'.heap[r]? =w.heap[r]?):OpF pb kd a b c0 w':=⟨Q2 h.f0 hs,Q2 h.f1 hs,Q2 h.f2 hs,Q2 h.f3 hs⟩
theorem y0e{pb xb ls:Nat}{kd a b c0:Int}(hs:OpF pb kd a b c0 w){A:Array Value}(hA:D0 61 A [(1,vP pb 0),(4,vL ls 0 2 2)])
 (h:∀A,D0 61 A [(1,vP pb 0),(4,vL ls 0 2 2)]→E0 Tryd.prog main F Stop (G (Frame.enter Tryd.prog 13 #[vP xb 0,.agg #[vI kd,vI a,vI b,vI c0]] .normal) ((bA 5 A [.inRegion (oC g0A) [2,3],.code g0C])::cs)) w):
 E0 Tryd.prog main F Stop (G ((bA 5 A [.inRegion (oC g0z) [0,1,2,3,4,5],.code j0t]).finish (.tuple #[vP xb 0,.bool true])) cs) w:=by
 obtain⟨s,rfl,h1,h4,_⟩:=v3 P5 hA
 simp only[P5,h1,h4]
 clear h1 h4
 have cb0:=hs.f0
 have cb1:=hs.f1
 have cb2:=hs.f2
 have cb3:=hs.f3
 rw[Frame.finish_at]
 simp only[g0z,J1,Tryd.f5,zz,Nat.reduceAdd]
 walk_nrm
 iterate 5 refine oT ?_
 refine ogE<|ogW g0A g0C ?_
 simp only[g0A,J1,Tryd.f5,zz,Nat.reduceAdd]
 refine oT ?_
 (refine oW fun dd K hK=>?_;go_simp;refine hK _ _ ⟨⟨⟨0,i3.refl _ _⟩,fun e he=>by(have hm:=mem_listed he;clear he hK;simp[go_sem,cb0,cb1,cb2,cb3]at hm;rcases hm with rfl|rfl|rfl|rfl<;>exact M0 _ _)⟩,E0.at ?_ dd⟩;clear hK K)
 refine oc i0g #[vP xb 0,.agg #[vI kd,vI a,vI b,vI c0]] ?_
 refine h _ ?_
 exact⟨rfl,rfl,rfl,trivial⟩
theorem y0f{pb ls cb:Nat}{A:Array Value}(hA:D0 61 A [(1,vP pb 0),(4,vL ls 0 2 2)])
 (h:∀A,D0 61 A [(1,vP pb 0),(4,vL ls 0 2 2),(7,vP cb 0),(8,vI (0:Nat))]→E0 Tryd.prog main F Stop (G (bA 5 A [.inRegion (oC p9) [0,1,2,3],.code a0u,.code r9,.inLoop p6,.inBlock 0,.code G7]) cs) w):
 E0 Tryd.prog main F Stop (G ((bA 5 A [.inRegion (oC g0A) [2,3],.code g0C]).finish (vP cb 0)) cs) w:=by
 obtain⟨s,rfl,h1,h4,_⟩:=v3 P5 hA
 simp only[P5,h1,h4]
 clear h1 h4
 rw[Frame.finish_at]
 simp only[g0A,J1,Tryd.f5,zz,Nat.reduceAdd]
 walk_nrm
 refine oT ?_
 refine ogE<|ogV q0F G7<|ogW q0B m0m ?_
 simp only[q0B,J1,Tryd.f5,zz,Nat.reduceAdd]
 refine oT ?_
 refine ogE ?_
 rw[s0F]
 refine K5 ?_
 rw[o00]
 refine ogP<|ogV i0d r9<|ogW p9 a0u ?_
 simp only[p9,J1,Tryd.f5,zz,Nat.reduceAdd]
 refine h _ ?_
 exact⟨rfl,rfl,rfl,rfl,rfl,trivial⟩
theorem y0g{nn:Nat}(hU:Q1 F nn)(hn:nn≤w.heap.size){pb ls cb i:Nat}(hi:i<2){A:Array Value}(hA:D0 61 A [(1,vP pb 0),(4,vL ls 0 2 2),(7,vP cb 0),(8,vI (i:Nat))])
 (h:∀A,D0 61 A [(1,vP pb 0),(4,vL ls 0 2 2),(7,vP cb 0),(8,vI (i:Nat)),(9,vP w.heap.size 0)]→E0 Tryd.prog main F Stop (G (bA 5 A [.code N3,.code b0F,.inBlock 1,.code c0g,.inLoop p6,.inBlock 0,.code G7]) cs) (w.alloc (.cells #[vI 0] 42))):
 E0 Tryd.prog main F Stop (G (bA 5 A [.inRegion (oC p9) [0,1,2,3],.code a0u,.code r9,.inLoop p6,.inBlock 0,.code G7]) cs) w:=by
 obtain⟨s,rfl,h1,h4,h7,h8,_⟩:=v3 P5 hA
 simp only[P5,h1,h4,h7,h8]
 clear h1 h4 h7 h8
 have hd:decide ((i:Int)<2)=true:=by simp;omega
 have hd2:decide (i<2)=true:=by simp;omega
 simp only[p9,J1,Tryd.f5,zz,Nat.reduceAdd]
 iterate 4 refine oT ?_
 refine ogE<|ogYn .skip<|ogK<|ogV m0n c0g ?_
 rw[s0G]
 refine K5<|ogW m0o m0s ?_
 simp only[m0o,J1,Tryd.f5,zz,Nat.reduceAdd]
 refine oT ?_
 refine oA hU ?_
 refine oT ?_
 refine ogE<|ogV N3 b0F ?_
 refine h _ ?_
 exact⟨rfl,rfl,rfl,rfl,rfl,rfl,trivial⟩
theorem s0E{pb ls cb:Nat}{A:Array Value}(hA:D0 61 A [(1,vP pb 0),(4,vL ls 0 2 2),(7,vP cb 0),(8,vI (2:Nat))])(h:∀A,A.getD 2 undef= .bool true→E0 Tryd.prog main F Stop (G {bA 5 A [.code .ret]with mode:=.returning} cs) w):E0 Tryd.prog main F Stop (G (bA 5 A [.inRegion (oC p9) [0,1,2,3],.code a0u,.code r9,.inLoop p6,.inBlock 0,.code G7]) cs) w:=by
 obtain⟨s,rfl,h1,h4,h7,h8,_⟩:=v3 P5 hA
 simp only[P5,h1,h4,h7,h8]
 clear h1 h4 h7 h8
 have hd:decide (((2:Nat):Int)<2)=false:=by simp
 have hd2:decide ((2:Nat)<2)=false:=by simp
 simp only[p9,J1,Tryd.f5,zz,Nat.reduceAdd]
 iterate 4 refine oT ?_
 refine ogE<|ogGn (.exit 0) ?_
 refine G0 rfl (fun d=>stepG_exit rfl) ?_
 refine ogW m0p .ret ?_
 simp only[m0p,J1,Tryd.f5,zz,Nat.reduceAdd]
 refine oT ?_
 refine ogE<|ogX ?_
 exact h _ rfl
theorem y0h{pb ls cb i sb:Nat}(hi:i<2){A:Array Value}(hA:D0 61 A [(1,vP pb 0),(4,vL ls 0 2 2),(7,vP cb 0),(8,vI (i:Nat)),(9,vP sb 0),(54,.bool false),(59,.bool false)])
 (h:∀A,D0 61 A [(1,vP pb 0),(4,vL ls 0 2 2),(7,vP cb 0),(8,vI (i+1:Nat))]→E0 Tryd.prog main F Stop (G (bA 5 A [.inRegion (oC p9) [0,1,2,3],.code a0u,.code r9,.inLoop p6,.inBlock 0,.code G7]) cs) w):
 E0 Tryd.prog main F Stop (G (bA 5 A [.inRegion (oC N3) [29],.code b0F,.inBlock 1,.code c0g,.inLoop p6,.inBlock 0,.code G7]) cs) w:=by
 obtain⟨s,rfl,h1,h4,h7,h8,h9,h54,h59,_⟩:=v3 P5 hA
 simp only[P5,h1,h4,h7,h8,h9,h54,h59]
 clear h1 h4 h7 h8 h9 h54 h59
 have hk64:IntKind.i64.wrap ((i:Int)+1)=(i:Int)+1:=IntWalk.i64_in _ (by omega)
 simp only[N3,J1,Tryd.f5,zz,Nat.reduceAdd]
 refine oT ?_
 refine ogE<|ogGn .skip<|ogK<|ogI ?_
 rw[s0H]
 refine ogR ?_
 simp only[c0g,J1,Tryd.f5,zz,Nat.reduceAdd]
 iterate 3 refine oT ?_
 refine ogE<|ogL<|ogV i0d r9<|ogW p9 a0u ?_
 simp only[p9,J1,Tryd.f5,zz,Nat.reduceAdd]
 refine h _ ?_
 exact⟨rfl,rfl,rfl,rfl,rfl,trivial⟩
structure J7(pb:Nat)(kd a b c0:Int)(ls i:Nat)(xv:Value)(cb sb:Nat)(ok:Bool)(w:World):Prop where
 op:OpF pb kd a b c0 w
 ls:w.cell? ⟨ls,i,none⟩=some xv
 o6:w.cell? ⟨cb,6,none⟩=some (.bool ok)
 o7:w.cell? ⟨cb,7,none⟩=some (vI 0)
 o8:w.cell? ⟨cb,8,none⟩=some (.slice none 0 0)
 st:w.cell? ⟨sb,0,none⟩=some (vI 0)
 no:Z5 xv w
def NAt(w:World)(b:Nat)(ok:Bool):Prop:=w.heap[b]? =some (.cells #[.bool ok,vI 0,.slice none 0 0] 49 (0,0))
section
variable{pb:Nat}{kd a b c0:Int}{ls i:Nat}{xv:Value}{cb sb:Nat}{ok:Bool}
theorem J7.grow{w w':World}(h:J7 pb kd a b c0 ls i xv cb sb ok w)(hs:∀r,r<w.heap.size→w'.heap[r]? =w.heap[r]?):J7 pb kd a b c0 ls i xv cb sb ok w':=⟨h.op.grow hs,Q2 h.ls hs,Q2 h.o6 hs,Q2 h.o7 hs,Q2 h.o8 hs,Q2 h.st hs,h.no.heap hs⟩
theorem J7.at{w:World}(h:J7 pb kd a b c0 ls i xv cb sb ok w)(d:Nat):J7 pb kd a b c0 ls i xv cb sb ok (w.at d):=h.grow fun _ _=>rfl
theorem NAt.grow{w w':World}{q:Nat}(h:NAt w q ok)(hs:∀r,r<w.heap.size→w'.heap[r]? =w.heap[r]?):NAt w' q ok:=(hs q (D4 h)).trans h
theorem NAt.row{w:World}{q:Nat}(h:NAt w q ok):T9 w (some ⟨q,0,none⟩) (b0o [⟨(ok,0,[]),none,0,0⟩]):=⟨fun k x hx=>⟨q,0,rfl,by
 rw[Nat.zero_add]
 exact(L1 h (by simpa [b0o,SA.v,h0w.cells]using hx)).1⟩⟩
end
theorem r0w{ops:Array Oper}{w0:World}{main:Bool}{Z:Act→World→Prop}{pb:Nat}{kd a b c0:Int}{ls i:Nat}{xv:Value}{cb sb:Nat}{ok:Bool}{b1:Nat}{b2:Nat}(ho:ops=(oC N3))(hs:J7 pb kd a b c0 ls i xv cb sb ok w)(hz:w0.heap.size≤w.heap.size)(hold:∀r,r<w0.heap.size→w.heap[r]? =w0.heap[r]?)(h1:NAt w b1 ok)(h2:NAt w b2 ok)(hZ:∀a w d,Z a w→Z a (World.at w d))(K:∀A w',J7 pb kd a b c0 ls i xv cb sb ok w'→w0.heap.size≤w'.heap.size→(∀r,r<w0.heap.size→w'.heap[r]? =w0.heap[r]?)→D0 61 A [(1,vP pb 0),(4,vL ls 0 2 2),(7,vP cb 0),(8,vI (i:Nat)),(9,vP sb 0),(54,.bool false),(59,.bool false)]→Z ⟨A,[]⟩ w')
 {A:Array Value} (hA:D0 61 A [(1,vP pb 0),(4,vL ls 0 2 2),(7,vP cb 0),(8,vI (i:Nat)),(9,vP sb 0),(37,.bool false),(45,vL b1 0 1 1),(50,vL b2 0 1 1)]):E5 Tryd.prog main F0 5 ops (J7 pb kd a b c0 ls i xv cb sb ok) 29 Z 9 #[true,true,true,true,true,true,true,true,true,true,true,true,true,true,true,true,true,true,true,true,false,false,false,false,false,false,false,false,false,false] ⟨A,[]⟩ w:=by
 obtain⟨s,rfl,h1,h4,h7,h8,h9,h37,h45,h50,_⟩:=v3 P5 hA
 simp only[P5,h1,h4,h7,h8,h9,h37,h45,h50]
 clear h1 h4 h7 h8 h9 h37 h45 h50
 have hS:∀u d,J7 pb kd a b c0 ls i xv cb sb ok u→J7 pb kd a b c0 ls i xv cb sb ok (World.at u d):=fun u d h=>h.at d
 subst ho
 simp only[N3,J1,Tryd.f5,zz,Nat.reduceAdd]
 refine K6 (r:=[20]) (by kernel_rfl) (by kernel_rfl) (fun j hj hil=>?_)
 simp only[List.mem_cons,List.not_mem_nil,or_false]at hj
 subst hj
 refine⟨_,rfl,.inr (.inr ⟨rfl,16,#[vL b1 0 1 1,vL b2 0 1 1],fun v w'=>v= .bool true∧w'.heap=w.heap,fun w=>by simp[execOp,Act.eval,resolve,invoke,Deferred.ofValue,callable16.run],fun w=>by simp[execOp,Act.eval,resolve,invoke,Deferred.ofValue,callable16.run,callable16.quiet],fun c cs Stop k=>i0F (xs:=[⟨(ok,0,[]),none,0,0⟩]) (ys:=[⟨(ok,0,[]),none,0,0⟩]) (by simp) rfl h1.row h2.row (fun q hq=>by simp at hq;subst hq;exact⟨⟨rfl,⟨fun k x hx=>by simp at hx⟩⟩,by simp⟩) (fun q hq=>by simp at hq;subst hq;exact⟨rfl,⟨fun k x hx=>by simp at hx⟩⟩) fun w1 e=>k _ _ ⟨rfl,e⟩,?_⟩)⟩
 rintro v w1 ⟨rfl,e1⟩
 have hs1:J7 pb kd a b c0 ls i xv cb sb ok w1:=hs.grow fun r hr=>by rw[e1]
 refine⟨hs1,?_⟩
 have hz1:w0.heap.size≤w1.heap.size:=by rw[e1];exact hz
 have hold1:∀r,r<w0.heap.size→w1.heap[r]? =w0.heap[r]?:=fun r hr=>by rw[e1];exact hold r hr
 clear hs hz hold h1 h2
 have hs:=hs1
 walk_nrm
 refine U0 hS (fun _ _ d h=>hZ _ _ d h) (i:=21) (v:=.bool false) hs rfl rfl (by kernel_rfl) (by kernel_rfl) (by kernel_rfl) (fun u hu=>.inl ⟨rfl,fun d=>⟨by simp[go_sem,execOp,Act.eval],fun e he=>by have hm:=mem_listed he;simp[go_sem,execOp,Act.eval]at hm⟩⟩) ?_
 walk_nrm
 refine U0 hS (fun _ _ d h=>hZ _ _ d h) (i:=22) (v:=.bool false) hs rfl rfl (by kernel_rfl) (by kernel_rfl) (by kernel_rfl) (fun u hu=>.inl ⟨rfl,fun d=>⟨by simp[go_sem,execOp,Act.eval],fun e he=>by have hm:=mem_listed he;simp[go_sem,execOp,Act.eval]at hm⟩⟩) ?_
 walk_nrm
 refine U0 hS (fun _ _ d h=>hZ _ _ d h) (i:=23) (v:=.bool false) hs rfl rfl (by kernel_rfl) (by kernel_rfl) (by kernel_rfl) (fun u hu=>.inl ⟨rfl,fun d=>⟨by simp[go_sem,execOp,Act.eval],fun e he=>by have hm:=mem_listed he;simp[go_sem,execOp,Act.eval]at hm⟩⟩) ?_
 walk_nrm
 refine U0 hS (fun _ _ d h=>hZ _ _ d h) (i:=24) (v:=vP sb 0) hs rfl rfl (by kernel_rfl) (by kernel_rfl) (by kernel_rfl) (fun u hu=>.inl ⟨rfl,fun d=>⟨by simp[go_sem,execOp,Act.eval],fun e he=>by have hm:=mem_listed he;simp[go_sem,execOp,Act.eval]at hm⟩⟩) ?_
 walk_nrm
 refine U0 hS (fun _ _ d h=>hZ _ _ d h) (i:=25) (v:=vP sb 0) hs rfl rfl (by kernel_rfl) (by kernel_rfl) (by kernel_rfl) (fun u hu=>.inl ⟨rfl,fun d=>⟨by simp[go_sem,execOp,Act.eval],fun e he=>by have hm:=mem_listed he;simp[go_sem,execOp,Act.eval]at hm⟩⟩) ?_
 walk_nrm
 refine U0 hS (fun _ _ d h=>hZ _ _ d h) (i:=26) (v:=vP sb 0) hs rfl rfl (by kernel_rfl) (by kernel_rfl) (by kernel_rfl) (fun u hu=>.inl ⟨rfl,fun d=>⟨by simp[go_sem,execOp,Act.eval],fun e he=>by have hm:=mem_listed he;simp[go_sem,execOp,Act.eval]at hm⟩⟩) ?_
 walk_nrm
 refine U0 hS (fun _ _ d h=>hZ _ _ d h) (i:=27) (v:=vI 0) hs rfl rfl (by kernel_rfl) (by kernel_rfl) (by kernel_rfl) (fun u hu=>.inl ⟨rfl,fun d=>⟨by simp[go_sem,execOp,Act.eval,hu.st],fun e he=>by have hm:=mem_listed he;simp[go_sem,execOp,Act.eval,hu.st]at hm;subst hm;exact M0 _ _⟩⟩) ?_
 walk_nrm
 refine U0 hS (fun _ _ d h=>hZ _ _ d h) (i:=28) (v:=.bool false) hs rfl rfl (by kernel_rfl) (by kernel_rfl) (by kernel_rfl) (fun u hu=>.inl ⟨rfl,fun d=>⟨by simp[go_sem,execOp,Act.eval],fun e he=>by have hm:=mem_listed he;simp[go_sem,execOp,Act.eval]at hm⟩⟩) ?_
 walk_nrm
 refine L6 (by kernel_rfl) ?_ _
 refine K _ _ hs hz1 hold1 ?_
 exact⟨rfl,rfl,rfl,rfl,rfl,rfl,rfl,rfl,trivial⟩
theorem p0z{ops:Array Oper}{w0:World}{main:Bool}{Z:Act→World→Prop}{pb:Nat}{kd a b c0:Int}{ls i:Nat}{xv:Value}{cb sb:Nat}{ok:Bool}{b1:Nat}(ho:ops=(oC N3))(hs:J7 pb kd a b c0 ls i xv cb sb ok w)(hz:w0.heap.size≤w.heap.size)(hold:∀r,r<w0.heap.size→w.heap[r]? =w0.heap[r]?)(h1:NAt w b1 ok)(hZ:∀a w d,Z a w→Z a (World.at w d))(K:∀A w',J7 pb kd a b c0 ls i xv cb sb ok w'→w0.heap.size≤w'.heap.size→(∀r,r<w0.heap.size→w'.heap[r]? =w0.heap[r]?)→D0 61 A [(1,vP pb 0),(4,vL ls 0 2 2),(7,vP cb 0),(8,vI (i:Nat)),(9,vP sb 0),(54,.bool false),(59,.bool false)]→Z ⟨A,[]⟩ w')
 {A:Array Value} (hA:D0 61 A [(1,vP pb 0),(4,vL ls 0 2 2),(7,vP cb 0),(8,vI (i:Nat)),(9,vP sb 0),(37,.bool false),(45,vL b1 0 1 1),(49,.agg #[.bool ok,vI 0,.slice none 0 0])]):E5 Tryd.prog main F0 5 ops (J7 pb kd a b c0 ls i xv cb sb ok) 29 Z 10 #[true,true,true,true,true,true,true,true,true,true,true,true,true,true,true,true,true,true,true,false,false,false,false,false,false,false,false,false,false,false] ⟨A,[]⟩ w:=by
 obtain⟨s,rfl,h1,h4,h7,h8,h9,h37,h45,h49,_⟩:=v3 P5 hA
 simp only[P5,h1,h4,h7,h8,h9,h37,h45,h49]
 clear h1 h4 h7 h8 h9 h37 h45 h49
 have hS:∀u d,J7 pb kd a b c0 ls i xv cb sb ok u→J7 pb kd a b c0 ls i xv cb sb ok (World.at u d):=fun u d h=>h.at d
 subst ho
 simp only[N3,J1,Tryd.f5,zz,Nat.reduceAdd]
 refine K6 (r:=[19]) (by kernel_rfl) (by kernel_rfl) (fun j hj hil=>?_)
 simp only[List.mem_cons,List.not_mem_nil,or_false]at hj
 subst hj
 ·refine g03 rfl rfl (fun d K' hK'=>?_)
  go_simp
  refine hK' _ _ ⟨⟨⟨0,L0 K1 (Nat.zero_le _) _⟩,fun e he=>by(have hm:=mem_listed he;simp[go_sem]at hm)⟩,(hs.grow fun r hr=>o0 _ _ hr).at d,?_⟩
  clear hK' K'
  rw[alloc_at']
  refine D9 hS hZ _ _ _ _ ?_ d
  walk_nrm
  refine r0w (by kernel_rfl) (hs.grow fun r hr=>o0 _ _ hr) (by simp;omega) (fun r hr=>(o0 _ _ (by omega)).trans (hold r hr)) (h1.grow (fun r hr=>o0 _ _ hr)) (heap_alloc_new _ _) hZ K ?_
  exact⟨rfl,rfl,rfl,rfl,rfl,rfl,rfl,rfl,rfl,trivial⟩
theorem j0Z{ops:Array Oper}{w0:World}{main:Bool}{Z:Act→World→Prop}{pb:Nat}{kd a b c0:Int}{ls i:Nat}{xv:Value}{cb sb:Nat}{ok:Bool}{b2:Nat}(ho:ops=(oC N3))(hs:J7 pb kd a b c0 ls i xv cb sb ok w)(hz:w0.heap.size≤w.heap.size)(hold:∀r,r<w0.heap.size→w.heap[r]? =w0.heap[r]?)(h2:NAt w b2 ok)(hZ:∀a w d,Z a w→Z a (World.at w d))(K:∀A w',J7 pb kd a b c0 ls i xv cb sb ok w'→w0.heap.size≤w'.heap.size→(∀r,r<w0.heap.size→w'.heap[r]? =w0.heap[r]?)→D0 61 A [(1,vP pb 0),(4,vL ls 0 2 2),(7,vP cb 0),(8,vI (i:Nat)),(9,vP sb 0),(54,.bool false),(59,.bool false)]→Z ⟨A,[]⟩ w')
 {A:Array Value} (hA:D0 61 A [(1,vP pb 0),(4,vL ls 0 2 2),(7,vP cb 0),(8,vI (i:Nat)),(9,vP sb 0),(37,.bool false),(44,.agg #[.bool ok,vI 0,.slice none 0 0]),(50,vL b2 0 1 1)]):E5 Tryd.prog main F0 5 ops (J7 pb kd a b c0 ls i xv cb sb ok) 29 Z 10 #[true,true,true,true,true,true,true,true,true,true,true,true,true,true,false,true,true,true,true,true,false,false,false,false,false,false,false,false,false,false] ⟨A,[]⟩ w:=by
 obtain⟨s,rfl,h1,h4,h7,h8,h9,h37,h44,h50,_⟩:=v3 P5 hA
 simp only[P5,h1,h4,h7,h8,h9,h37,h44,h50]
 clear h1 h4 h7 h8 h9 h37 h44 h50
 have hS:∀u d,J7 pb kd a b c0 ls i xv cb sb ok u→J7 pb kd a b c0 ls i xv cb sb ok (World.at u d):=fun u d h=>h.at d
 subst ho
 simp only[N3,J1,Tryd.f5,zz,Nat.reduceAdd]
 refine K6 (r:=[14]) (by kernel_rfl) (by kernel_rfl) (fun j hj hil=>?_)
 simp only[List.mem_cons,List.not_mem_nil,or_false]at hj
 subst hj
 ·refine g03 rfl rfl (fun d K' hK'=>?_)
  go_simp
  refine hK' _ _ ⟨⟨⟨0,L0 K1 (Nat.zero_le _) _⟩,fun e he=>by(have hm:=mem_listed he;simp[go_sem]at hm)⟩,(hs.grow fun r hr=>o0 _ _ hr).at d,?_⟩
  clear hK' K'
  rw[alloc_at']
  refine D9 hS hZ _ _ _ _ ?_ d
  walk_nrm
  refine r0w (by kernel_rfl) (hs.grow fun r hr=>o0 _ _ hr) (by simp;omega) (fun r hr=>(o0 _ _ (by omega)).trans (hold r hr)) (heap_alloc_new _ _) (h2.grow (fun r hr=>o0 _ _ hr)) hZ K ?_
  exact⟨rfl,rfl,rfl,rfl,rfl,rfl,rfl,rfl,rfl,trivial⟩
theorem w0L{ops:Array Oper}{w0:World}{main:Bool}{Z:Act→World→Prop}{pb:Nat}{kd a b c0:Int}{ls i:Nat}{xv:Value}{cb sb:Nat}{ok:Bool}(ho:ops=(oC N3))(hs:J7 pb kd a b c0 ls i xv cb sb ok w)(hz:w0.heap.size≤w.heap.size)(hold:∀r,r<w0.heap.size→w.heap[r]? =w0.heap[r]?)(hZ:∀a w d,Z a w→Z a (World.at w d))(K:∀A w',J7 pb kd a b c0 ls i xv cb sb ok w'→w0.heap.size≤w'.heap.size→(∀r,r<w0.heap.size→w'.heap[r]? =w0.heap[r]?)→D0 61 A [(1,vP pb 0),(4,vL ls 0 2 2),(7,vP cb 0),(8,vI (i:Nat)),(9,vP sb 0),(54,.bool false),(59,.bool false)]→Z ⟨A,[]⟩ w')
 {A:Array Value} (hA:D0 61 A [(1,vP pb 0),(4,vL ls 0 2 2),(7,vP cb 0),(8,vI (i:Nat)),(9,vP sb 0),(37,.bool false),(44,.agg #[.bool ok,vI 0,.slice none 0 0]),(49,.agg #[.bool ok,vI 0,.slice none 0 0])]):E5 Tryd.prog main F0 5 ops (J7 pb kd a b c0 ls i xv cb sb ok) 29 Z 11 #[true,true,true,true,true,true,true,true,true,true,true,true,true,true,false,true,true,true,true,false,false,false,false,false,false,false,false,false,false,false] ⟨A,[]⟩ w:=by
 obtain⟨s,rfl,h1,h4,h7,h8,h9,h37,h44,h49,_⟩:=v3 P5 hA
 simp only[P5,h1,h4,h7,h8,h9,h37,h44,h49]
 clear h1 h4 h7 h8 h9 h37 h44 h49
 have hS:∀u d,J7 pb kd a b c0 ls i xv cb sb ok u→J7 pb kd a b c0 ls i xv cb sb ok (World.at u d):=fun u d h=>h.at d
 subst ho
 simp only[N3,J1,Tryd.f5,zz,Nat.reduceAdd]
 refine K6 (r:=[14,19]) (by kernel_rfl) (by kernel_rfl) (fun j hj hil=>?_)
 simp only[List.mem_cons,List.not_mem_nil,or_false]at hj
 rcases hj with rfl|rfl
 ·refine g03 rfl rfl (fun d K' hK'=>?_)
  go_simp
  refine hK' _ _ ⟨⟨⟨0,L0 K1 (Nat.zero_le _) _⟩,fun e he=>by(have hm:=mem_listed he;simp[go_sem]at hm)⟩,(hs.grow fun r hr=>o0 _ _ hr).at d,?_⟩
  clear hK' K'
  rw[alloc_at']
  refine D9 hS hZ _ _ _ _ ?_ d
  walk_nrm
  refine p0z (by kernel_rfl) (hs.grow fun r hr=>o0 _ _ hr) (by simp;omega) (fun r hr=>(o0 _ _ (by omega)).trans (hold r hr)) (heap_alloc_new _ _) hZ K ?_
  exact⟨rfl,rfl,rfl,rfl,rfl,rfl,rfl,rfl,rfl,trivial⟩
 ·refine g03 rfl rfl (fun d K' hK'=>?_)
  go_simp
  refine hK' _ _ ⟨⟨⟨0,L0 K1 (Nat.zero_le _) _⟩,fun e he=>by(have hm:=mem_listed he;simp[go_sem]at hm)⟩,(hs.grow fun r hr=>o0 _ _ hr).at d,?_⟩
  clear hK' K'
  rw[alloc_at']
  refine D9 hS hZ _ _ _ _ ?_ d
  walk_nrm
  refine j0Z (by kernel_rfl) (hs.grow fun r hr=>o0 _ _ hr) (by simp;omega) (fun r hr=>(o0 _ _ (by omega)).trans (hold r hr)) (heap_alloc_new _ _) hZ K ?_
  exact⟨rfl,rfl,rfl,rfl,rfl,rfl,rfl,rfl,rfl,trivial⟩
theorem w0M{ops:Array Oper}{w0:World}{main:Bool}{Z:Act→World→Prop}{pb:Nat}{kd a b c0:Int}{ls i:Nat}{xv:Value}{cb sb:Nat}{ok:Bool}{b2:Nat}(ho:ops=(oC N3))(hs:J7 pb kd a b c0 ls i xv cb sb ok w)(hz:w0.heap.size≤w.heap.size)(hold:∀r,r<w0.heap.size→w.heap[r]? =w0.heap[r]?)(hok:Aside (ok=decide (kd=5∨kd=6)))(h2:NAt w b2 ok)(hZ:∀a w d,Z a w→Z a (World.at w d))(K:∀A w',J7 pb kd a b c0 ls i xv cb sb ok w'→w0.heap.size≤w'.heap.size→(∀r,r<w0.heap.size→w'.heap[r]? =w0.heap[r]?)→D0 61 A [(1,vP pb 0),(4,vL ls 0 2 2),(7,vP cb 0),(8,vI (i:Nat)),(9,vP sb 0),(54,.bool false),(59,.bool false)]→Z ⟨A,[]⟩ w')
 {A:Array Value} (hA:D0 61 A [(1,vP pb 0),(4,vL ls 0 2 2),(7,vP cb 0),(8,vI (i:Nat)),(9,vP sb 0),(37,.bool false),(41,xv),(42,vP sb 0),(43,.agg #[vI kd,vI a,vI b,vI c0]),(50,vL b2 0 1 1)]):E5 Tryd.prog main F0 5 ops (J7 pb kd a b c0 ls i xv cb sb ok) 29 Z 11 #[true,true,true,true,true,true,true,true,true,true,true,true,true,false,false,true,true,true,true,true,false,false,false,false,false,false,false,false,false,false] ⟨A,[]⟩ w:=by
 obtain⟨s,rfl,h1,h4,h7,h8,h9,h37,h41,h42,h43,h50,_⟩:=v3 P5 hA
 simp only[P5,h1,h4,h7,h8,h9,h37,h41,h42,h43,h50]
 clear h1 h4 h7 h8 h9 h37 h41 h42 h43 h50
 have hS:∀u d,J7 pb kd a b c0 ls i xv cb sb ok u→J7 pb kd a b c0 ls i xv cb sb ok (World.at u d):=fun u d h=>h.at d
 subst ho
 simp only[N3,J1,Tryd.f5,zz,Nat.reduceAdd]
 refine K6 (r:=[13]) (by kernel_rfl) (by kernel_rfl) (fun j hj hil=>?_)
 simp only[List.mem_cons,List.not_mem_nil,or_false]at hj
 subst hj
 ·refine⟨_,rfl,.inr (.inr ⟨rfl,15,#[xv,vP sb 0,.agg #[vI kd,vI a,vI b,vI c0]],fun v w'=>v= .agg #[.bool ok,vI 0,.slice none 0 0]∧w.heap.size≤w'.heap.size∧∀r,r<w.heap.size→w'.heap[r]? =w.heap[r]?,fun w=>by simp[execOp,Act.eval,resolve,invoke,Deferred.ofValue,callable15.run],fun w=>by simp[execOp,Act.eval,resolve,invoke,Deferred.ofValue,callable15.run,callable15.quiet],fun c cs Stop k=>f0l (o:=⟨kd,a,b,c0⟩) hs.no fun w1 q1 q2=>k _ _ ⟨by rw[hok.out],q1,q2⟩,?_⟩)⟩
  rintro v w1 ⟨rfl,q1,q2⟩
  refine⟨hs.grow q2,?_⟩
  walk_nrm
  refine j0Z (by kernel_rfl) (hs.grow q2) (by omega) (fun r hr=>(q2 r (by omega)).trans (hold r hr)) (h2.grow q2) hZ K ?_
  exact⟨rfl,rfl,rfl,rfl,rfl,rfl,rfl,rfl,rfl,trivial⟩
theorem y0O{ops:Array Oper}{w0:World}{main:Bool}{Z:Act→World→Prop}{pb:Nat}{kd a b c0:Int}{ls i:Nat}{xv:Value}{cb sb:Nat}{ok:Bool}(ho:ops=(oC N3))(hs:J7 pb kd a b c0 ls i xv cb sb ok w)(hz:w0.heap.size≤w.heap.size)(hold:∀r,r<w0.heap.size→w.heap[r]? =w0.heap[r]?)(hok:Aside (ok=decide (kd=5∨kd=6)))(hZ:∀a w d,Z a w→Z a (World.at w d))(K:∀A w',J7 pb kd a b c0 ls i xv cb sb ok w'→w0.heap.size≤w'.heap.size→(∀r,r<w0.heap.size→w'.heap[r]? =w0.heap[r]?)→D0 61 A [(1,vP pb 0),(4,vL ls 0 2 2),(7,vP cb 0),(8,vI (i:Nat)),(9,vP sb 0),(54,.bool false),(59,.bool false)]→Z ⟨A,[]⟩ w')
 {A:Array Value} (hA:D0 61 A [(1,vP pb 0),(4,vL ls 0 2 2),(7,vP cb 0),(8,vI (i:Nat)),(9,vP sb 0),(37,.bool false),(41,xv),(42,vP sb 0),(43,.agg #[vI kd,vI a,vI b,vI c0]),(49,.agg #[.bool ok,vI 0,.slice none 0 0])]):E5 Tryd.prog main F0 5 ops (J7 pb kd a b c0 ls i xv cb sb ok) 29 Z 12 #[true,true,true,true,true,true,true,true,true,true,true,true,true,false,false,true,true,true,true,false,false,false,false,false,false,false,false,false,false,false] ⟨A,[]⟩ w:=by
 obtain⟨s,rfl,h1,h4,h7,h8,h9,h37,h41,h42,h43,h49,_⟩:=v3 P5 hA
 simp only[P5,h1,h4,h7,h8,h9,h37,h41,h42,h43,h49]
 clear h1 h4 h7 h8 h9 h37 h41 h42 h43 h49
 have hS:∀u d,J7 pb kd a b c0 ls i xv cb sb ok u→J7 pb kd a b c0 ls i xv cb sb ok (World.at u d):=fun u d h=>h.at d
 subst ho
 simp only[N3,J1,Tryd.f5,zz,Nat.reduceAdd]
 refine K6 (r:=[13,19]) (by kernel_rfl) (by kernel_rfl) (fun j hj hil=>?_)
 simp only[List.mem_cons,List.not_mem_nil,or_false]at hj
 rcases hj with rfl|rfl
 ·refine⟨_,rfl,.inr (.inr ⟨rfl,15,#[xv,vP sb 0,.agg #[vI kd,vI a,vI b,vI c0]],fun v w'=>v= .agg #[.bool ok,vI 0,.slice none 0 0]∧w.heap.size≤w'.heap.size∧∀r,r<w.heap.size→w'.heap[r]? =w.heap[r]?,fun w=>by simp[execOp,Act.eval,resolve,invoke,Deferred.ofValue,callable15.run],fun w=>by simp[execOp,Act.eval,resolve,invoke,Deferred.ofValue,callable15.run,callable15.quiet],fun c cs Stop k=>f0l (o:=⟨kd,a,b,c0⟩) hs.no fun w1 q1 q2=>k _ _ ⟨by rw[hok.out],q1,q2⟩,?_⟩)⟩
  rintro v w1 ⟨rfl,q1,q2⟩
  refine⟨hs.grow q2,?_⟩
  walk_nrm
  refine w0L (by kernel_rfl) (hs.grow q2) (by omega) (fun r hr=>(q2 r (by omega)).trans (hold r hr))  hZ K ?_
  exact⟨rfl,rfl,rfl,rfl,rfl,rfl,rfl,rfl,rfl,trivial⟩
 ·refine g03 rfl rfl (fun d K' hK'=>?_)
  go_simp
  refine hK' _ _ ⟨⟨⟨0,L0 K1 (Nat.zero_le _) _⟩,fun e he=>by(have hm:=mem_listed he;simp[go_sem]at hm)⟩,(hs.grow fun r hr=>o0 _ _ hr).at d,?_⟩
  clear hK' K'
  rw[alloc_at']
  refine D9 hS hZ _ _ _ _ ?_ d
  walk_nrm
  refine w0M (by kernel_rfl) (hs.grow fun r hr=>o0 _ _ hr) (by simp;omega) (fun r hr=>(o0 _ _ (by omega)).trans (hold r hr)) hok (heap_alloc_new _ _) hZ K ?_
  exact⟨rfl,rfl,rfl,rfl,rfl,rfl,rfl,rfl,rfl,rfl,rfl,trivial⟩
theorem u0U{pb:Nat}{kd a b c0:Int}{ls i:Nat}{xv:Value}{cb sb:Nat}{ok:Bool}(hi:i<2)(hs:J7 pb kd a b c0 ls i xv cb sb ok w)(hok:Aside (ok=decide (kd=5∨kd=6))){A:Array Value}(hA:D0 61 A [(1,vP pb 0),(4,vL ls 0 2 2),(7,vP cb 0),(8,vI (i:Nat)),(9,vP sb 0)])
 (h:∀A w',J7 pb kd a b c0 ls i xv cb sb ok w'→w.heap.size≤w'.heap.size→(∀r,r<w.heap.size→w'.heap[r]? =w.heap[r]?)→D0 61 A [(1,vP pb 0),(4,vL ls 0 2 2),(7,vP cb 0),(8,vI (i:Nat)),(9,vP sb 0),(54,.bool false),(59,.bool false)]→E0 Tryd.prog main F0 Stop (G (bA 5 A [.inRegion (oC N3) [29],.code b0F,.inBlock 1,.code c0g,.inLoop p6,.inBlock 0,.code G7]) cs) w'):
 E0 Tryd.prog main F0 Stop (G (bA 5 A [.code N3,.code b0F,.inBlock 1,.code c0g,.inLoop p6,.inBlock 0,.code G7]) cs) w:=by
 obtain⟨s,rfl,h1,h4,h7,h8,h9,_⟩:=v3 P5 hA
 simp only[P5,h1,h4,h7,h8,h9]
 clear h1 h4 h7 h8 h9
 have hS:∀u d,J7 pb kd a b c0 ls i xv cb sb ok u→J7 pb kd a b c0 ls i xv cb sb ok (World.at u d):=fun u d h=>h.at d
 have hi2:(i:Int)<2:=by omega
 rw[o01]
 refine B8 (J7 pb kd a b c0 ls i xv cb sb ok) (last:=29) K2 (Q6 (by kernel_rfl)) (by decide) ?_
 simp only[N3,J1,Tryd.f5,zz,Nat.reduceAdd]
 refine tkC 0 (vL ls 0 2 2) hS hs ?_
 walk_nrm
 refine tkC 1 (vI (i:Nat)) hS hs ?_
 walk_nrm
 refine c0E 2 (vP ls i) (fun u hu=>(And.intro hi hi2)) hS hs ?_
 walk_nrm
 refine i0P 3 xv (fun u hu=>hu.ls) hS hs ?_
 walk_nrm
 refine K6 (r:=[4]) (by kernel_rfl) (by kernel_rfl) (fun j hj hil=>?_)
 simp only[List.mem_cons,List.not_mem_nil,or_false]at hj
 subst hj
 refine⟨_,rfl,.inr (.inr ⟨rfl,17,#[xv],fun v w'=>v=vI 0∧w'=w,fun w=>by simp[execOp,Act.eval,resolve,invoke,Deferred.ofValue,callable17.run],fun w=>by simp[execOp,Act.eval,resolve,invoke,Deferred.ofValue,callable17.run,callable17.quiet],fun c cs Stop k=>c0L hs.no (k _ _ ⟨rfl,rfl⟩),?_⟩)⟩
 rintro v w1 ⟨rfl,e1⟩
 subst e1
 refine⟨hs,?_⟩
 walk_nrm
 refine tkC 5 (.bool false) hS hs ?_
 walk_nrm
 refine tkC 6 (.bool false) hS hs ?_
 walk_nrm
 refine tkC 7 (vL ls 0 2 2) hS hs ?_
 walk_nrm
 refine tkC 8 (vI (i:Nat)) hS hs ?_
 walk_nrm
 refine c0E 9 (vP ls i) (fun u hu=>(And.intro hi hi2)) hS hs ?_
 walk_nrm
 refine i0P 10 xv (fun u hu=>hu.ls) hS hs ?_
 walk_nrm
 refine tkC 11 (vP sb 0) hS hs ?_
 walk_nrm
 refine i0P 12 (.agg #[vI kd,vI a,vI b,vI c0]) (fun u hu=>(And.intro hu.op.f0 (And.intro hu.op.f1 (And.intro hu.op.f2 hu.op.f3)))) hS hs ?_
 walk_nrm
 refine tkC 15 (vP cb 0) hS hs ?_
 walk_nrm
 refine tkC 16 (vP cb 0) hS hs ?_
 walk_nrm
 refine tkC 17 (vP cb 6) hS hs ?_
 walk_nrm
 refine i0P 18 (.agg #[.bool ok,vI 0,.slice none 0 0]) (fun u hu=>(And.intro hu.o6 (And.intro hu.o7 hu.o8))) hS hs ?_
 walk_nrm
 refine y0O (w0:=w1) (by kernel_rfl) hs (Nat.le_refl _) (fun _ _=>rfl) hok (fun _ _ d h=>h.at d) (fun A w' k1 k2 k3 k4=>h A w' k1 k2 k3 k4) ?_
 exact⟨rfl,rfl,rfl,rfl,rfl,rfl,rfl,rfl,rfl,rfl,rfl,trivial⟩
end
section
variable{An:O2}{w w' w0:World}
theorem u0L(o:I6)(k:Z1)(h:k.ws.length=0)(hn:k.n=0):(F5 k o).ok=decide (o.kd=5∨o.kd=6)∧(F5 k o).n=0∧(F5 k o).l= .slice none 0 0:=by
 obtain⟨kd,a,b,c⟩:=o
 by_cases h1:kd=1∨kd=2∨kd=3
 ·have ha:a<0∨(0:Int)≤a:=by omega
  have e:(k.begin ⟨kd,a,b,c⟩).2= .inr (false,0,[]):=by
   unfold Z1.begin
   rw[if_pos h1,hn]
   simp only[Int.natCast_zero,Int.ofNat_zero]
   rw[if_pos ha]
  unfold F5
  rw[e]
  refine⟨?_,rfl,rfl⟩
  have:¬(kd=5∨kd=6):=by omega
  simp[this]
 by_cases h4:kd=4
 ·subst h4
  simp[F5,Z1.begin,h]
 by_cases h5:kd=5∨kd=6
 ·have e:(k.begin ⟨kd,a,b,c⟩).2= .inr (true,0,[]):=by
   unfold Z1.begin
   rw[if_neg h1,if_neg h4,if_pos h5,if_pos h]
  unfold F5
  rw[e]
  exact⟨by simp[h5],rfl,rfl⟩
 ·have e:(k.begin ⟨kd,a,b,c⟩).2= .inr (false,0,[]):=by
   unfold Z1.begin
   rw[if_neg h1,if_neg h4,if_neg h5]
  unfold F5
  rw[e]
  exact⟨by simp[h5],rfl,rfl⟩
structure NlW(pb:Nat)(o:I6)(ls:Nat)(cb:Nat)(ok:Bool)(w:World):Prop where
 op:OpF pb o.kd o.a o.b o.c w
 l0:w.cell? ⟨ls,0,none⟩=some (.pointer none)
 l1:∃zb,w.cell? ⟨ls,1,none⟩=some (vP zb 0)∧w.cell? ⟨zb,0,none⟩=some (vI 0)∧w.cell? ⟨zb,1,none⟩=some (.slice none 0 0)
 o6:w.cell? ⟨cb,6,none⟩=some (.bool ok)
 o7:w.cell? ⟨cb,7,none⟩=some (vI 0)
 o8:w.cell? ⟨cb,8,none⟩=some (.slice none 0 0)
theorem NlW.grow{pb:Nat}{o:I6}{ls cb:Nat}{ok:Bool}(h:NlW pb o ls cb ok w)(hs:∀r,r<w.heap.size→w'.heap[r]? =w.heap[r]?):NlW pb o ls cb ok w':=by
 obtain⟨zb,a,b,c⟩:=h.l1
 exact⟨h.op.grow hs,Q2 h.l0 hs,⟨zb,Q2 a hs,Q2 b hs,Q2 c hs⟩,Q2 h.o6 hs,Q2 h.o7 hs,Q2 h.o8 hs⟩
theorem d0W{pb:Nat}{o:I6}{ls cb:Nat}{ok:Bool}(hok:ok=decide (o.kd=5∨o.kd=6)){cs:List Frame}{main:Bool}{Stop:Goroutine→World→Prop}
 (K:∀A w',A.getD 2 undef= .bool true→w0.heap.size≤w'.heap.size→(∀r,r<w0.heap.size→w'.heap[r]? =w0.heap[r]?)→E0 Tryd.prog main F0 Stop (G {bA 5 A [.code .ret]with mode:=.returning} cs) w'):
 ∀(n i:Nat) (w:World) (A:Array Value),i+n=2→NlW pb o ls cb ok w→w0.heap.size≤w.heap.size→(∀r,r<w0.heap.size→w.heap[r]? =w0.heap[r]?)→D0 61 A [(1,vP pb 0),(4,vL ls 0 2 2),(7,vP cb 0),(8,vI (i:Nat))]→E0 Tryd.prog main F0 Stop (G (bA 5 A [.inRegion (oC p9) [0,1,2,3],.code a0u,.code r9,.inLoop p6,.inBlock 0,.code G7]) cs) w:=by
 intro n
 induction n with
 | zero=>
   intro i w A hi h hz ho hA
   obtain rfl:i=2:=by omega
   exact s0E hA fun A hA=>K A w hA hz ho
 | succ n ih=>
   intro i w A hi h hz ho hA
   refine y0g K1 (Nat.zero_le _) (by omega) hA fun A hA=>?_
   have hs:∀r,r<w.heap.size→(w.alloc (.cells #[vI 0] 42)).heap[r]? =w.heap[r]?:=fun r hr=>o0 _ _ hr
   have hsz:(w.alloc (.cells #[vI 0] 42)).heap.size=w.heap.size+1:=by simp
   have hst:(w.alloc (.cells #[vI 0] 42)).cell? ⟨w.heap.size,0,none⟩=some (vI 0):=(L1 (heap_alloc_new _ _) rfl).1
   generalize w.alloc (.cells #[vI 0] 42)=W at hs hsz hst ⊢
   have h1:=h.grow hs
   obtain⟨xv,hx,hno⟩:∃xv,W.cell? ⟨ls,i,none⟩=some xv∧Z5 xv W:=by
    have:i=0∨i=1:=by omega
    rcases this with rfl|rfl
    ·exact⟨_,h1.l0,.inl rfl⟩
    ·obtain⟨zb,a,b,c⟩:=h1.l1
     exact⟨_,a,.inr ⟨zb,rfl,b,c⟩⟩
   refine u0U (xv:=xv) (by omega) ⟨h1.op,hx,h1.o6,h1.o7,h1.o8,hst,hno⟩ hok hA fun A w2 h2 hz2 ho2 hA=>?_
   refine y0h (by omega) hA fun A hA=>?_
   exact ih (i+1) w2 A (by omega) (h1.grow ho2) (by omega) (fun r hr=>(ho2 r (by omega)).trans ((hs r (by omega)).trans (ho r hr))) hA
theorem l03{o:I6}(hg:e0d w):Bes An Tryd.prog (i0U An (f0t w)) (G (Frame.enter Tryd.prog 5 #[opV o] .normal) []) w:=by
 refine W5 (F:=F0) (Stop:=fun a u=>∃A F1,a=G (Frame.enter Tryd.prog 7 #[] .normal) (F1 A::[])∧F1=(fun A=>bA 5 A [.inRegion (oC e0T) [0,1],.code d0e,.code g0B])∧D0 61 A [(1,vP w.heap.size 0)]∧u.heap=(w.alloc (.cells #[vI o.kd,vI o.a,vI o.b,vI o.c] 44)).heap)
  (y0c K1 (Nat.zero_le _) fun A hA=>.stop fun d=>⟨A,_,rfl,rfl,hA,rfl⟩) fun a u ⟨A,F1,ha,hF1,hA,hu⟩=>?_
 subst ha
 subst hF1
 have k0:b0m w u:=.of (by rw[hu];simp) fun r hr=>by rw[hu];exact o0 _ _ hr
 have hop:u.heap[w.heap.size]? =some (.cells #[vI o.kd,vI o.a,vI o.b,vI o.c] 44 (0,0)):=by rw[hu];exact heap_alloc_new _ _
 refine k0x (hg.keep k0) fun u1 k1=>?_
 have hop1:=k1.2 _ _ _ _ hop
 have k2:=k0.trans k1
 refine W5 (F:=F0) (Stop:=fun a u=>∃A,a=G {bA 5 A [.code .ret]with mode:=.returning} []∧A.getD 2 undef= .bool true∧∀r,r<u1.heap.size→u.heap[r]? =u1.heap[r]?) ?_ fun a u ⟨A,ha,h6,hk⟩=>by
  subst ha
  exact Bes.stop (n0v (W:=w) Tryd.func5 rfl (by decide) h6 fun r c e z h=>(hk r (Array.getElem?_eq_some_iff.1 (k2.2 _ _ _ _ h)).1).trans (k2.2 _ _ _ _ h))
 refine y0d K1 (Nat.zero_le _) hA fun A hA=>?_
 have hs1:∀r,r<u1.heap.size→((u1.alloc (.cells #[vI 0,.slice none 0 0] 62)).alloc (.cells #[.pointer none,vP u1.heap.size 0] 33)).heap[r]? =u1.heap[r]?:=fun r hr=>V6 _ _ _ hr
 have hz1:((u1.alloc (.cells #[vI 0,.slice none 0 0] 62)).alloc (.cells #[.pointer none,vP u1.heap.size 0] 33)).heap.size=u1.heap.size+2:=c0z _ _ _
 have hb0:((u1.alloc (.cells #[vI 0,.slice none 0 0] 62)).alloc (.cells #[.pointer none,vP u1.heap.size 0] 33)).heap[u1.heap.size]? =some (.cells #[vI 0,.slice none 0 0] 62 (0,0)):=by
  rw[o0 _ _ (by simp)];exact heap_alloc_new _ _
 have hb1:((u1.alloc (.cells #[vI 0,.slice none 0 0] 62)).alloc (.cells #[.pointer none,vP u1.heap.size 0] 33)).heap[u1.heap.size+1]? =some (.cells #[.pointer none,vP u1.heap.size 0] 33 (0,0)):=f0X _ _ _ _
 generalize (u1.alloc (.cells #[vI 0,.slice none 0 0] 62)).alloc (.cells #[.pointer none,vP u1.heap.size 0] 33)=W at hs1 hz1 hb0 hb1 ⊢
 refine o0h (n:=0) (by omega) fun w2 r1 z1 o1=>?_
 have hopW:W.heap[w.heap.size]? =_:=(hs1 _ (D4 hop1)).trans hop1
 have hop2:w2.heap[w.heap.size]? =_:=(o1 _ (D4 hopW)).trans hopW
 refine y0e (OpF.of hop2) hA fun A hA=>?_
 refine l0a (o:=o) r1 (by simp[n8]) fun w3 c3 z3 o3=>?_
 refine y0f hA fun A hA=>?_
 obtain⟨e6,e7,e8⟩:=u0L o (n8 0) (by simp[n8]) rfl
 have ho3:∀r,r<W.heap.size→w3.heap[r]? =W.heap[r]?:=fun r hr=>(o3 r (by omega)).trans (o1 r hr)
 have c6:=(L1 c3 (j:=6) rfl).1
 have c7:=(L1 c3 (j:=7) rfl).1
 have c8:=(L1 c3 (j:=8) rfl).1
 rw[e6]at c6
 rw[e7]at c7
 rw[e8]at c8
 have hb0':=(ho3 _ (D4 hb0)).trans hb0
 have hb1':=(ho3 _ (D4 hb1)).trans hb1
 have hop3:=(o3 _ (D4 hop2)).trans hop2
 refine d0W (o:=o) (ok:=decide (o.kd=5∨o.kd=6)) (w0:=u1) rfl (fun A w' h1 h2 h3=>.stop fun d=>⟨A,rfl,h1,h3⟩) 2 0 w3 A rfl ⟨.of hop3,(L1 hb1' rfl).1,⟨_,(L1 hb1' rfl).1,(L1 hb0' rfl).1,(L1 hb0' rfl).1⟩,c6,c7,c8⟩ (by omega) (fun r hr=>(ho3 r (by omega)).trans (hs1 r hr)) hA
end
section
open Go Go.Conc Go.ChangeShapes
section
variable{H:Type}{enc:TypeId×Value→H}
end
theorem a0G{p:Pinned}{s:OpenSpec}{c:OpenClaim}(f:FuncId)(fn:Func)
 (hn:c.program=p.name) (hs:c.sum=p.sum) (hsp:c.spec=s.name)
 (hstart:c.start= .entering) (hout:c.outside=[]) (hin:c.inits=[]) (hun:c.under=none) (hi4:c.initsInPlace=[]∧c.initsUnfollowed=false∧c.initsRecurse=false∧c.initsNamed=[]∧c.initsPassed=[]) (hnb:c.noBlocks=false) (hlv:c.leaving=true) (hfo:c.followed=none) (hnar:c.narrowed=s.cond.isSome) (hstill:c.still=false)
 (hfn:p.checked.prog.funcNamed c.func=some f) (hf:p.checked.prog.funcs[f]? =some fn)
 (closed:joinedFacts p.checked.prog f fn s.bare c=true)
 (hinst:fn.isInstance p.checked.prog c.origin c.targs) (hwrap:fn.isWrapper p.checked.prog c.wrapper c.mainSum)
 (h:∀os:Os,os.Started→∀(H:Type) (enc:TypeId×Value→H),(∀a b,enc a=enc b→a=b)→∀F:Stop.Interp,
   ReturnsInLeavingWide c.assume p.checked os f .any (c.pre enc p.checked.prog fn s) ((s.at F).post enc p.checked.prog fn c.apart c.fresh c.handsOn c.again)):c.holds p s:=by
 simp only[joinedFacts,Bool.and_eq_true,beq_iff_eq,Array.all_eq_true_iff_forall_mem,List.all_eq_true,decide_eq_true_eq]at closed
 obtain⟨⟨⟨⟨⟨⟨⟨⟨⟨⟨⟨⟨⟨⟨⟨⟨⟨⟨⟨⟨⟨⟨⟨⟨⟨⟨⟨⟨⟨⟨⟨k1,k2⟩,k3⟩,k4⟩,k5⟩,k6⟩,k7⟩,k8⟩,k9⟩,k10⟩,k11⟩,k12⟩,k13⟩,k14⟩,k15⟩,k16⟩,k17⟩,k17b⟩,k18⟩,k19⟩,k20⟩,k21⟩,k22⟩,k23⟩,k23b⟩,k24⟩,k24b⟩,k24c⟩,k25⟩,k26⟩,k27⟩,k28⟩:=closed
 have hq:∀os:Os,Stop.quiet p.checked.prog os:=fun os k hk=>by rw[k9]at hk;cases hk
 refine⟨k1,hn,hs,hsp,k2,k3,by unfold OpenClaim.startFits;rw[hstart];exact k24,by unfold OpenClaim.startTold;rw[hstart];exact⟨hin,hun,hi4⟩,f,fn,hfn,hf,⟨k4,k19⟩,(fun hb=>by rw[hnb]at hb;cases hb),by unfold OpenClaim.namedList;rw[hfo];exact k5,hinst,hwrap,
  k6.trans k7.symm,⟨k8.trans k9.symm,by unfold Program.envWorded;rw[k9];rfl,k23b⟩,k10,k11,k12,k13,k14,⟨k15,k27,k28⟩,⟨k16,k20⟩,⟨k17,k21,k25,k26⟩,⟨k22,k24b,k24c,k17b⟩,(by rw[hout,hnar];cases hsh:c.shortTexts with|none=>simp|some _=>rw[hsh]at k23;cases k23),fun n hn'=>varReadable_some (k18 n hn'),
  ⟨_,by unfold OpenClaim.world;rw[hout,hstart];exact WideRow.started_initial,hq _⟩,[],by unfold OpenClaim.lists;rw[hfo],fun os st _ H enc inj=>?_⟩
 have st':os.Started:=by unfold OpenClaim.world at st;rw[hout,hstart]at st;exact st
 rw[OpenClaim.post_not_still hstill]
 unfold OpenClaim.form
 rw[hstart,k6]
 intro F
 have e1:c.okInput=Input.okWide:=by unfold OpenClaim.okInput;rw[hnb]
 have e2:c.atReturn p.checked.prog=leavingAtReturn p.checked.prog:=by unfold OpenClaim.atReturn;rw[hlv]
 have e3:c.always p.checked.prog []=nothingAlways:=by unfold OpenClaim.always;rw[hfo]
 have e4:s.post enc p.checked.prog fn F c.outside c.apart c.fresh c.handsOn c.again=(s.at F).post enc p.checked.prog fn c.apart c.fresh c.handsOn c.again:=by rw[hout];rfl
 rw[e1,e2,e3]
 show ReturnsInOpen _ _ _ _ _ _ _ _ (s.post enc p.checked.prog fn F c.outside c.apart c.fresh c.handsOn c.again) _ _
 rw[e4]
 exact h os st' H enc inj F k24
end
noncomputable section
open Go.ChangeShapes Go.WideShapes Go.ChangeAt
set_option maxRecDepth 100000
section
variable{H:Type}{enc:TypeId×Value→H}
theorem d0F{a:Assume}{C:Checked}{os:Os}{f:FuncId}{fn:Func}{s:OpenSpec}{F:Stop.Interp}{conds:List PathCond}{apart fresh handsOn again:Bool}{laid:List (String×DataW Unit)}
 (own:ownKnob C.prog.godebug=none) (started:os.Started) (hfn:C.prog.funcs[f]? =some fn)
 (witness:∃(w:World) (tape:Tape) (i:Input),w.os=os∧(w.forCall tape i).Shaped C.prog∧i.vars=[]∧Input.okWide C.prog (w.forCall tape i) .any w.heap.size f i∧
   s.preRow enc C.prog fn conds apart laid (w.forCall tape i).memory i.args∧a.holds C.prog (lone (Frame.enter C.prog f i.args .normal) [] (w.forCall tape i)))
 (runs:∀(W:World) (base:Nat) (args:Array Value) (ds gs:List (DataW H)) (before:List MemPlace),
   (∀(j:Nat) t v,fn.params[j]? =some t→args[j]? =some v→Value.okWide C.prog W .any base t v)→
   DataW.Whole enc C.prog fn.params.toList s.vars apart W args.toList ds gs before→
   (∀k,s.cond=some k→k H (ds++gs)=true)→
   laidMetH C.prog laid W→
   a.holds C.prog (lone (Frame.enter C.prog f args .normal) [] W)→
   ∃M last o w' t',runNT C.prog (M+1) (solo (G (Frame.enter C.prog f args .normal) []) W) #[]=(.ended o w',t')∧runN C.prog M (solo (G (Frame.enter C.prog f args .normal) []) W)= .next last∧
    step C.prog last= .ended o w'∧Conc.Good C.prog (fun v W'=>(s.at F).post enc C.prog fn apart fresh handsOn again W args v W') last o w' t'):
 ReturnsInLeavingWide a C os f .any (s.preRow enc C.prog fn conds apart laid) ((s.at F).post enc C.prog fn apart fresh handsOn again):=by
 refine returnsInLeavingWide_of_good own started witness ?_
 intro w tape i _ _ _ hok hpre hholds
 obtain⟨_,_,_,fn',hfn',_,_,_,_,hval⟩:=hok
 have e:fn'=fn:=Option.some.inj (hfn'.symm.trans hfn)
 subst e
 obtain⟨⟨hp,hl⟩,_⟩:=hpre
 obtain⟨ds,gs,before,hw,_,hk⟩:=OpenSpec.pre_parts hp
 have hw':=DataW.Whole.of_heap (w':=w.forCall tape i) (by rfl) hw
 obtain⟨M,last,o,w',t',h1,h2,h3,h4⟩:=runs (w.forCall tape i) w.heap.size i.args ds gs before hval hw' hk (hl.of_heap (by rfl)) hholds
 exact⟨M,last,o,w',t',h1,h2,h3,h4.mono fun v hp=>ChangeSpec.post_blind hp⟩
end
theorem w0A : Tryd.prog.globalNamed "math/bits.deBruijn64tab" = some 0 := by kernel_rfl
theorem n0i:(Tryd.prog.globals[0]?).map (·.type)=some 145:=by kernel_rfl
theorem m0K:Tryd.prog.cellsOf 145=64:=by kernel_rfl
theorem o04:Tryd.prog.cellsOf 5=1:=by kernel_rfl
theorem y0Y{W:World}(h:laidMetH Tryd.prog Rows.bitsNilRow.laid W):e0d W:=by
 have ht : Lib.TabIs Tryd.prog W "math/bits.deBruijn64tab" .u8 (deB.map fun n : Nat => (n : Int)) := Lib.tabIs_of_head (rest := []) w0A n0i Tryd.underlying145 Tryd.underlying5 o04 m0K h
 have hc:∀k,k<64→W.cell? ⟨0,k,none⟩=some (.int .u8 ((deB.getD k 0:Nat):Int)):=fun k hk=>by
  have:=ht.cell w0A k (by rw[List.length_map];exact hk)
  rw[this]
  congr 2
  have hl:k<deB.length:=hk
  simp[List.getD_eq_getElem?_getD,hl]
 obtain⟨c,e,z,h0⟩:=X4 (hc 0 (by omega))
 refine⟨c,e,z,h0,fun k hk=>?_⟩
 have:=hc k hk
 have h0:W.heap[0]? =some (.cells c e z):=h0
 simpa [World.cell?,h0]using this
theorem a01{W:World}{r:Reach}{base:Nat}{t:TypeId}{v:Value}{k:IntKind}(ht:Tryd.prog.underlying t=some (.int k))(h:Cell.okWide Tryd.prog W r base t v):∃n,v= .int k n:=by
 simp only[Cell.okWide,ht]at h
 cases v<;>simp_all [Cell.ok]
theorem w0O{W:World}{base:Nat}{v:Value}(h:Value.okWide Tryd.prog W .any base 44 v):∃o:I6,v=opV o:=by
 simp only[Value.okWide,Tryd.underlying44]at h
 obtain⟨cs,rfl,hsz,ts,hts,_,hc⟩:=h
 rw[show Tryd.prog.cellsOf 44=4 by kernel_rfl]at hsz
 rw[show Tryd.prog.cellTypes Tryd.prog.depth 44=some [3,2,2,2]by kernel_rfl]at hts
 cases hts
 obtain⟨a,b,c,d,rfl⟩:∃a b c d,cs= #[a,b,c,d]:=by
  obtain⟨l⟩:=cs
  match l,hsz with
  | [a,b,c,d],_=>exact⟨a,b,c,d,rfl⟩
 obtain⟨u0,e0,h0⟩:=hc 0 a rfl
 obtain⟨u1,e1,h1⟩:=hc 1 b rfl
 obtain⟨u2,e2,h2⟩:=hc 2 c rfl
 obtain⟨u3,e3,h3⟩:=hc 3 d rfl
 cases e0;cases e1;cases e2;cases e3
 obtain⟨n0,rfl⟩:=a01 Tryd.underlying3 h0
 obtain⟨n1,rfl⟩:=a01 Tryd.underlying2 h1
 obtain⟨n2,rfl⟩:=a01 Tryd.underlying2 h2
 obtain⟨n3,rfl⟩:=a01 Tryd.underlying2 h3
 exact⟨⟨n0,n1,n2,n3⟩,rfl⟩
def b0N(os:Os):World:=
 {World.holding Tryd.prog os ⟨#[],#[],[]⟩with heap:=(World.holding Tryd.prog os ⟨#[],#[],[]⟩).heap.modify 0 fun
  | .cells _ t frozen=>.cells (deB.map fun n:Nat=>Value.int .u8 (n:Int)).toArray t frozen
  | o=>o}
def wArgs:Array Value:= #[.agg #[vI 0,vI 0,vI 0,vI 0]]
theorem n0t(os:Os):laidMet Tryd.prog Rows.bitsNilRow.laid ((b0N os).forCall (fun _ _=>0) ⟨#[],wArgs,[]⟩).memory:=
 laidMet_of_run' 8 (by kernel_rfl) (by kernel_rfl)
theorem x0D(os:Os){H:Type}(enc:TypeId×Value→H):∃places,DataW.whole enc Tryd.prog ((b0N os).forCall (fun _ _=>0) ⟨#[],wArgs,[]⟩).memory Tryd.f5.params.toList Rows.bitsNilSpec.vars false wArgs.toList 8=some ([.agg [.lit (.int .i64 0),.lit (.int .i64 0),.lit (.int .i64 0),.lit (.int .i64 0)]],[],places):=
 ⟨[],by kernel_rfl⟩
theorem g0y(os:Os)(started:os.Started)(H:Type)(enc:TypeId×Value→H)(F:Stop.Interp):
 ReturnsInLeavingWide {} Tryd.checked os 5 .any ((OpenSpec.ofChange Rows.bitsNilSpec).preRow enc Tryd.prog Tryd.f5 Rows.bitsNilRow.domain false Rows.bitsNilRow.laid) (((OpenSpec.ofChange Rows.bitsNilSpec).at F).post enc Tryd.prog Tryd.f5 false true false false):=by
 obtain⟨places,hx⟩:=x0D os enc
 refine d0F (C:=Tryd.checked) (s:=OpenSpec.ofChange Rows.bitsNilSpec) Tryd.own started Tryd.func5
  (witness_row_at (enc:=enc) (C:=Tryd.checked) false (b0N os) wArgs rfl (by kernel_rfl) (by kernel_rfl) (by kernel_rfl)
    (OpenSpec.preRow_of_cond 8 hx (by kernel_rfl) (fun k hk=>by cases hk) (by kernel_rfl) (n0t os))) ?_
 intro W base args ds gs before hval0 hW _ hL _
 have hval:∀(j:Nat) t v,Tryd.f5.params[j]? =some t→args[j]? =some v→Value.okWide Tryd.prog W .any base t v:=hval0
 have hW':=hW
 obtain⟨p,q,hA0,hV,rfl,hfz,_⟩:=hW
 have hA:DataW.TrodAll enc Tryd.prog W 0 (fun _=>true) true Tryd.f5.params.toList args.toList ds p:=hA0
 rw[Tryd.params5]at hA hval
 obtain⟨v0,d0,rfl,rfl,h0⟩:=trodAll_one hA
 obtain⟨rfl,rfl⟩:=trodVars_none hV
 clear hA0 hval0
 simp only[List.append_nil,List.nil_append]at hW' hfz
 have hlt:∀x∈p,x.block<W.heap.size:=fun x hx=>by simpa using hW'.lt x hx
 obtain⟨o,rfl⟩:=w0O (hval 0 44 v0 rfl rfl)
 obtain⟨N,last,o',w',t',g1,g2,g3,g4⟩:=l04 (An:=⟨W.heap.size,W⟩) (Post:=fun v w'=>f0t W v w'∧(⟨W.heap.size,W⟩:O2).Holds w') (W:=W) ⟨rfl,rfl,rfl,Nat.le_refl _,fun r o _ h _=>h⟩ (Bes.bind (l03 (o:=o) (y0Y hL)) fun g w h=>Bes.stop ⟨h.1,fun d=>by
  obtain⟨v,e1,e2⟩:=h.2 d
  exact⟨v,e1,fun hh=>⟨e2 hh,hh⟩⟩⟩)
 refine⟨N,last,o',w',t',g1,g2,g3,g4.mono fun v hF=>?_⟩
 obtain⟨⟨rfl,hk⟩,hh⟩:=hF
 have hbelow:=l02 hh hk
 have r1:=Below.trod Tryd.laidOut (by kernel_rfl) (of_decide_eq_true (by kernel_rfl)) h0 hbelow (fun x hx=>hlt x hx)
 refine⟨_,_,_,[],p,[],hW',?_,?_,rfl,hbelow.frame _,fun h=>by cases h⟩
 ·exact trodAll_mk1 (shut_bool Tryd.underlying4 true)
 ·exact trodAll_mk1 r1
theorem f0G:Rows.BitsNilSaid:=
 a0G 5 Tryd.f5 rfl rfl rfl rfl rfl rfl rfl ⟨rfl,rfl,rfl,rfl,rfl⟩ rfl rfl rfl rfl rfl (by kernel_rfl) Tryd.func5 (by kernel_rfl)
  (of_decide_eq_true (by kernel_rfl)) (by unfold Func.isWrapper;first|(rw[if_pos (by decide +kernel)];kernel_rfl)|(rw[if_neg (by decide +kernel)];exact⟨rfl,rfl⟩))
  (fun os started H enc _ F=>by rw[OpenClaim.pre_eq_preRow];exact g0y os started H enc F)
theorem k0F{p:Pinned}{s:OpenSpec}{c:OpenClaim}(kinds:List LaidKind)(tests:Bool)(har:Bool×String)(lk:Bool)
 (hc:c.holds p s) (hw:c.wfByText s=true) (htie:c.laidByTextAt .later p kinds tests)
 (hst:c.start= .entering) (hnb:c.noBlocks=false∧c.again=false) (hm:p.checked.prog.mainIs=some (har.1,har.2.toList)) (hn:(!har.1 && har.2.isEmpty && !lk)=false)
 (hl:∀f fn,p.checked.prog.funcNamed c.func=some f→p.checked.prog.funcs[f]? =some fn→lk=p.checked.prog.looks []∧∀(j:Nat) t,fn.params[j]? =some t→p.checked.prog.wantsStandIn t=false)
 (hg:true=c.goesBy p.checked.prog):
 Claim7.holds p (.plain s) {stood:={row:=c,standIns:=[],harness:=har,looks:=lk},kinds:=[],alts:=[],goes:=true,laidByText:=true,laidKinds:=kinds,laidTests:=tests,laidLooks:=.later}:=by
 have h6:∀r:OpenClaim,Claim7.isSixth {stood:={row:=r,standIns:=[],harness:=har,looks:=lk},kinds:=[]}=false:=fun r=>by simpa [Claim7.isSixth]using hn
 exact⟨Claim7.tied_new_at .later kinds tests (Claim7.new_of_sixth hc har lk hst hnb hm (h6 c) hl) hw,fun D hD=>(by cases hD),htie,(fun h=>by cases h),hg⟩
theorem t04 (f : FuncId) (fn : Func) (hf : Tryd.pinned.checked.prog.funcNamed "carillon/carillonlaw04.BitsNil" = some f) (hfn : Tryd.pinned.checked.prog.funcs[f]? = some fn) :
 true=Tryd.pinned.checked.prog.looks []∧∀(j:Nat) t,fn.params[j]? =some t→Tryd.pinned.checked.prog.wantsStandIn t=false:=by
 obtain rfl : f = 5 := Option.some.inj ((show Tryd.prog.funcNamed "carillon/carillonlaw04.BitsNil" = some 5 by kernel_rfl).symm.trans hf) |>.symm
 obtain rfl:fn=Tryd.f5:=(Option.some.inj (Tryd.func5.symm.trans hfn)).symm
 refine⟨by kernel_rfl,fun j t ht=>?_⟩
 rw[Tryd.params5]at ht
 obtain rfl:t=44:=by simpa using Array.mem_of_getElem? ht
 exact(show Tryd.prog.wantsStandIn 44=false by kernel_rfl)
theorem bitsNil_holds:Rows.BitsNilCardSaid:=
 k0F _ _ _ _ f0G (by kernel_rfl) bitsNil_row_tie rfl ⟨rfl,rfl⟩ (by kernel_rfl) rfl t04 (by kernel_rfl)
end
end Go.Proofs.YtlcgkpapnpdfpaaDoor
