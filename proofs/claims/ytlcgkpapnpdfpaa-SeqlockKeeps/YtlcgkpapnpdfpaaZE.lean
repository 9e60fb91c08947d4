/-
  SeqlockKeeps, where what it reads is of bulk at most 1048576
  Part 5 of 5.
-/
import Derived.Test.YtlcgkpapnpdfpaaZD
import Derived.Test.YtlcgkpapnpdfpaaRows
import Derived.ProofKit
import Derived.JoinedCond
import Derived.Conc.Holds
import Derived.Conc.LeavingOf
set_option linter.unusedSimpArgs false
set_option linter.unusedVariables false
set_option linter.unusedSectionVars false
set_option maxRecDepth 100000
set_option maxHeartbeats 8000000
namespace Go.Proofs.Ytlcgkpapnpdfpaa
open Go Go.Conc Go.RowKit Go.Proofs
section
variable{F:Fz}{w:World}
variable{w' u u' u2 w1:World}
theorem s05:∃i,Try.prog.info? 2=some i∧i.size=1:=by
 obtain⟨i,hi,h⟩:=Option.map_eq_some_iff.1 (show(Try.prog.info? 2).map (·.size)=some 1 by kernel_rfl)
 exact⟨i,hi,h⟩
theorem a0L{es:Array Event}{a:Option Addr}{ol oc m:Nat}(hmc:m≤oc):(Instr.sliceAt 22 (.slice a ol oc) none (some (vI m)) none).events Try.prog w es=es:=by
 obtain⟨i,hi,hs⟩:=s05
 have hu:Try.prog.underlying 22=some (.slice 2):=Try.underlying22
 have hm:(m:Int)≤oc:=by omega
 simp[Instr.sliceAt,Instr.slice,run_underlying hu,Instr.sliceBounds,Instr.sliceBound,asIntOf,run_sliceBound,sizeOf,typeInfo,hi,hs,hmc,hm]
theorem d04{a:Option Addr}{ol oc m:Nat}(hmc:m≤oc):(Instr.sliceAt 22 (.slice a ol oc) none (some (vI m)) none).run Try.prog w= .ok (.slice a m oc) w:=by
 obtain⟨i,hi,hs⟩:=s05
 have hu:Try.prog.underlying 22=some (.slice 2):=Try.underlying22
 have e:a.map (fun x:Addr=>x.add 0)=a:=by
  cases a with
  | none=>rfl
  | some x=>simp[Addr.add]
 have hm:(m:Int)≤oc:=by omega
 simp[Instr.sliceAt,Instr.slice,run_underlying hu,Instr.sliceBounds,run_sliceBound,sizeOf,typeInfo,hi,hs,hmc,hm,e]
theorem s06:∃i,Try.prog.info? 3=some i∧i.size=1:=by
 obtain⟨i,hi,h⟩:=Option.map_eq_some_iff.1 (show(Try.prog.info? 3).map (·.size)=some 1 by kernel_rfl)
 exact⟨i,hi,h⟩
theorem m0a{a:Option Addr}{ol oc m:Nat}(hmc:m≤oc):(Instr.sliceAt 24 (.slice a ol oc) none (some (vI m)) none).run Try.prog w= .ok (.slice a m oc) w:=by
 obtain⟨i,hi,hs⟩:=s06
 have hu:Try.prog.underlying 24=some (.slice 3):=Try.underlying24
 have e:a.map (fun x:Addr=>x.add 0)=a:=by
  cases a with
  | none=>rfl
  | some x=>simp[Addr.add]
 have hm:(m:Int)≤oc:=by omega
 simp[Instr.sliceAt,Instr.slice,run_underlying hu,Instr.sliceBounds,run_sliceBound,sizeOf,typeInfo,hi,hs,hmc,hm,e]
theorem i0z{es:Array Event}{a:Option Addr}{ol oc m:Nat}(hmc:m≤oc):(Instr.sliceAt 24 (.slice a ol oc) none (some (vI m)) none).events Try.prog w es=es:=by
 obtain⟨i,hi,hs⟩:=s06
 have hu:Try.prog.underlying 24=some (.slice 3):=Try.underlying24
 have hm:(m:Int)≤oc:=by omega
 simp[Instr.sliceAt,Instr.slice,run_underlying hu,Instr.sliceBounds,Instr.sliceBound,asIntOf,run_sliceBound,sizeOf,typeInfo,hi,hs,hmc,hm]
theorem s07{An:G3}{P:Program}{F:Fz}{fn:FuncId}{ops:Array Oper}{i:Nat}{o:Oper}{K:Act→World→Prop}{a:Act}{w:World}(ho:ops[i]? =some o)(hw:Region.wanted o (yielded ops a.tmps)=true)
 (h:∀(d:Nat) (K':Act→World→Prop),(∀a' w',H7 F (w.at d) w' (listed P fn a o (w.at d))∧K a' w'→K' a' w')→uponK o a K' ((execOp a.eval o).run P (w.at d))):OpB An P F fn ops i K a w:=
 ⟨o,ho,.inl ⟨hw,fun d=>h d _ fun _ _ x=>x⟩⟩
structure TrS(n:Nat)(ans:Nat→List g8)(state:List Int)(order:List Nat)(aa:Nat)(rows:Nat→Value)(av:Nat→List SA)(ov sv:Value)(w:World):Prop where
 arr:∃c,w.heap[aa]? =some (.cells c 42 (0,0))∧c.size=n∧∀i,i<n→c[i]? =some (rows i)
 row:∀i,i<n→(av i).map SA.an=ans i∧(av i).length≤65536∧w.ownsRow 0 44 3 (rows i) (av i).length (i5 (av i))∧∀a∈av i,SAU a w
 ord:w.ownsRow 0 3 1 ov order.length (order.map fun i:Nat=>Value.int .i64 i)
 st:w.ownsRow 0 2 1 sv state.length (state.map fun v=>vI v)
def TrB(n aa:Nat)(rows:Nat→Value)(av:Nat→List SA)(ov sv:Value)(r:Nat):Prop:=r=aa∨AnX rows av n r∨ov.ownBlock=some r∨sv.ownBlock=some r
section
variable{n:Nat}{ans:Nat→List g8}{state:List Int}{order:List Nat}{aa:Nat}{rows:Nat→Value}{av:Nat→List SA}{ov sv:Value}
theorem TrS.same(h:TrS n ans state order aa rows av ov sv w)(hk:∀r,TrB n aa rows av ov sv r→w'.heap[r]? =w.heap[r]?):TrS n ans state order aa rows av ov sv w':=by
 refine⟨?_,fun i hi=>?_,K0 h.ord fun b hb _=>hk b (.inr (.inr (.inl hb))),K0 h.st fun b hb _=>hk b (.inr (.inr (.inr hb)))⟩
 ·rw[hk aa (.inl rfl)];exact h.arr
 ·obtain⟨h1,h2,h3,h4⟩:=h.row i hi
  exact⟨h1,h2,K0 h3 fun b hb _=>hk b (.inr (.inl ⟨i,hi,.inr hb⟩)),fun a ha=>K0 (h4 a ha) fun b hb _=>hk b (.inr (.inl ⟨i,hi,.inl ⟨a,ha,hb⟩⟩))⟩
theorem TrS.cells(h:TrS n ans state order aa rows av ov sv w){r:Nat}(hr:TrB n aa rows av ov sv r):∃c e z,w.heap[r]? =some (.cells c e z)∧e≠31∧e≠34∧e≠26:=by
 rcases hr with rfl|⟨i,hi,⟨a,ha,e⟩|e⟩|e|e
 ·obtain⟨c,h1,_⟩:=h.arr
  exact⟨c,_,_,h1,by decide,by decide,by decide⟩
 ·obtain⟨c,h1⟩:=O4 ((h.row i hi).2.2.2 a ha) e
  exact⟨c,_,_,h1,by decide,by decide,by decide⟩
 ·obtain⟨c,h1⟩:=O4 (h.row i hi).2.2.1 e
  exact⟨c,_,_,h1,by decide,by decide,by decide⟩
 ·obtain⟨c,h1⟩:=O4 h.ord e
  exact⟨c,_,_,h1,by decide,by decide,by decide⟩
 ·obtain⟨c,h1⟩:=O4 h.st e
  exact⟨c,_,_,h1,by decide,by decide,by decide⟩
theorem H5{r:Nat}(h:w.heap.size≤r):r0S w r:=fun c e z hc=>by have:=(Q3 hc);omega
theorem r0S.old{r:Nat}(h:r0S w1 r)(k:M2 w w1):r0S w r:=fun c e z hc=>h c e z (k.2 _ _ _ _ hc)
theorem e0n{base n size:Nat}{e:TypeId}{v:Value}{xs:List Value}{g:Nat}(h:w.ownsRow base e size v n xs)(hg:v.ownBlock=some g):base≤g:=by
 rcases h.2 with⟨rfl,_⟩|⟨g',cap,cur,rfl,h2,_⟩
 ·cases hg
 ·cases hg;exact h2
theorem j0P.trs(h:j0P w n ans state order aa rows av ov sv u):TrS n ans state order aa rows av ov sv u∧∀r,TrB n aa rows av ov sv r→r0S w r:=
 ⟨⟨h.arr,fun i hi=>h.row i hi,j4 (Nat.zero_le _) h.ord,j4 (Nat.zero_le _) h.st⟩,fun r hr=>by
   rcases hr with rfl|⟨i,hi,⟨a,ha,e⟩|e⟩|e|e
   ·exact h.nwa
   ·exact h.nwl i hi a ha r e
   ·exact h.nwr i hi r e
   ·exact H5 (e0n h.ord e)
   ·exact H5 (e0n h.st e)⟩
theorem j0P.oldC(h:j0P w n ans state order aa rows av ov sv u):M2 w u:=⟨h.size,h.old⟩
structure PlA(w:World)(n:Nat)(ans:Nat→List g8)(state:List Int)(order:List Nat)(aa:Nat)(rows:Nat→Value)(av:Nat→List SA)(ov sv lv:Value)(bx:Nat)(u:World):Prop where
 old:M2 w u
 tr:TrS n ans state order aa rows av ov sv u
 nw:∀r,TrB n aa rows av ov sv r→r0S w r
 dj:∀i j,i<n→j<n→i≠j→∀r,(rows i).ownBlock=some r→(rows j).ownBlock≠some r
 hb:u.heap[bx]? =some (.cells #[vL aa 0 n n,ov,sv,lv] 31 (0,0))
 nb:r0S w bx
theorem PlA.late{lv:Value}{bx:Nat}(h:j0P w n ans state order aa rows av ov sv u)(hs:u.heap.size≤bx)(hk:∀r,r<u.heap.size→u2.heap[r]? =u.heap[r]?)(hz:u.heap.size≤u2.heap.size)(hb:u2.heap[bx]? =some (.cells #[vL aa 0 n n,ov,sv,lv] 31 (0,0))):PlA w n ans state order aa rows av ov sv lv bx u2:=by
 obtain⟨t1,t2⟩:=h.trs
 have hko:M2 u u2:=S1.oldC ⟨hz,hk⟩
 exact⟨h.oldC.trans hko,t1.same fun r hr=>by
  obtain⟨c,e,z,hc,_⟩:=t1.cells hr
  exact hk r (Q3 hc),t2,h.dj,hb,H5 (Nat.le_trans h.size hs)⟩
theorem PlA.early{lv x y z v:Value}{bx:Nat}(hw:M2 w w1)(hb1:w1.heap[bx]? =some (.cells #[x,y,z,v] 31 (0,0)))(hnb:r0S w bx)(h:j0P w1 n ans state order aa rows av ov sv u)(hk:∀r,r≠bx→u2.heap[r]? =u.heap[r]?)(hz:u.heap.size≤u2.heap.size)(hb:u2.heap[bx]? =some (.cells #[vL aa 0 n n,ov,sv,lv] 31 (0,0))):PlA w n ans state order aa rows av ov sv lv bx u2:=by
 obtain⟨t1,t2⟩:=h.trs
 have hne:∀r,TrB n aa rows av ov sv r→r≠bx:=fun r hr e=>by
  subst e
  exact t2 r hr _ _ _ hb1
 refine⟨⟨Nat.le_trans hw.1 (Nat.le_trans h.size hz),fun r c e z hc=>?_⟩,t1.same fun r hr=>hk r (hne r hr),fun r hr=>(t2 r hr).old hw,h.dj,hb,hnb⟩
 have h1:r≠bx:=fun e=>by subst e;exact hnb _ _ _ hc
 rw[hk r h1]
 exact h.old _ _ _ _ (hw.2 _ _ _ _ hc)
end
theorem M2.at{w u:World}(h:M2 w u)(d:Nat):M2 w (u.at d):=⟨h.1,h.2⟩
theorem h0R{aa n ol oc xl xc bx:Nat}{oa xa:Option Addr}{st:Bool}{x2 x3 x5 x6 x7:Value}{y0 y1 y2 y3:Value}(hy:w.heap[bx]? =some (.cells #[y0,y1,y2,y3] 31 (0,0))){A:Array Value}(hA:G0 301 A [(2,x2),(3,x3),(5,x5),(6,x6),(7,x7),(9,vP bx 0),(68,.agg #[vL aa 0 n n,.slice oa ol oc,.slice xa xl xc,.bool st])]){cs:List Frame}{main:Bool}{Stop:Goroutine→World→Prop}
 (h:∀(A:Array Value) (Y:World),Y.heap.size=w.heap.size→(∀r,r≠bx→Y.heap[r]? =w.heap[r]?)→Y.heap[bx]? =some (.cells #[vL aa 0 n n,.slice oa ol oc,.slice xa xl xc,.bool st] 31 (0,0))→G0 301 A [(2,x2),(3,x3),(5,x5),(6,x6),(7,x7),(9,vP bx 0)]→J0 Try.prog main F0 Stop (G (bA 7 A [.code O5]) cs) Y):
 J0 Try.prog main F0 Stop (G (bA 7 A [.inRegion (oC l7) [15],.code O5]) cs) w:=by
 obtain⟨c0,z0⟩:=V1 hy (j:=0) rfl
 obtain⟨c1,z1⟩:=V1 hy (j:=1) rfl
 obtain⟨c2,z2⟩:=V1 hy (j:=2) rfl
 obtain⟨c3,z3⟩:=V1 hy (j:=3) rfl
 have hh:∀r:Nat,r≠bx→((((w.setCell ⟨bx,0,none⟩ (vL aa 0 n n)).setCell ⟨bx,1,none⟩ (.slice oa ol oc)).setCell ⟨bx,2,none⟩ (.slice xa xl xc)).setCell ⟨bx,3,none⟩ (.bool st)).heap[r]? =w.heap[r]?:=fun r hr=>by rw[I0 _ _ _ hr,I0 _ _ _ hr,I0 _ _ _ hr,I0 _ _ _ hr]
 have hyy:((((w.setCell ⟨bx,0,none⟩ (vL aa 0 n n)).setCell ⟨bx,1,none⟩ (.slice oa ol oc)).setCell ⟨bx,2,none⟩ (.slice xa xl xc)).setCell ⟨bx,3,none⟩ (.bool st)).heap[bx]? =some (.cells #[vL aa 0 n n,.slice oa ol oc,.slice xa xl xc,.bool st] 31 (0,0)):=U1 (o:=3) (U1 (o:=2) (U1 (o:=1) (U1 (o:=0) hy (vL aa 0 n n)) (.slice oa ol oc)) (.slice xa xl xc)) (.bool st)
 have hsz:((((w.setCell ⟨bx,0,none⟩ (vL aa 0 n n)).setCell ⟨bx,1,none⟩ (.slice oa ol oc)).setCell ⟨bx,2,none⟩ (.slice xa xl xc)).setCell ⟨bx,3,none⟩ (.bool st)).heap.size=w.heap.size:=by simp
 obtain⟨t,rfl,h2,h3,h5,h6,h7,h9,h68,_⟩:=Y3 D1 hA
 simp only[D1,h2,h3,h5,h6,h7,h9,h68]
 clear h2 h3 h5 h6 h7 h9 h68
 simp only[l7,o0,Try.f7,zz,Nat.reduceAdd]
 (refine oW fun dd K hK=>?_;go_simp;refine hK _ _ ⟨⟨⟨0,e0L (fun k=>o7 _) _ _ _ _⟩,fun e he=>by(have hm:=mem_listed he;clear he hK;simp[go_sem,storedEv,c0,c1,c2,c3,z0,z1,z2,z3]at hm;rcases hm with rfl|rfl|rfl|rfl<;>exact U0 _ _ (o7 _))⟩,?_⟩;clear hK K;simp only[setCell_at'];refine J0.at ?_ dd)
 refine S0 ?_
 generalize ((((w.setCell ⟨bx,0,none⟩ (vL aa 0 n n)).setCell ⟨bx,1,none⟩ (.slice oa ol oc)).setCell ⟨bx,2,none⟩ (.slice xa xl xc)).setCell ⟨bx,3,none⟩ (.bool st))=Y at hh hyy hsz ⊢
 refine h _ Y hsz hh hyy ?_
 exact⟨rfl,rfl,rfl,rfl,rfl,rfl,rfl,trivial⟩
theorem t0r{An:G3}{b2 vc tl tc sc n M:Nat}{va ta sa:Option Addr}{vs S:List Int}{mo:Int}{ops:Nat→List P3}{ga gc gs gq tb o ovc:Nat}{ova:Option Addr}{oa:Nat→Option Addr}{ol oc:Nat→Nat}{ov x3:Value}(q0:w.cell? ⟨b2,0,none⟩=some (.slice va vs.length vc))(q1:w.cell? ⟨b2,1,none⟩=some (.slice ta tl tc))(q2:w.cell? ⟨b2,2,none⟩=some (.slice sa S.length sc))(q3:w.cell? ⟨b2,3,none⟩=some (.int .i64 mo))
 (hov:ov= .slice ova tl ovc) (hgc:vs.length≤gc) (hgq:S.length≤gq) (hv:o5 w (some ⟨ga,0,none⟩) vs) (hvl:vs.length<9223372036854775808) (hI:y6 w (fun _=>False) n tb o tl ova oa ol oc ops S (some ⟨gs,0,none⟩)) (hM:min (max mo 0) 1048576=(M:Int)) {Stop:Goroutine→World→Prop}
 {A:Array Value} (hA:G0 301 A [(2,.pointer (some ⟨b2,0,none⟩)),(3,x3),(5,.slice (some ⟨ga,0,none⟩) (vs.length+1) gc),(6,.slice (some ⟨gs,0,none⟩) (S.length+1) gq),(7,ov)])
 (K:∀(A:Array Value) (Y:World) (s:GS SPl) (order:List Nat) (aa:Nat) (rows:Nat→Value) (av:Nat→List SA) (oa':Option Addr) (oc':Nat) (xa:Option Addr) (xc bx:Nat),(∃k,∀f,k≤f→a0K ops n M S f (ss0 vs)=(s,order))→PlA w n (fun i=>(s.th i).ans) (R1.state s.q) order aa rows av (.slice oa' order.length oc') (.slice xa (R1.state s.q).length xc) (.bool (decide (0<L5 s.live n))) bx Y→G0 301 A [(2,.pointer (some ⟨b2,0,none⟩)),(3,x3),(5,.slice (some ⟨ga,0,none⟩) (vs.length+1) gc),(6,.slice (some ⟨gs,0,none⟩) (S.length+1) gq),(7,ov),(9,.pointer (some ⟨bx,0,none⟩))]→J0 Try.prog true F0 (fun g w=>Q4 An Try.prog Stop g w) (G ((Go.Conc.base 7).at ⟨A,[]⟩ [.code O5]) []) Y):
 J0 Try.prog true F0 (fun g w=>Q4 An Try.prog Stop g w) (G ((Go.Conc.base 7).at ⟨A,[]⟩ [.code l7,.code O5]) []) w:=by
 have hs:M2 w w:=(S1.refl w).oldC
 have hS:∀u d,M2 w u→M2 w (World.at u d):=fun u d h=>⟨h.1,h.2⟩
 obtain⟨hsz,h2,h3,h5,h6,h7,_⟩:=hA
 obtain⟨t,rfl⟩:=y0v hsz
 change t 2=_ at h2
 change t 3=_ at h3
 change t 5=_ at h5
 change t 6=_ at h6
 change t 7=_ at h7
 clear hsz
 simp only[D1,h2,h3,h5,h6,h7]
 clear h2 h3 h5 h6 h7
 subst hov
 rw[q0t]
 refine e0J (fun u=>M2 w u) (last:=15) E2 (z8 (by kernel_rfl)) (by decide) ?_
 simp only[l7,o0,Try.f7,zz,Nat.reduceAdd]
 refine W7 hS (fun _ _ d h=>h.at d) (i:=0) (v:=.slice (some ⟨ga,0,none⟩) (vs.length+1) gc) hs rfl rfl (by kernel_rfl) (by kernel_rfl) (by kernel_rfl) (fun u hu=>.inl ⟨rfl,fun d=>⟨by simp[go_sem,execOp,Act.eval],fun e he=>by have hm:=mem_listed he;simp[go_sem,execOp,Act.eval]at hm⟩⟩) ?_
 walk_nrm
 refine W7 hS (fun _ _ d h=>h.at d) (i:=1) (v:=.pointer (some ⟨b2,0,none⟩)) hs rfl rfl (by kernel_rfl) (by kernel_rfl) (by kernel_rfl) (fun u hu=>.inl ⟨rfl,fun d=>⟨by simp[go_sem,execOp,Act.eval],fun e he=>by have hm:=mem_listed he;simp[go_sem,execOp,Act.eval]at hm⟩⟩) ?_
 walk_nrm
 refine W7 hS (fun _ _ d h=>h.at d) (i:=2) (v:=.slice va vs.length vc) hs rfl rfl (by kernel_rfl) (by kernel_rfl) (by kernel_rfl) (fun u hu=>.inl ⟨rfl,fun d=>⟨by simp[go_sem,execOp,Act.eval,hu.c q0],fun e he=>by have hm:=mem_listed he;simp[go_sem,execOp,Act.eval,hu.c q0]at hm;subst hm;exact I1 _ _⟩⟩) ?_
 walk_nrm
 refine W7 hS (fun _ _ d h=>h.at d) (i:=3) (v:=.int .i64 (vs.length:Nat)) hs rfl rfl (by kernel_rfl) (by kernel_rfl) (by kernel_rfl) (fun u hu=>.inl ⟨rfl,fun d=>⟨by simp[go_sem,execOp,Act.eval],fun e he=>by have hm:=mem_listed he;simp[go_sem,execOp,Act.eval]at hm⟩⟩) ?_
 walk_nrm
 refine W7 hS (fun _ _ d h=>h.at d) (i:=4) (v:=.slice (some ⟨ga,0,none⟩) vs.length gc) hs rfl rfl (by kernel_rfl) (by kernel_rfl) (by kernel_rfl) (fun u hu=>.inl ⟨rfl,fun d=>⟨by simp[go_sem,execOp,Act.eval,d04 hgc,a0L hgc],fun e he=>by have hm:=mem_listed he;simp[go_sem,execOp,Act.eval,d04 hgc,a0L hgc]at hm⟩⟩) ?_
 walk_nrm
 refine W7 hS (fun _ _ d h=>h.at d) (i:=5) (v:=.slice ova tl ovc) hs rfl rfl (by kernel_rfl) (by kernel_rfl) (by kernel_rfl) (fun u hu=>.inl ⟨rfl,fun d=>⟨by simp[go_sem,execOp,Act.eval],fun e he=>by have hm:=mem_listed he;simp[go_sem,execOp,Act.eval]at hm⟩⟩) ?_
 walk_nrm
 refine W7 hS (fun _ _ d h=>h.at d) (i:=6) (v:=.slice (some ⟨gs,0,none⟩) (S.length+1) gq) hs rfl rfl (by kernel_rfl) (by kernel_rfl) (by kernel_rfl) (fun u hu=>.inl ⟨rfl,fun d=>⟨by simp[go_sem,execOp,Act.eval],fun e he=>by have hm:=mem_listed he;simp[go_sem,execOp,Act.eval]at hm⟩⟩) ?_
 walk_nrm
 refine W7 hS (fun _ _ d h=>h.at d) (i:=7) (v:=.pointer (some ⟨b2,2,none⟩)) hs rfl rfl (by kernel_rfl) (by kernel_rfl) (by kernel_rfl) (fun u hu=>.inl ⟨rfl,fun d=>⟨by simp[go_sem,execOp,Act.eval],fun e he=>by have hm:=mem_listed he;simp[go_sem,execOp,Act.eval]at hm⟩⟩) ?_
 walk_nrm
 refine W7 hS (fun _ _ d h=>h.at d) (i:=8) (v:=.slice sa S.length sc) hs rfl rfl (by kernel_rfl) (by kernel_rfl) (by kernel_rfl) (fun u hu=>.inl ⟨rfl,fun d=>⟨by simp[go_sem,execOp,Act.eval,hu.c q2],fun e he=>by have hm:=mem_listed he;simp[go_sem,execOp,Act.eval,hu.c q2]at hm;subst hm;exact I1 _ _⟩⟩) ?_
 walk_nrm
 refine W7 hS (fun _ _ d h=>h.at d) (i:=9) (v:=.int .i64 (S.length:Nat)) hs rfl rfl (by kernel_rfl) (by kernel_rfl) (by kernel_rfl) (fun u hu=>.inl ⟨rfl,fun d=>⟨by simp[go_sem,execOp,Act.eval],fun e he=>by have hm:=mem_listed he;simp[go_sem,execOp,Act.eval]at hm⟩⟩) ?_
 walk_nrm
 refine W7 hS (fun _ _ d h=>h.at d) (i:=10) (v:=.slice (some ⟨gs,0,none⟩) S.length gq) hs rfl rfl (by kernel_rfl) (by kernel_rfl) (by kernel_rfl) (fun u hu=>.inl ⟨rfl,fun d=>⟨by simp[go_sem,execOp,Act.eval,m0a hgq,i0z hgq],fun e he=>by have hm:=mem_listed he;simp[go_sem,execOp,Act.eval,m0a hgq,i0z hgq]at hm⟩⟩) ?_
 walk_nrm
 refine W7 hS (fun _ _ d h=>h.at d) (i:=11) (v:=.pointer (some ⟨b2,3,none⟩)) hs rfl rfl (by kernel_rfl) (by kernel_rfl) (by kernel_rfl) (fun u hu=>.inl ⟨rfl,fun d=>⟨by simp[go_sem,execOp,Act.eval],fun e he=>by have hm:=mem_listed he;simp[go_sem,execOp,Act.eval]at hm⟩⟩) ?_
 walk_nrm
 refine W7 hS (fun _ _ d h=>h.at d) (i:=12) (v:=.int .i64 mo) hs rfl rfl (by kernel_rfl) (by kernel_rfl) (by kernel_rfl) (fun u hu=>.inl ⟨rfl,fun d=>⟨by simp[go_sem,execOp,Act.eval,hu.c q3],fun e he=>by have hm:=mem_listed he;simp[go_sem,execOp,Act.eval,hu.c q3]at hm;subst hm;exact I1 _ _⟩⟩) ?_
 walk_nrm
 refine a0O (r:=[13,14]) (by kernel_rfl) (by kernel_rfl) (fun i hi hil=>?_)
 simp only[List.mem_cons,List.not_mem_nil,or_false]at hi
 rcases hi with rfl|rfl
 ·refine⟨_,rfl,.inr (.inr ⟨rfl,15,#[.slice (some ⟨ga,0,none⟩) vs.length gc,.slice ova tl ovc,.slice (some ⟨gs,0,none⟩) S.length gq,.int .i64 mo],fun v w'=>∃(s:GS SPl) (order:List Nat) (aa:Nat) (rows:Nat→Value) (av:Nat→List SA) (oa':Option Addr) (oc':Nat) (xa:Option Addr) (xc:Nat),v= .agg #[.slice (some ⟨aa,0,none⟩) n n,.slice oa' order.length oc',.slice xa (R1.state s.q).length xc,.bool (decide (0<L5 s.live n))]∧(∃k,∀f,k≤f→a0K ops n M S f (ss0 vs)=(s,order))∧j0P w n (fun i=>(s.th i).ans) (R1.state s.q) order aa rows av (.slice oa' order.length oc') (.slice xa (R1.state s.q).length xc) w',fun w=>by simp[execOp,Act.eval,resolve,invoke,Deferred.ofValue,callable15.run],fun w=>by simp[execOp,Act.eval,resolve,invoke,Deferred.ofValue,callable15.run,callable15.quiet],fun d c cs Stop k=>f0X (w:=World.at w d) hv hvl (y6.kept8 (w':=World.at w d) hI (Nat.le_refl _) fun r c e z h=>h) hM fun s order hd hov aa rows av oa' oc' xa xc w' hP=>k _ _ ⟨s,order,aa,rows,av,oa',oc',xa,xc,rfl,hov,⟨hP.size,hP.old,hP.arr,hP.row,hP.nwa,hP.nwr,hP.nwl,hP.dj,hP.ord,hP.st⟩⟩,?_⟩)⟩
  rintro v u ⟨s,order,aa,rows,av,oa',oc',xa,xc,rfl,hov,hU⟩
  refine⟨hU.oldC,?_⟩
  walk_nrm
  refine a0O (r:=[14]) (by kernel_rfl) (by kernel_rfl) (fun i hi hil=>?_)
  obtain rfl:i=14:=by simpa using hi
  refine s07 rfl rfl (fun d K' hK'=>?_)
  go_simp
  refine hK' _ _ ⟨⟨⟨0,P0 J1 (Nat.zero_le _) _⟩,fun e he=>by(have hm:=mem_listed he;simp[go_sem]at hm)⟩,(hU.oldC.trans (S1.alloc u _).oldC).at d,?_⟩
  clear hK' K'
  rw[alloc_at']
  refine c0x hS (fun _ _ d h=>h.at d) _ _ _ _ ?_ d
  walk_nrm
  refine d08 (by kernel_rfl) ?_ _
  refine h0R (w:=u.alloc (.cells #[.slice none 0 0,.slice none 0 0,.slice none 0 0,.bool false] 31)) (bx:=u.heap.size) (heap_alloc_new _ _) ⟨rfl,rfl,rfl,rfl,rfl,rfl,rfl,rfl,trivial⟩ fun A Y e1 e2 e3 hA=>K A Y s order aa rows av oa' oc' xa xc u.heap.size hov (PlA.late hU (Nat.le_refl _) (fun r hr=>(e2 r (by omega)).trans (D0 _ _ hr)) (by rw[e1];simp) e3) hA
 ·refine s07 rfl rfl (fun d K' hK'=>?_)
  go_simp
  refine hK' _ _ ⟨⟨⟨0,P0 J1 (Nat.zero_le _) _⟩,fun e he=>by(have hm:=mem_listed he;simp[go_sem]at hm)⟩,(S1.alloc w _).oldC.at d,?_⟩
  clear hK' K'
  rw[alloc_at']
  refine c0x hS (fun _ _ d h=>h.at d) _ _ _ _ ?_ d
  walk_nrm
  refine a0O (r:=[13]) (by kernel_rfl) (by kernel_rfl) (fun i hi hil=>?_)
  obtain rfl:i=13:=by simpa using hi
  refine⟨_,rfl,.inr (.inr ⟨rfl,15,#[.slice (some ⟨ga,0,none⟩) vs.length gc,.slice ova tl ovc,.slice (some ⟨gs,0,none⟩) S.length gq,.int .i64 mo],fun v w'=>∃(s:GS SPl) (order:List Nat) (aa:Nat) (rows:Nat→Value) (av:Nat→List SA) (oa':Option Addr) (oc':Nat) (xa:Option Addr) (xc:Nat),v= .agg #[.slice (some ⟨aa,0,none⟩) n n,.slice oa' order.length oc',.slice xa (R1.state s.q).length xc,.bool (decide (0<L5 s.live n))]∧(∃k,∀f,k≤f→a0K ops n M S f (ss0 vs)=(s,order))∧j0P (w.alloc (.cells #[.slice none 0 0,.slice none 0 0,.slice none 0 0,.bool false] 31)) n (fun i=>(s.th i).ans) (R1.state s.q) order aa rows av (.slice oa' order.length oc') (.slice xa (R1.state s.q).length xc) w',fun w=>by simp[execOp,Act.eval,resolve,invoke,Deferred.ofValue,callable15.run],fun w=>by simp[execOp,Act.eval,resolve,invoke,Deferred.ofValue,callable15.run,callable15.quiet],fun d c cs Stop k=>f0X (w:=World.at (w.alloc (.cells #[.slice none 0 0,.slice none 0 0,.slice none 0 0,.bool false] 31)) d) (hv.allocE _) hvl (y6.kept8 (w':=World.at (w.alloc (.cells #[.slice none 0 0,.slice none 0 0,.slice none 0 0,.bool false] 31)) d) (hI.kept8 (w':=(w.alloc (.cells #[.slice none 0 0,.slice none 0 0,.slice none 0 0,.bool false] 31))) (S1.alloc w _).1 (S1.alloc w _).oldC.2) (Nat.le_refl _) fun r c e z h=>h) hM fun s order hd hov aa rows av oa' oc' xa xc w' hP=>k _ _ ⟨s,order,aa,rows,av,oa',oc',xa,xc,rfl,hov,⟨hP.size,hP.old,hP.arr,hP.row,hP.nwa,hP.nwr,hP.nwl,hP.dj,hP.ord,hP.st⟩⟩,?_⟩)⟩
  rintro v u ⟨s,order,aa,rows,av,oa',oc',xa,xc,rfl,hov,hU⟩
  refine⟨(S1.alloc w _).oldC.trans hU.oldC,?_⟩
  walk_nrm
  refine d08 (by kernel_rfl) ?_ _
  refine h0R (w:=u) (bx:=w.heap.size) (hU.old _ _ _ _ (heap_alloc_new _ _)) ⟨rfl,rfl,rfl,rfl,rfl,rfl,rfl,rfl,trivial⟩ fun A Y e1 e2 e3 hA=>K A Y s order aa rows av oa' oc' xa xc w.heap.size hov (PlA.early (S1.alloc w _).oldC (heap_alloc_new _ _) (H5 (Nat.le_refl _)) hU e2 (by rw[e1];exact Nat.le_refl _) e3) hA
end
section
variable {cs:List Frame}{main:Bool}{Stop:Goroutine→World→Prop}
variable{F:Fz}{w:World}
theorem n0X{b2 vl vc tl tc sl sc:Nat}{va ta sa:Option Addr}{mv:Value}{x3 x5 x6 x7 x9:Value}(q0:w.cell? ⟨b2,0,none⟩=some (.slice va vl vc))(q1:w.cell? ⟨b2,1,none⟩=some (.slice ta tl tc))(q2:w.cell? ⟨b2,2,none⟩=some (.slice sa sl sc))(q3:w.cell? ⟨b2,3,none⟩=some (mv)){A:Array Value}(hA:G0 301 A [(2,vP b2 0),(3,x3),(5,x5),(6,x6),(7,x7),(9,x9)])
 (h:∀A,G0 301 A [(2,vP b2 0),(3,x3),(5,x5),(6,x6),(7,x7),(9,x9)]→J0 Try.prog main F Stop (G (Frame.enter Try.prog 15 #[.slice va vl vc,.slice ta tl tc,.slice sa sl sc,mv] .normal) ((bA 7 A [.inRegion (oC b0I) [8,9,10],.code n7])::cs)) w):
 J0 Try.prog main F Stop (G (bA 7 A [.code O5]) cs) w:=by
 obtain⟨t,rfl,h2,h3,h5,h6,h7,h9,_⟩:=Y3 D1 hA
 simp only[D1,h2,h3,h5,h6,h7,h9]
 clear h2 h3 h5 h6 h7 h9
 refine ogW b0I n7 ?_
 simp only[b0I,o0,Try.f7,zz,Nat.reduceAdd]
 refine oT ?_
 refine oL ?_
 refine oT ?_
 refine oL ?_
 refine oT ?_
 refine oL ?_
 refine oT ?_
 refine oL ?_
 refine oc callable15 #[.slice va vl vc,.slice ta tl tc,.slice sa sl sc,mv] ?_
 refine h _ ?_
 exact⟨rfl,rfl,rfl,rfl,rfl,rfl,rfl,trivial⟩
theorem n0Y{n:Nat}(hU:P2 F n)(hn:n≤w.heap.size){xa ya za:Option Addr}{xl xc yl yc zl zc:Nat}{st:Bool}{x2 x3 x5 x6 x7 x9:Value}{A:Array Value}(hA:G0 301 A [(2,x2),(3,x3),(5,x5),(6,x6),(7,x7),(9,x9)])
 (h:∀A,G0 301 A [(2,x2),(3,x3),(5,x5),(6,x6),(7,x7),(9,x9),(10,vP w.heap.size 0)]→J0 Try.prog main F Stop (G (bA 7 A [.code n7]) cs) (w.alloc (.cells #[.slice xa xl xc,.slice ya yl yc,.slice za zl zc,.bool st] 31))):
 J0 Try.prog main F Stop (G ((bA 7 A [.inRegion (oC b0I) [8,9,10],.code n7]).finish (.agg #[.slice xa xl xc,.slice ya yl yc,.slice za zl zc,.bool st])) cs) w:=by
 obtain⟨t,rfl,h2,h3,h5,h6,h7,h9,_⟩:=Y3 D1 hA
 simp only[D1,h2,h3,h5,h6,h7,h9]
 clear h2 h3 h5 h6 h7 h9
 rw[Frame.finish_at]
 simp only[b0I,o0,Try.f7,zz,Nat.reduceAdd]
 walk_nrm
 refine oA hU ?_
 (refine oW fun dd K hK=>?_;go_simp;refine hK _ _ ⟨⟨⟨0,e0L (fun k=>Q2 hU (show n≤w.heap.size by omega)) _ _ _ _⟩,fun e he=>by(have hm:=mem_listed he;clear he hK;simp[go_sem,storedEv]at hm;rcases hm with rfl|rfl|rfl|rfl<;>exact U0 _ _ ((fun k=>Q2 hU (show n≤w.heap.size by omega)) _))⟩,?_⟩;clear hK K;simp only[setCell_at'];refine J0.at ?_ dd)
 have e1:=i0i w (.slice none 0 0) (.slice none 0 0) (.slice none 0 0) (.bool false) (.slice xa xl xc) (.slice ya yl yc) (.slice za zl zc) (.bool st)
 rw[e1]
 clear e1
 refine S0 ?_
 refine h _ ?_
 exact⟨rfl,rfl,rfl,rfl,rfl,rfl,rfl,rfl,trivial⟩
theorem n02{b2 vl vc tl tc sl sc:Nat}{va ta sa:Option Addr}{mv:Value}{x2 x5 x6 x10:Value}(q0:w.cell? ⟨b2,0,none⟩=some (.slice va vl vc))(q1:w.cell? ⟨b2,1,none⟩=some (.slice ta tl tc))(q2:w.cell? ⟨b2,2,none⟩=some (.slice sa sl sc))(q3:w.cell? ⟨b2,3,none⟩=some (mv)){A:Array Value}(hA:G0 301 A [(2,x2),(3,vP b2 0),(5,x5),(6,x6),(10,x10)])
 (h:∀A,G0 301 A [(2,x2),(3,vP b2 0),(5,x5),(6,x6),(10,x10)]→J0 Try.prog main F Stop (G (Frame.enter Try.prog 15 #[.slice va vl vc,.slice ta tl tc,.slice sa sl sc,mv] .normal) ((bA 7 A [.inRegion (oC b0P) [8],.code W9])::cs)) w):
 J0 Try.prog main F Stop (G (bA 7 A [.code b0X]) cs) w:=by
 obtain⟨t,rfl,h2,h3,h5,h6,h10,_⟩:=Y3 D1 hA
 simp only[D1,h2,h3,h5,h6,h10]
 clear h2 h3 h5 h6 h10
 refine ogW b0P W9 ?_
 simp only[b0P,o0,Try.f7,zz,Nat.reduceAdd]
 refine oT ?_
 refine oL ?_
 refine oT ?_
 refine oL ?_
 refine oT ?_
 refine oL ?_
 refine oT ?_
 refine oL ?_
 refine oc callable15 #[.slice va vl vc,.slice ta tl tc,.slice sa sl sc,mv] ?_
 refine h _ ?_
 exact⟨rfl,rfl,rfl,rfl,rfl,rfl,trivial⟩
theorem n08{v:Value}{x2 x3 x5 x6 x10:Value}{A:Array Value}(hA:G0 301 A [(2,x2),(3,x3),(5,x5),(6,x6),(10,x10)])
 (h:∀A,G0 301 A [(2,x2),(3,x3),(5,x5),(6,x6),(10,x10)]→J0 Try.prog main F Stop (G (bA 7 A [.code W9]) cs) w):
 J0 Try.prog main F Stop (G ((bA 7 A [.inRegion (oC b0P) [8],.code W9]).finish v) cs) w:=by
 obtain⟨t,rfl,h2,h3,h5,h6,h10,_⟩:=Y3 D1 hA
 simp only[D1,h2,h3,h5,h6,h10]
 clear h2 h3 h5 h6 h10
 rw[Frame.finish_at]
 simp only[b0P,o0,Try.f7,zz,Nat.reduceAdd]
 walk_nrm
 refine S0 ?_
 refine h _ ?_
 exact⟨rfl,rfl,rfl,rfl,rfl,rfl,trivial⟩
theorem o0j{b2 vl vc tl tc sl sc:Nat}{va ta sa:Option Addr}{mv:Value}{x5 x6 x10:Value}(q0:w.cell? ⟨b2,0,none⟩=some (.slice va vl vc))(q1:w.cell? ⟨b2,1,none⟩=some (.slice ta tl tc))(q2:w.cell? ⟨b2,2,none⟩=some (.slice sa sl sc))(q3:w.cell? ⟨b2,3,none⟩=some (mv)){A:Array Value}(hA:G0 301 A [(2,vP b2 0),(5,x5),(6,x6),(10,x10)])
 (h:∀A,G0 301 A [(2,vP b2 0),(5,x5),(6,x6),(10,x10)]→J0 Try.prog main F Stop (G (Frame.enter Try.prog 15 #[.slice va vl vc,.slice ta tl tc,.slice sa sl sc,mv] .normal) ((bA 7 A [.inRegion (oC b0W) [8,9,10],.code b0Y])::cs)) w):
 J0 Try.prog main F Stop (G (bA 7 A [.code W9]) cs) w:=by
 obtain⟨t,rfl,h2,h5,h6,h10,_⟩:=Y3 D1 hA
 simp only[D1,h2,h5,h6,h10]
 clear h2 h5 h6 h10
 refine ogW b0W b0Y ?_
 simp only[b0W,o0,Try.f7,zz,Nat.reduceAdd]
 refine oT ?_
 refine oL ?_
 refine oT ?_
 refine oL ?_
 refine oT ?_
 refine oL ?_
 refine oT ?_
 refine oL ?_
 refine oc callable15 #[.slice va vl vc,.slice ta tl tc,.slice sa sl sc,mv] ?_
 refine h _ ?_
 exact⟨rfl,rfl,rfl,rfl,rfl,trivial⟩
theorem o0k{n:Nat}(hU:P2 F n)(hn:n≤w.heap.size){xa ya za:Option Addr}{xl xc yl yc zl zc:Nat}{st:Bool}{x2 x5 x6 x10:Value}{A:Array Value}(hA:G0 301 A [(2,x2),(5,x5),(6,x6),(10,x10)])
 (h:∀A,G0 301 A [(2,x2),(5,x5),(6,x6),(10,x10),(23,vP w.heap.size 0)]→J0 Try.prog main F Stop (G (bA 7 A [.code b0Y]) cs) (w.alloc (.cells #[.slice xa xl xc,.slice ya yl yc,.slice za zl zc,.bool st] 31))):
 J0 Try.prog main F Stop (G ((bA 7 A [.inRegion (oC b0W) [8,9,10],.code b0Y]).finish (.agg #[.slice xa xl xc,.slice ya yl yc,.slice za zl zc,.bool st])) cs) w:=by
 obtain⟨t,rfl,h2,h5,h6,h10,_⟩:=Y3 D1 hA
 simp only[D1,h2,h5,h6,h10]
 clear h2 h5 h6 h10
 rw[Frame.finish_at]
 simp only[b0W,o0,Try.f7,zz,Nat.reduceAdd]
 walk_nrm
 refine oA hU ?_
 (refine oW fun dd K hK=>?_;go_simp;refine hK _ _ ⟨⟨⟨0,e0L (fun k=>Q2 hU (show n≤w.heap.size by omega)) _ _ _ _⟩,fun e he=>by(have hm:=mem_listed he;clear he hK;simp[go_sem,storedEv]at hm;rcases hm with rfl|rfl|rfl|rfl<;>exact U0 _ _ ((fun k=>Q2 hU (show n≤w.heap.size by omega)) _))⟩,?_⟩;clear hK K;simp only[setCell_at'];refine J0.at ?_ dd)
 have e1:=i0i w (.slice none 0 0) (.slice none 0 0) (.slice none 0 0) (.bool false) (.slice xa xl xc) (.slice ya yl yc) (.slice za zl zc) (.bool st)
 rw[e1]
 clear e1
 refine S0 ?_
 refine h _ ?_
 exact⟨rfl,rfl,rfl,rfl,rfl,rfl,trivial⟩
def Sm(w u:World):Prop:=∀r,r<w.heap.size→u.heap[r]? =w.heap[r]?
theorem Sm.at{w u:World}(h:Sm w u)(d:Nat):Sm w (u.at d):=h
theorem Sm.trans{w u v:World}(h:Sm w u)(hs:w.heap.size≤u.heap.size)(k:Sm u v):Sm w v:=fun r hr=>(k r (by omega)).trans (h r hr)
theorem Sm.size{w u:World}(h:Sm w u):w.heap.size≤u.heap.size:=by
 rcases Nat.eq_zero_or_pos w.heap.size with e|hp
 ·omega
 ·have h1:=h (w.heap.size - 1) (by omega)
  rw[Array.getElem?_eq_getElem (show w.heap.size - 1<w.heap.size by omega)]at h1
  have:=(Q3 h1)
  omega
theorem Sm.c{w u:World}{a:Addr}{v:Value}(h:Sm w u)(hc:w.cell? a=some v):u.cell? a=some v:=by
 obtain⟨c,e,z,h3⟩:=M3 hc
 rw[← hc];unfold World.cell?;simp only[h _ (Q3 h3)]
theorem callable29:O1 29:=G2 Try.func29 rfl rfl
theorem n0V{aa ab:Option Addr}{ca cb:Nat}{xs:List Int}(hl:xs.length<100000000)(hA:B5 w aa (xs.map fun v=>vI v))(hB:B5 w ab (xs.map fun v=>vI v)):
 Y6 Try.prog Try.f29 #[.slice aa xs.length ca,.slice ab xs.length cb] w fun x w'=>x= .bool true∧w'.heap=w.heap:=by
 have E:Aside (B5 w aa (xs.map fun v=>vI v)∧B5 w ab (xs.map fun v=>vI v)):=⟨hA,hB⟩
 clear hA hB
 refine I8 rfl ?_
 simp only[Try.ntmps29,List.size_toArray,List.length_cons,List.length_nil,Nat.reduceAdd,Nat.reduceSub,Array.replicate_succ,Array.replicate_zero,List.push_toArray,List.append_toArray,List.nil_append,List.cons_append]
 go_wp2
 go_loopg [5] xs.length (fun g i wr=>∃k:Nat,k≤xs.length∧i=vI k∧g=xs.length - k∧wr.heap=w.heap)
 case atStart=>exact⟨0,Nat.zero_le _,rfl,rfl,rfl⟩
 case round=>
  obtain⟨k,hk,rfl,rfl,hw⟩:=hrel
  rcases Nat.lt_or_ge k xs.length with hlt|hge
  ·obtain⟨b1,o1,rfl,h1⟩:=(E.out.1.heap hw).c k (vI xs[k]) (by simp[hlt])
   obtain⟨b2,o2,rfl,h2⟩:=(E.out.2.heap hw).c k (vI xs[k]) (by simp[hlt])
   have hwr:IntKind.i64.wrap ((k:Int)+1)=(k:Int)+1:=IntWalk.i64_in _ (by omega)
   go_wp2
   go_quiet (fail)
   go_wp2
   go_roundg (xs.length - (k+1))
   case measure=>omega
   case rel=>exact⟨k+1,hlt,rfl,rfl,hw⟩
  ·have:k=xs.length:=by omega
   subst this
   go_wp2
   go_ret
   exact⟨_,rfl,rfl,hw⟩
theorem j0X:Z5 Try.prog (fun f=>[29].contains f) true:=a0b (x:=[]) (fun f h=>by cases h) (by kernel_rfl)
theorem v0s{b2 vc sc ga gc gs gq bb bc n ol xl ac1 oc1 xc1 ac2 oc2 xc2:Nat}{va sa aa1 oa1 xa1 aa2 oa2 xa2:Option Addr}{vs S:List Int}{st:Bool}
 (q0:w.cell? ⟨b2,0,none⟩=some (.slice va vs.length vc)) (q2:w.cell? ⟨b2,2,none⟩=some (.slice sa S.length sc))
 (b0:w.cell? ⟨bb,0,none⟩=some (.slice aa1 n ac1)) (b1:w.cell? ⟨bb,1,none⟩=some (.slice oa1 ol oc1)) (b2e:w.cell? ⟨bb,2,none⟩=some (.slice xa1 xl xc1)) (b3:w.cell? ⟨bb,3,none⟩=some (.bool st))
 (c0:w.cell? ⟨bc,0,none⟩=some (.slice aa2 n ac2)) (c1:w.cell? ⟨bc,1,none⟩=some (.slice oa2 ol oc2)) (c2:w.cell? ⟨bc,2,none⟩=some (.slice xa2 xl xc2)) (c3:w.cell? ⟨bc,3,none⟩=some (.bool st))
 (hT:∀τ e,Y6 Try.prog Try.f14 #[.agg #[.slice aa1 n ac1,.slice oa1 ol oc1,.slice xa1 xl xc1,.bool st],.agg #[.slice aa2 n ac2,.slice oa2 ol oc2,.slice xa2 xl xc2,.bool st]] (retape w τ e) fun v w'=>v= .bool true∧Sm w w')
 (g77:w.cell? ⟨ga,vs.length,none⟩=some (.int .i64 77)) (g88:w.cell? ⟨gs,S.length,none⟩=some (.int .i64 88)) (hgc:vs.length≤gc) (hgq:S.length≤gq) (hvl:vs.length<100000000) (hsl:S.length<100000000)
 (hV1:B5 w (some ⟨ga,0,none⟩) (vs.map fun v=>.int .i64 v)) (hV2:B5 w va (vs.map fun v=>.int .i64 v)) (hS1:B5 w (some ⟨gs,0,none⟩) (S.map fun v=>.int .i64 v)) (hS2:B5 w sa (S.map fun v=>.int .i64 v))
 {A:Array Value} (hA:G0 301 A [(2,.pointer (some ⟨b2,0,none⟩)),(5,.slice (some ⟨ga,0,none⟩) (vs.length+1) gc),(6,.slice (some ⟨gs,0,none⟩) (S.length+1) gq),(10,.pointer (some ⟨bb,0,none⟩)),(23,.pointer (some ⟨bc,0,none⟩))]) {main:Bool} {Stop:Goroutine→World→Prop}
 (K:∀A u,Sm w u→G0 301 A [(4,.bool true)]→J0 Try.prog main F0 Stop (G {(Go.Conc.base 7).at ⟨A,[]⟩ [.code .ret]with mode:=.returning} []) u):
 J0 Try.prog main F0 Stop (G ((Go.Conc.base 7).at ⟨A,[]⟩ [.code b0Y]) []) w:=by
 have hi1:(vs.length:Int)<(vs.length:Int)+1:=by omega
 have hi2:(S.length:Int)<(S.length:Int)+1:=by omega
 have hs:Sm w w:=fun _ _=>rfl
 have hS:∀u d,Sm w u→Sm w (World.at u d):=fun u d h=>h
 obtain⟨hsz,h2,h5,h6,h10,h23,_⟩:=hA
 obtain⟨t,rfl⟩:=y0v hsz
 change t 2=_ at h2
 change t 5=_ at h5
 change t 6=_ at h6
 change t 10=_ at h10
 change t 23=_ at h23
 clear hsz
 simp only[D1,h2,h5,h6,h10,h23]
 clear h2 h5 h6 h10 h23
 refine F0v j0M ?_
 rw[q0v]
 refine T8 (Sm w) (last:=41) E2 (z8 (by kernel_rfl)) (by decide) ?_
 simp only[c0Q,o0,Try.f7,zz,Nat.reduceAdd]
 refine G9 hS (fun _ _ d h=>h.at d) (i:=0) (v:=.agg #[.slice aa1 n ac1,.slice oa1 ol oc1,.slice xa1 xl xc1,.bool st]) hs rfl rfl (by kernel_rfl) (by kernel_rfl) (by kernel_rfl) (fun u hu=>.inl ⟨rfl,fun d=>⟨by simp[go_sem,execOp,Act.eval,hu.c b0,hu.c b1,hu.c b2e,hu.c b3],fun e he=>by have hm:=mem_listed he;simp[go_sem,execOp,Act.eval,hu.c b0,hu.c b1,hu.c b2e,hu.c b3]at hm;rcases hm with rfl|rfl|rfl|rfl<;>exact I1 _ _⟩⟩) ?_
 walk_nrm
 refine G9 hS (fun _ _ d h=>h.at d) (i:=1) (v:=.agg #[.slice aa2 n ac2,.slice oa2 ol oc2,.slice xa2 xl xc2,.bool st]) hs rfl rfl (by kernel_rfl) (by kernel_rfl) (by kernel_rfl) (fun u hu=>.inl ⟨rfl,fun d=>⟨by simp[go_sem,execOp,Act.eval,hu.c c0,hu.c c1,hu.c c2,hu.c c3],fun e he=>by have hm:=mem_listed he;simp[go_sem,execOp,Act.eval,hu.c c0,hu.c c1,hu.c c2,hu.c c3]at hm;rcases hm with rfl|rfl|rfl|rfl<;>exact I1 _ _⟩⟩) ?_
 walk_nrm
 refine Z2 (r:=[2]) (by kernel_rfl) (by kernel_rfl) (fun j hj hjl=>?_)
 obtain rfl:j=2:=by simpa using hj
 refine⟨_,rfl,.inr (.inr ⟨rfl,14,#[.agg #[.slice aa1 n ac1,.slice oa1 ol oc1,.slice xa1 xl xc1,.bool st],.agg #[.slice aa2 n ac2,.slice oa2 ol oc2,.slice xa2 xl xc2,.bool st]],fun v w'=>v= .bool true∧Sm w w',fun w=>by simp[execOp,Act.eval,resolve,invoke,Deferred.ofValue,callable14.run],fun w=>by simp[execOp,Act.eval,resolve,invoke,Deferred.ofValue,callable14.run,callable14.quiet],fun c cs Stop k=>N7 r08 F6 Try.func14 rfl (by kernel_rfl) (R:=fun v w'=>v= .bool true∧Sm w w') (fun τ e=>hT τ e) fun v w' τ e hR hg=>k v w' hR,?_⟩)⟩
 rintro v w1 ⟨rfl,k1⟩
 refine⟨k1,?_⟩
 have hs:=k1
 walk_nrm
 refine G9 hS (fun _ _ d h=>h.at d) (i:=3) (v:=.bool true) hs rfl rfl (by kernel_rfl) (by kernel_rfl) (by kernel_rfl) (fun u hu=>.inl ⟨rfl,fun d=>⟨by simp[go_sem,execOp,Act.eval],fun e he=>by have hm:=mem_listed he;simp[go_sem,execOp,Act.eval]at hm⟩⟩) ?_
 walk_nrm
 refine G9 hS (fun _ _ d h=>h.at d) (i:=4) (v:=.slice (some ⟨ga,0,none⟩) (vs.length+1) gc) hs rfl rfl (by kernel_rfl) (by kernel_rfl) (by kernel_rfl) (fun u hu=>.inl ⟨rfl,fun d=>⟨by simp[go_sem,execOp,Act.eval],fun e he=>by have hm:=mem_listed he;simp[go_sem,execOp,Act.eval]at hm⟩⟩) ?_
 walk_nrm
 refine G9 hS (fun _ _ d h=>h.at d) (i:=5) (v:=.pointer (some ⟨b2,0,none⟩)) hs rfl rfl (by kernel_rfl) (by kernel_rfl) (by kernel_rfl) (fun u hu=>.inl ⟨rfl,fun d=>⟨by simp[go_sem,execOp,Act.eval],fun e he=>by have hm:=mem_listed he;simp[go_sem,execOp,Act.eval]at hm⟩⟩) ?_
 walk_nrm
 refine G9 hS (fun _ _ d h=>h.at d) (i:=6) (v:=.slice va vs.length vc) hs rfl rfl (by kernel_rfl) (by kernel_rfl) (by kernel_rfl) (fun u hu=>.inl ⟨rfl,fun d=>⟨by simp[go_sem,execOp,Act.eval,hu.c q0],fun e he=>by have hm:=mem_listed he;simp[go_sem,execOp,Act.eval,hu.c q0]at hm;subst hm;exact I1 _ _⟩⟩) ?_
 walk_nrm
 refine G9 hS (fun _ _ d h=>h.at d) (i:=7) (v:=.int .i64 (vs.length:Nat)) hs rfl rfl (by kernel_rfl) (by kernel_rfl) (by kernel_rfl) (fun u hu=>.inl ⟨rfl,fun d=>⟨by simp[go_sem,execOp,Act.eval],fun e he=>by have hm:=mem_listed he;simp[go_sem,execOp,Act.eval]at hm⟩⟩) ?_
 walk_nrm
 refine G9 hS (fun _ _ d h=>h.at d) (i:=8) (v:=.pointer (some ⟨ga,vs.length,none⟩)) hs rfl rfl (by kernel_rfl) (by kernel_rfl) (by kernel_rfl) (fun u hu=>.inl ⟨rfl,fun d=>⟨by simp[go_sem,execOp,Act.eval,hi1],fun e he=>by have hm:=mem_listed he;simp[go_sem,execOp,Act.eval,hi1]at hm⟩⟩) ?_
 walk_nrm
 refine G9 hS (fun _ _ d h=>h.at d) (i:=9) (v:=.int .i64 77) hs rfl rfl (by kernel_rfl) (by kernel_rfl) (by kernel_rfl) (fun u hu=>.inl ⟨rfl,fun d=>⟨by simp[go_sem,execOp,Act.eval,hu.c g77],fun e he=>by have hm:=mem_listed he;simp[go_sem,execOp,Act.eval,hu.c g77]at hm;subst hm;exact I1 _ _⟩⟩) ?_
 walk_nrm
 refine G9 hS (fun _ _ d h=>h.at d) (i:=10) (v:=.bool true) hs rfl rfl (by kernel_rfl) (by kernel_rfl) (by kernel_rfl) (fun u hu=>.inl ⟨rfl,fun d=>⟨by simp[go_sem,execOp,Act.eval],fun e he=>by have hm:=mem_listed he;simp[go_sem,execOp,Act.eval]at hm⟩⟩) ?_
 walk_nrm
 refine G9 hS (fun _ _ d h=>h.at d) (i:=11) (v:=.bool true) hs rfl rfl (by kernel_rfl) (by kernel_rfl) (by kernel_rfl) (fun u hu=>.inl ⟨rfl,fun d=>⟨by simp[go_sem,execOp,Act.eval],fun e he=>by have hm:=mem_listed he;simp[go_sem,execOp,Act.eval]at hm⟩⟩) ?_
 walk_nrm
 refine G9 hS (fun _ _ d h=>h.at d) (i:=12) (v:=.bool true) hs rfl rfl (by kernel_rfl) (by kernel_rfl) (by kernel_rfl) (fun u hu=>.inl ⟨rfl,fun d=>⟨by simp[go_sem,execOp,Act.eval],fun e he=>by have hm:=mem_listed he;simp[go_sem,execOp,Act.eval]at hm⟩⟩) ?_
 walk_nrm
 refine G9 hS (fun _ _ d h=>h.at d) (i:=13) (v:=.slice (some ⟨gs,0,none⟩) (S.length+1) gq) hs rfl rfl (by kernel_rfl) (by kernel_rfl) (by kernel_rfl) (fun u hu=>.inl ⟨rfl,fun d=>⟨by simp[go_sem,execOp,Act.eval],fun e he=>by have hm:=mem_listed he;simp[go_sem,execOp,Act.eval]at hm⟩⟩) ?_
 walk_nrm
 refine G9 hS (fun _ _ d h=>h.at d) (i:=14) (v:=.pointer (some ⟨b2,2,none⟩)) hs rfl rfl (by kernel_rfl) (by kernel_rfl) (by kernel_rfl) (fun u hu=>.inl ⟨rfl,fun d=>⟨by simp[go_sem,execOp,Act.eval],fun e he=>by have hm:=mem_listed he;simp[go_sem,execOp,Act.eval]at hm⟩⟩) ?_
 walk_nrm
 refine G9 hS (fun _ _ d h=>h.at d) (i:=15) (v:=.slice sa S.length sc) hs rfl rfl (by kernel_rfl) (by kernel_rfl) (by kernel_rfl) (fun u hu=>.inl ⟨rfl,fun d=>⟨by simp[go_sem,execOp,Act.eval,hu.c q2],fun e he=>by have hm:=mem_listed he;simp[go_sem,execOp,Act.eval,hu.c q2]at hm;subst hm;exact I1 _ _⟩⟩) ?_
 walk_nrm
 refine G9 hS (fun _ _ d h=>h.at d) (i:=16) (v:=.int .i64 (S.length:Nat)) hs rfl rfl (by kernel_rfl) (by kernel_rfl) (by kernel_rfl) (fun u hu=>.inl ⟨rfl,fun d=>⟨by simp[go_sem,execOp,Act.eval],fun e he=>by have hm:=mem_listed he;simp[go_sem,execOp,Act.eval]at hm⟩⟩) ?_
 walk_nrm
 refine G9 hS (fun _ _ d h=>h.at d) (i:=17) (v:=.pointer (some ⟨gs,S.length,none⟩)) hs rfl rfl (by kernel_rfl) (by kernel_rfl) (by kernel_rfl) (fun u hu=>.inl ⟨rfl,fun d=>⟨by simp[go_sem,execOp,Act.eval,hi2],fun e he=>by have hm:=mem_listed he;simp[go_sem,execOp,Act.eval,hi2]at hm⟩⟩) ?_
 walk_nrm
 refine G9 hS (fun _ _ d h=>h.at d) (i:=18) (v:=.int .i64 88) hs rfl rfl (by kernel_rfl) (by kernel_rfl) (by kernel_rfl) (fun u hu=>.inl ⟨rfl,fun d=>⟨by simp[go_sem,execOp,Act.eval,hu.c g88],fun e he=>by have hm:=mem_listed he;simp[go_sem,execOp,Act.eval,hu.c g88]at hm;subst hm;exact I1 _ _⟩⟩) ?_
 walk_nrm
 refine G9 hS (fun _ _ d h=>h.at d) (i:=19) (v:=.bool true) hs rfl rfl (by kernel_rfl) (by kernel_rfl) (by kernel_rfl) (fun u hu=>.inl ⟨rfl,fun d=>⟨by simp[go_sem,execOp,Act.eval],fun e he=>by have hm:=mem_listed he;simp[go_sem,execOp,Act.eval]at hm⟩⟩) ?_
 walk_nrm
 refine G9 hS (fun _ _ d h=>h.at d) (i:=20) (v:=.bool true) hs rfl rfl (by kernel_rfl) (by kernel_rfl) (by kernel_rfl) (fun u hu=>.inl ⟨rfl,fun d=>⟨by simp[go_sem,execOp,Act.eval],fun e he=>by have hm:=mem_listed he;simp[go_sem,execOp,Act.eval]at hm⟩⟩) ?_
 walk_nrm
 refine G9 hS (fun _ _ d h=>h.at d) (i:=21) (v:=.bool true) hs rfl rfl (by kernel_rfl) (by kernel_rfl) (by kernel_rfl) (fun u hu=>.inl ⟨rfl,fun d=>⟨by simp[go_sem,execOp,Act.eval],fun e he=>by have hm:=mem_listed he;simp[go_sem,execOp,Act.eval]at hm⟩⟩) ?_
 walk_nrm
 refine G9 hS (fun _ _ d h=>h.at d) (i:=22) (v:=.slice (some ⟨ga,0,none⟩) (vs.length+1) gc) hs rfl rfl (by kernel_rfl) (by kernel_rfl) (by kernel_rfl) (fun u hu=>.inl ⟨rfl,fun d=>⟨by simp[go_sem,execOp,Act.eval],fun e he=>by have hm:=mem_listed he;simp[go_sem,execOp,Act.eval]at hm⟩⟩) ?_
 walk_nrm
 refine G9 hS (fun _ _ d h=>h.at d) (i:=23) (v:=.pointer (some ⟨b2,0,none⟩)) hs rfl rfl (by kernel_rfl) (by kernel_rfl) (by kernel_rfl) (fun u hu=>.inl ⟨rfl,fun d=>⟨by simp[go_sem,execOp,Act.eval],fun e he=>by have hm:=mem_listed he;simp[go_sem,execOp,Act.eval]at hm⟩⟩) ?_
 walk_nrm
 refine G9 hS (fun _ _ d h=>h.at d) (i:=24) (v:=.slice va vs.length vc) hs rfl rfl (by kernel_rfl) (by kernel_rfl) (by kernel_rfl) (fun u hu=>.inl ⟨rfl,fun d=>⟨by simp[go_sem,execOp,Act.eval,hu.c q0],fun e he=>by have hm:=mem_listed he;simp[go_sem,execOp,Act.eval,hu.c q0]at hm;subst hm;exact I1 _ _⟩⟩) ?_
 walk_nrm
 refine G9 hS (fun _ _ d h=>h.at d) (i:=25) (v:=.int .i64 (vs.length:Nat)) hs rfl rfl (by kernel_rfl) (by kernel_rfl) (by kernel_rfl) (fun u hu=>.inl ⟨rfl,fun d=>⟨by simp[go_sem,execOp,Act.eval],fun e he=>by have hm:=mem_listed he;simp[go_sem,execOp,Act.eval]at hm⟩⟩) ?_
 walk_nrm
 refine G9 hS (fun _ _ d h=>h.at d) (i:=26) (v:=.slice (some ⟨ga,0,none⟩) vs.length gc) hs rfl rfl (by kernel_rfl) (by kernel_rfl) (by kernel_rfl) (fun u hu=>.inl ⟨rfl,fun d=>⟨by simp[go_sem,execOp,Act.eval,d04 hgc,a0L hgc],fun e he=>by have hm:=mem_listed he;simp[go_sem,execOp,Act.eval,d04 hgc,a0L hgc]at hm⟩⟩) ?_
 walk_nrm
 refine G9 hS (fun _ _ d h=>h.at d) (i:=27) (v:=.pointer (some ⟨b2,0,none⟩)) hs rfl rfl (by kernel_rfl) (by kernel_rfl) (by kernel_rfl) (fun u hu=>.inl ⟨rfl,fun d=>⟨by simp[go_sem,execOp,Act.eval],fun e he=>by have hm:=mem_listed he;simp[go_sem,execOp,Act.eval]at hm⟩⟩) ?_
 walk_nrm
 refine G9 hS (fun _ _ d h=>h.at d) (i:=28) (v:=.slice va vs.length vc) hs rfl rfl (by kernel_rfl) (by kernel_rfl) (by kernel_rfl) (fun u hu=>.inl ⟨rfl,fun d=>⟨by simp[go_sem,execOp,Act.eval,hu.c q0],fun e he=>by have hm:=mem_listed he;simp[go_sem,execOp,Act.eval,hu.c q0]at hm;subst hm;exact I1 _ _⟩⟩) ?_
 walk_nrm
 refine Z2 (r:=[29]) (by kernel_rfl) (by kernel_rfl) (fun j hj hjl=>?_)
 obtain rfl:j=29:=by simpa using hj
 refine⟨_,rfl,.inr (.inr ⟨rfl,22,#[.slice (some ⟨ga,0,none⟩) vs.length gc,.slice va vs.length vc],fun v w'=>v= .bool true∧w'.heap=w1.heap,fun w=>by simp[execOp,Act.eval,resolve,invoke,Deferred.ofValue,callable22.run],fun w=>by simp[execOp,Act.eval,resolve,invoke,Deferred.ofValue,callable22.run,callable22.quiet],fun c cs Stop k=>N7 e0B F6 Try.func22 rfl (by kernel_rfl) (R:=fun v w'=>v= .bool true∧w'.heap=w1.heap) (fun τ e=>h0S (w:=retape w1 τ e) hvl ((hV1.olds k1).heap rfl) ((hV2.olds k1).heap rfl)) fun v w' τ e hR hg=>k v w' hR,?_⟩)⟩
 rintro v w2 ⟨rfl,k2⟩
 have k2:Sm w w2:=fun r hr=>by rw[k2];exact k1 r hr
 refine⟨k2,?_⟩
 have hs:=k2
 walk_nrm
 refine G9 hS (fun _ _ d h=>h.at d) (i:=30) (v:=.bool true) hs rfl rfl (by kernel_rfl) (by kernel_rfl) (by kernel_rfl) (fun u hu=>.inl ⟨rfl,fun d=>⟨by simp[go_sem,execOp,Act.eval],fun e he=>by have hm:=mem_listed he;simp[go_sem,execOp,Act.eval]at hm⟩⟩) ?_
 walk_nrm
 refine G9 hS (fun _ _ d h=>h.at d) (i:=31) (v:=.bool true) hs rfl rfl (by kernel_rfl) (by kernel_rfl) (by kernel_rfl) (fun u hu=>.inl ⟨rfl,fun d=>⟨by simp[go_sem,execOp,Act.eval],fun e he=>by have hm:=mem_listed he;simp[go_sem,execOp,Act.eval]at hm⟩⟩) ?_
 walk_nrm
 refine G9 hS (fun _ _ d h=>h.at d) (i:=32) (v:=.slice (some ⟨gs,0,none⟩) (S.length+1) gq) hs rfl rfl (by kernel_rfl) (by kernel_rfl) (by kernel_rfl) (fun u hu=>.inl ⟨rfl,fun d=>⟨by simp[go_sem,execOp,Act.eval],fun e he=>by have hm:=mem_listed he;simp[go_sem,execOp,Act.eval]at hm⟩⟩) ?_
 walk_nrm
 refine G9 hS (fun _ _ d h=>h.at d) (i:=33) (v:=.pointer (some ⟨b2,2,none⟩)) hs rfl rfl (by kernel_rfl) (by kernel_rfl) (by kernel_rfl) (fun u hu=>.inl ⟨rfl,fun d=>⟨by simp[go_sem,execOp,Act.eval],fun e he=>by have hm:=mem_listed he;simp[go_sem,execOp,Act.eval]at hm⟩⟩) ?_
 walk_nrm
 refine G9 hS (fun _ _ d h=>h.at d) (i:=34) (v:=.slice sa S.length sc) hs rfl rfl (by kernel_rfl) (by kernel_rfl) (by kernel_rfl) (fun u hu=>.inl ⟨rfl,fun d=>⟨by simp[go_sem,execOp,Act.eval,hu.c q2],fun e he=>by have hm:=mem_listed he;simp[go_sem,execOp,Act.eval,hu.c q2]at hm;subst hm;exact I1 _ _⟩⟩) ?_
 walk_nrm
 refine G9 hS (fun _ _ d h=>h.at d) (i:=35) (v:=.int .i64 (S.length:Nat)) hs rfl rfl (by kernel_rfl) (by kernel_rfl) (by kernel_rfl) (fun u hu=>.inl ⟨rfl,fun d=>⟨by simp[go_sem,execOp,Act.eval],fun e he=>by have hm:=mem_listed he;simp[go_sem,execOp,Act.eval]at hm⟩⟩) ?_
 walk_nrm
 refine G9 hS (fun _ _ d h=>h.at d) (i:=36) (v:=.slice (some ⟨gs,0,none⟩) S.length gq) hs rfl rfl (by kernel_rfl) (by kernel_rfl) (by kernel_rfl) (fun u hu=>.inl ⟨rfl,fun d=>⟨by simp[go_sem,execOp,Act.eval,m0a hgq,i0z hgq],fun e he=>by have hm:=mem_listed he;simp[go_sem,execOp,Act.eval,m0a hgq,i0z hgq]at hm⟩⟩) ?_
 walk_nrm
 refine G9 hS (fun _ _ d h=>h.at d) (i:=37) (v:=.pointer (some ⟨b2,2,none⟩)) hs rfl rfl (by kernel_rfl) (by kernel_rfl) (by kernel_rfl) (fun u hu=>.inl ⟨rfl,fun d=>⟨by simp[go_sem,execOp,Act.eval],fun e he=>by have hm:=mem_listed he;simp[go_sem,execOp,Act.eval]at hm⟩⟩) ?_
 walk_nrm
 refine G9 hS (fun _ _ d h=>h.at d) (i:=38) (v:=.slice sa S.length sc) hs rfl rfl (by kernel_rfl) (by kernel_rfl) (by kernel_rfl) (fun u hu=>.inl ⟨rfl,fun d=>⟨by simp[go_sem,execOp,Act.eval,hu.c q2],fun e he=>by have hm:=mem_listed he;simp[go_sem,execOp,Act.eval,hu.c q2]at hm;subst hm;exact I1 _ _⟩⟩) ?_
 walk_nrm
 refine Z2 (r:=[39]) (by kernel_rfl) (by kernel_rfl) (fun j hj hjl=>?_)
 obtain rfl:j=39:=by simpa using hj
 refine⟨_,rfl,.inr (.inr ⟨rfl,29,#[.slice (some ⟨gs,0,none⟩) S.length gq,.slice sa S.length sc],fun v w'=>v= .bool true∧w'.heap=w2.heap,fun w=>by simp[execOp,Act.eval,resolve,invoke,Deferred.ofValue,callable29.run],fun w=>by simp[execOp,Act.eval,resolve,invoke,Deferred.ofValue,callable29.run,callable29.quiet],fun c cs Stop k=>N7 j0X F6 Try.func29 rfl (by kernel_rfl) (R:=fun v w'=>v= .bool true∧w'.heap=w2.heap) (fun τ e=>n0V (w:=retape w2 τ e) hsl ((hS1.olds k2).heap rfl) ((hS2.olds k2).heap rfl)) fun v w' τ e hR hg=>k v w' hR,?_⟩)⟩
 rintro v w3 ⟨rfl,k3⟩
 have k3:Sm w w3:=fun r hr=>by rw[k3];exact k2 r hr
 refine⟨k3,?_⟩
 have hs:=k3
 walk_nrm
 refine G9 hS (fun _ _ d h=>h.at d) (i:=40) (v:=.bool true) hs rfl rfl (by kernel_rfl) (by kernel_rfl) (by kernel_rfl) (fun u hu=>.inl ⟨rfl,fun d=>⟨by simp[go_sem,execOp,Act.eval],fun e he=>by have hm:=mem_listed he;simp[go_sem,execOp,Act.eval]at hm⟩⟩) ?_
 walk_nrm
 refine F9 (by kernel_rfl) ?_ _
 (refine oW fun dd K hK=>?_;go_simp;refine qT hK ?_;clear hK K)
 refine S0 ?_
 refine ogX ?_
 refine K _ w3 k3 ?_
 exact⟨rfl,rfl,trivial⟩
end
section
variable{An:G3}{w w0 w' u u' W:World}
theorem k0x{base n size:Nat}{e:TypeId}{v:Value}{xs:List Value}(h:u.ownsRow base e size v n xs):v= .slice (w9 v) n (slC v)∧n≤slC v∧((w9 v=none∧n=0∧slC v=0)∨∃pb,w9 v=some ⟨pb,0,none⟩):=by
 rcases h.2 with⟨rfl,rfl⟩|⟨b,cap,cur,rfl,h3,h4,h5,h6,h7,h8⟩
 ·exact⟨rfl,Nat.le_refl _,.inl ⟨rfl,rfl,rfl⟩⟩
 ·exact⟨rfl,h5,.inr ⟨b,rfl⟩⟩
theorem u7{a b:Nat}{c d:Array Value}{e f:TypeId}{y z:Nat×Nat}(h:w.heap[a]? =some (.cells c e y))(k:w.heap[b]? =some (.cells d f z))(he:e≠f):a≠b:=by
 rintro rfl
 rw[h]at k
 simp only[Option.some.injEq,Obj.cells.injEq]at k
 exact he k.2.1
section
variable{tl tb to:Nat}{ta:Option Addr}{oa:Nat→Option Addr}{oc:Nat→Nat}{Lf:Nat→List P3}{ops:Nat→List P3}{S:List Int}
theorem k0d{ov:Value}{rv:Nat→Value}{L:Nat→List P3}{gs gq:Nat}(hN:w5 w0 u tl ov rv L)(hL:∀j,j<tl→L j=Lf j)(hops:∀j,j<min tl 64→ops j=(Lf j).take 65536)(hs:S.length<9223372036854775808)(hS:u.ownsRow 0 3 1 (vL gs 0 (S.length+1) gq) (S.length+1) ((S.map fun v=>vI v)++[vI 88])):
 ∃tb',y6 u (fun _=>False) (min tl 64) tb' 0 tl (w9 ov) (fun j=>w9 (rv j)) (fun j=>(Lf j).length) (fun j=>slC (rv j)) ops S (some ⟨gs,0,none⟩):=by
 have hc:∀j,j<tl→∃cap b,ov=vL b 0 tl cap∧At u ⟨b,j,none⟩ (rv j):=fun j hj=>by
  obtain⟨b,cap,a1,a2⟩:=M5 (k:=j) (x:=rv j) hN.row (by rw[List.getElem?_map,List.getElem?_range hj];rfl)
  exact⟨cap,b,a1,a2⟩
 obtain⟨tb',htb⟩:∃tb',0<tl→w9 ov=some ⟨tb',0,none⟩:=by
  by_cases h0:0<tl
  ·obtain⟨cap,b,a1,a2⟩:=hc 0 h0
   exact⟨b,fun _=>by rw[a1];rfl⟩
  ·exact⟨0,fun h=>absurd h h0⟩
 have hat:∀j,j<tl→At u ⟨tb',j,none⟩ (rv j):=fun j hj=>by
  obtain⟨cap,b,a1,a2⟩:=hc j hj
  have e4:=htb (by omega)
  rw[a1]at e4
  have e5:b=tb':=by simp only[w9,Option.some.injEq,Addr.mk.injEq]at e4;exact e4.1
  rw[← e5];exact a2
 have hrow:∀j,j<tl→u.ownsRow 0 47 4 (rv j) (Lf j).length (opC (Lf j)):=fun j hj=>by rw[← hL j hj];exact(hN.rs j hj).1
 refine⟨tb',rfl,fun h=>htb (by omega),fun h=>?_,fun j hj=>?_,fun j hj=>?_,fun j hj i x hx=>?_,hs,fun hp=>?_⟩
 ·obtain⟨c,e,z,e1⟩:=M3 (hat 0 (by omega)).c
  exact(Q3 e1)
 ·obtain⟨f1,f2,_⟩:=k0x (hrow j (by omega))
  have h:=hat j (by omega)
  rw[f1]at h
  rw[Nat.zero_add]
  exact⟨h.c,h.z,f2⟩
 ·rw[hops j hj,List.length_take,Nat.min_comm]
 ·rw[hops j hj]at hx
  have hx2:(Lf j)[i]? =some x:=by
   have hl:=(List.getElem?_eq_some_iff.1 hx).1
   rw[List.length_take]at hl
   rw[List.getElem?_take_of_lt (by omega)]at hx
   exact hx
  obtain⟨g0,g1,g2,g3⟩:=a0x _ _ _ hx2
  have hr:=hrow j (by omega)
  obtain⟨b,cap,a1,a2⟩:=M5 hr g0
  obtain⟨b1,cap1,b1e,a3⟩:=M5 hr g1
  obtain⟨b2,cap2,b2e,a4⟩:=M5 hr g2
  obtain⟨b3,cap3,b3e,a5⟩:=M5 hr g3
  rw[a1]at b1e b2e b3e
  cases b1e
  cases b2e
  cases b3e
  refine⟨b,0,by rw[a1];rfl,fun h=>h,?_⟩
  rw[Nat.zero_add]
  exact⟨a2.c,a3.c,a4.c,a5.c,a2.z,a3.z,a4.z,a5.z⟩
 ·rcases hS.2 with⟨e,_⟩|⟨g,cap,cur,e,h2,h3,h4,h5,h6,h7⟩
  ·cases e
  ·cases e
   refine⟨gs,0,cur,3,(0,0),rfl,fun h=>h,h3,fun k x hx=>⟨?_,by simp⟩⟩
   have hl:=(List.getElem?_eq_some_iff.1 hx).1
   have e1:((S.map fun i:Int=>Value.int .i64 i)++[vI 88])[k]? =some x:=by rw[List.getElem?_append_left hl];exact hx
   rw[← h7]at e1
   have e2:=(List.getElem?_eq_some_iff.1 e1).1
   rw[List.length_take]at e2
   rw[List.getElem?_take_of_lt (by omega)]at e1
   rw[Nat.zero_add]
   simpa using e1
structure ScI(w:World)(va ta sa:Option Addr)(vs S:List Int)(vc tl tb to sc:Nat)(mo:Int)(M:Nat)(oa:Nat→Option Addr)(oc:Nat→Nat)(Lf ops:Nat→List P3):Prop where
 v:o5 w va vs
 vn:va=none→vs=[]∧vc=0
 vl:vs.length≤1048576
 s:o5 w sa S
 sn:sa=none→S=[]∧sc=0
 sl:S.length≤1048576
 t:ThF w tl tb to ta oa oc Lf
 tn:tl≤1048576
 o:y6 w (fun _=>False) (min tl 64) tb to tl ta oa (fun j=>(Lf j).length) oc ops S sa
 op:∀j,j<min tl 64→ops j=(Lf j).take 65536
 hM:min (max mo 0) 1048576=(M:Int)
theorem o5.oldC{va:Option Addr}{vs:List Int}(h:o5 w va vs)(k:M2 w u):o5 u va vs:=fun i x hx=>by
 obtain⟨b,o,e,h1⟩:=h i x hx
 exact⟨b,o,e,k.c h1⟩
variable{va sa:Option Addr}{vs:List Int}{vc sc M:Nat}{mo:Int}
theorem ScI.oldC(h:ScI w va ta sa vs S vc tl tb to sc mo M oa oc Lf ops)(k:M2 w u):ScI u va ta sa vs S vc tl tb to sc mo M oa oc Lf ops:=
 ⟨h.v.oldC k,h.vn,h.vl,h.s.oldC k,h.sn,h.sl,h.t.oldC k,h.tn,h.o.kept8 k.1 k.2,h.op,h.hM⟩
structure BxI(w:World)(b:Nat)(v0 v1 v2 v3:Value):Prop where
 q0:w.cell? ⟨b,0,none⟩=some v0
 q1:w.cell? ⟨b,1,none⟩=some v1
 q2:w.cell? ⟨b,2,none⟩=some v2
 q3:w.cell? ⟨b,3,none⟩=some v3
theorem BxI.oldC{b:Nat}{v0 v1 v2 v3:Value}(h:BxI w b v0 v1 v2 v3)(k:M2 w u):BxI u b v0 v1 v2 v3:=⟨k.c h.q0,k.c h.q1,k.c h.q2,k.c h.q3⟩
theorem BxI.of{b:Nat}{v0 v1 v2 v3:Value}(h:w.heap[b]? =some (.cells #[v0,v1,v2,v3] 26 (0,0))):BxI w b v0 v1 v2 v3:=by
 constructor<;>simp[World.cell?,h]
structure Cps(w0 u:World)(vs S:List Int)(tl ga gc gs gq:Nat)(Lf:Nat→List P3)(ov:Value)(rv:Nat→Value):Prop where
 k:S1 w0 u
 hg:w0.ownsRow 0 2 1 (vL ga 0 (vs.length+1) gc) (vs.length+1) ((vs.map fun v=>vI v)++[vI 77])
 hs:w0.ownsRow 0 3 1 (vL gs 0 (S.length+1) gq) (S.length+1) ((S.map fun v=>vI v)++[vI 88])
 hgc:vs.length≤gc
 hgq:S.length≤gq
 hn:∃L,w5 w0 u tl ov rv L∧∀j,j<tl→L j=Lf j
 dj:e0x rv tl
theorem x0E{b2 tc:Nat}{x3:Value}(H:ScI w va ta sa vs S vc tl tb to sc mo M oa oc Lf ops)(B:BxI w b2 (.slice va vs.length vc) (.slice ta tl tc) (.slice sa S.length sc) (vI mo)){Stop:Goroutine→World→Prop}{A:Array Value}(hA:G0 301 A [(2,vP b2 0),(3,x3)])
 (K:∀A w0 u ga gc gs gq ov rv,S1 w w0→Cps w0 u vs S tl ga gc gs gq Lf ov rv→G0 301 A [(2,vP b2 0),(3,x3),(5,vL ga 0 (vs.length+1) gc),(6,vL gs 0 (S.length+1) gq),(7,ov)]→J0 Try.prog true F0 Stop (G (bA 7 A [.code l7,.code O5]) []) u):
 J0 Try.prog true F0 Stop (G (bA 7 A [.code skpr3,.code i0y]) []) w:=by
 refine n0R e0B F6 (by kernel_rfl) (by decide) (R:=fun A u=>∃ga gc,G0 301 A [(2,vP b2 0),(3,x3),(5,vL ga 0 (vs.length+1) gc)]∧InE 2 w vs 77 ga gc u) (fun τ e=>Y0 (y0n (w:=retape w τ e) B.q0 H.v H.vn H.vl hA) fun a u ⟨h1,ga,gc,h2,h3⟩=>⟨h1,ga,gc,h2,⟨h3.row,⟨h3.k.1,h3.k.2⟩,h3.new,h3.cap⟩⟩) fun A w3 τ e ⟨ga,gc,hA,hI⟩ _=>?_
 have hI3:InE 2 w vs 77 ga gc w3:=⟨hI.row,⟨hI.k.1,hI.k.2⟩,hI.new,hI.cap⟩
 clear hI
 have B3:=B.oldC hI3.k.oldC
 have H3:=H.oldC hI3.k.oldC
 refine ogV skpr4 t0d ?_
 refine n0R e0B F6 (by kernel_rfl) (by decide) (R:=fun A u=>∃gs gq,G0 301 A [(2,vP b2 0),(3,x3),(5,vL ga 0 (vs.length+1) gc),(6,vL gs 0 (S.length+1) gq)]∧InE 3 w3 S 88 gs gq u) (fun τ e=>Y0 (y0o (w:=retape w3 τ e) B3.q2 H3.s H3.sn H3.sl hA) fun a u ⟨h1,ga,gc,h2,h3⟩=>⟨h1,ga,gc,h2,⟨h3.row,⟨h3.k.1,h3.k.2⟩,h3.new,h3.cap⟩⟩) fun A w4 τ e ⟨gs,gq,hA,hI⟩ _=>?_
 have hI4:InE 3 w3 S 88 gs gq w4:=⟨hI.row,⟨hI.k.1,hI.k.2⟩,hI.new,hI.cap⟩
 clear hI
 have B4:=B3.oldC hI4.k.oldC
 have H4:=H3.oldC hI4.k.oldC
 have hga:=K0 (W':=w4) hI3.row fun b hb _=>hI4.k.2 b (O3 hI3.row hb)
 refine ogV skpr5 l09 ?_
 refine n0R e0B F6 (by kernel_rfl) (by decide) (R:=fun A u=>G0 301 A [(2,vP b2 0),(3,x3),(5,vL ga 0 (vs.length+1) gc),(6,vL gs 0 (S.length+1) gq),(7,.slice none 0 0)]∧u.heap=w4.heap) (fun τ e=>Y0 (y0p (w:=retape w4 τ e) hA) fun a u h=>h) fun A w0 τ e ⟨hA,hu⟩ _=>?_
 have hu0:w0.heap=w4.heap:=hu
 clear hu
 have B0:=B4.oldC (M2.heap hu0)
 have H0:=H4.oldC (M2.heap hu0)
 refine ogV skps8 l05 ?_
 refine n0R e0B F6 (by kernel_rfl) (by decide) (R:=fun A u=>∃ov rv L,G0 301 A [(2,vP b2 0),(3,x3),(5,vL ga 0 (vs.length+1) gc),(6,vL gs 0 (S.length+1) gq),(7,ov)]∧w5 w0 u tl ov rv L∧(∀j,j<tl→L j=Lf j)∧e0x rv tl) (fun τ e=>Y0 (v0t (w:=retape w0 τ e) (H0.t.oldC ⟨Nat.le_refl _,fun _ _ _ _ h=>h⟩) B0.q1 H0.tn hA) fun a u ⟨h1,ov,rv,L,h2,h3,h4⟩=>⟨h1,ov,rv,L,h2,⟨h3.row,⟨h3.k.1,h3.k.2⟩,h3.new,h3.rs⟩,h4⟩) fun A wl τ e ⟨ov,rv,L,hA,hN,hL,hD⟩ _=>?_
 have hN1:w5 w0 wl tl ov rv L:=⟨hN.row,⟨hN.k.1,hN.k.2⟩,hN.new,hN.rs⟩
 refine ogV l7 O5 ?_
 have h3:=hI3.cap
 have h4:=hI4.cap
 exact K A w0 wl ga gc gs gq ov rv ((hI3.k.trans hI4.k).trans (S1.heap hu0)) ⟨hN1.k,K0 hga fun b _ _=>by rw[hu0],K0 hI4.row fun b _ _=>by rw[hu0],by omega,by omega,⟨L,hN1,hL⟩,hD⟩ hA
end
end
section
variable{F:Fz}{w:World}
theorem b0n{P:Program}{F:Fz}{b:Frame}{hd y:Code}{ci id:Nat}{I J:Nat→Array Value→World→Prop}{E:Array Value→World→Prop}{k:List Item}{cs:List Frame}{main:Bool}{Stop:Goroutine→World→Prop}
 (hhd:∀g A w k,I g A w→(∀A' w',A'.getD ci undef= .bool true→J g A' w'→J0 P main F Stop (G (b.at ⟨A',[]⟩ k) cs) w')→(∀A' w',A'.getD ci undef= .bool false→E A' w'→J0 P main F Stop (G (b.at ⟨A',[]⟩ k) cs) w')→J0 P main F Stop (G (b.at ⟨A,[]⟩ (.code hd::k)) cs) w)
 (hy:∀g A w k,J g A w→(∀g' A' w',g'<g→I g' A' w'→J0 P main F Stop (G (b.at ⟨A',[]⟩ k) cs) w')→J0 P main F Stop (G (b.at ⟨A,[]⟩ (.code y::k)) cs) w)
 {g:Nat} {A:Array Value} {w:World} (h:I g A w) (K:∀A' w',E A' w'→J0 P main F Stop (G (b.at ⟨A',[]⟩ k) cs) w'):
 J0 P main F Stop (G (b.at ⟨A,[]⟩ (.code (.block id (.loop (.seq (.seq hd (.cond (.tmp ci) .skip (.exit id))) y)))::k)) cs) w:=by
 refine L7<|ogP ?_
 have key:∀g A w,I g A w→J0 P main F Stop (G (b.at ⟨A,[]⟩ (.code (.seq (.seq hd (.cond (.tmp ci) .skip (.exit id))) y):: .inLoop (.seq (.seq hd (.cond (.tmp ci) .skip (.exit id))) y):: .inBlock id::k)) cs) w:=by
  intro g
  induction g using Nat.strongRecOn with
  | _ g ih=>
    intro A w hI
    refine ogS<|ogS ?_
    refine hhd g A w _ hI (fun A' w' hc hJ=>?_) (fun A' w' hc hE=>?_)
    ·refine Q0 rfl (fun d=>stepG_cond (t:=true) (by simpa [Act.eval]using hc)) ?_
     simp only[if_true]
     refine ogK ?_
     refine hy g A' w' _ hJ fun g' A2 w2 hg hI2=>?_
     refine ogL ?_
     exact ih g' hg A2 w2 hI2
    ·refine Q0 rfl (fun d=>stepG_cond (t:=false) (by simpa [Act.eval]using hc)) ?_
     simp only[Bool.false_eq_true,if_false]
     refine Q0 rfl (fun d=>stepG_exit (k':=k) (by simp[exitTo])) ?_
     exact K A' w' hE
 exact key g A w h
theorem e0d{t:TypeId}(ht:Try.prog.underlying t=some (.int .i64))(n:Nat)(a b:Int)(w:World)(es:Array Event):(Op.equalIn (n+1) t (vI a) (vI b)).events Try.prog w es=es:=by
 rw[Op.equalIn]
 simp[go_sem,run_underlying ht]
theorem m0v(a b c d a' b' c' d':Int)(w:World)(es:Array Event):(Op.equalIn 10000 47 (.agg #[vI a,vI b,vI c,vI d]) (.agg #[vI a',vI b',vI c',vI d'])).events Try.prog w es=es:=by
 have hs:Try.prog.stoodInHeld 47=false:=by kernel_rfl
 have e2:∀a b w es,(Op.equalIn 9999 2 (vI a) (vI b)).events Try.prog w es=es:=fun a b w es=>e0d Try.underlying2 9998 a b w es
 have e3:∀a b w es,(Op.equalIn 9999 3 (vI a) (vI b)).events Try.prog w es=es:=fun a b w es=>e0d Try.underlying3 9998 a b w es
 rw[show(10000:Nat)=9999+1 from rfl,Op.equalIn]
 simp only[Sem.events_bind,run_underlying Try.underlying47,Result.evThen_ok,events_underlying,run_program,events_program,hs,Bool.false_eq_true,if_false]
 rw[← Array.forIn_toList]
 simp[go_sem,List.forIn_cons,List.forIn_nil,e2,e3,Sem.events_bind]
@[go_sem] theorem x0p(a b c d a' b' c' d':Int)(w:World)(es:Array Event):(binOp .neq 47 (.agg #[vI a,vI b,vI c,vI d]) (.agg #[vI a',vI b',vI c',vI d'])).events Try.prog w es=es:=by
 have h:=m0v a b c d a' b' c' d' w es
 simp[binOp,go_sem,Op.equal,Op.maxDepth,h]
@[go_sem] theorem t0i(op:BinOp)(x y:Operand)(xs ys:Array Value)(w:World)(es:Array Event):(eqGuard op 47 x y (.agg xs) (.agg ys)).events Try.prog w es=es:=by
 have hm:Try.prog.eqGuardType Try.prog.depth 47=false:=by kernel_rfl
 cases op<;>simp[eqGuard,run_program,hm]
theorem o0K{b2 thb tl thc i k rb rl rc sb so tc pb po pq:Nat}{o:P3}{x3 x5 x6 x9 x10:Value}(hi:i<tl)(hk:k<rl)(h0:w.cell? ⟨thb,i,none⟩=some (vL rb 0 rl rc))(h1:w.cell? ⟨b2,1,none⟩=some (vL sb so tl tc))(h2:w.cell? ⟨sb,so+i,none⟩=some (vL pb po rl pq))(f0:w.cell? ⟨rb,k*4,none⟩=some (vI o.kd))(f1:w.cell? ⟨rb,k*4+1,none⟩=some (vI o.a))(f2:w.cell? ⟨rb,k*4+2,none⟩=some (vI o.b))(f3:w.cell? ⟨rb,k*4+3,none⟩=some (vI o.c))(g0:w.cell? ⟨pb,po+k*4,none⟩=some (vI o.kd))(g1:w.cell? ⟨pb,po+k*4+1,none⟩=some (vI o.a))(g2:w.cell? ⟨pb,po+k*4+2,none⟩=some (vI o.b))(g3:w.cell? ⟨pb,po+k*4+3,none⟩=some (vI o.c))
 {A:Array Value} (hA:G0 301 A [(2,vP b2 0),(3,x3),(5,x5),(6,x6),(7,vL thb 0 tl thc),(9,x9),(10,x10),(11,vI (i:Nat)),(12,vI (k:Nat))]) {kk:List Item} {cs:List Frame} {main:Bool} {Stop:Goroutine→World→Prop}
 (h:∀A u,Sm w u→G0 301 A [(2,vP b2 0),(3,x3),(5,x5),(6,x6),(7,vL thb 0 tl thc),(9,x9),(10,x10),(11,vI (i:Nat)),(12,vI (k:Nat))]→J0 Try.prog main F0 Stop (G (bA 7 A kk) cs) u):
 J0 Try.prog main F0 Stop (G (bA 7 A (.code h0o::kk)) cs) w:=by
 have hi2:(i:Int)<(tl:Int):=by omega
 have hk2:(k:Int)<(rl:Int):=by omega
 have hs:Sm w w:=fun _ _=>rfl
 have hS:∀u d,Sm w u→Sm w (World.at u d):=fun u d h=>h
 obtain⟨t,rfl,e2,e3,e5,e6,e7,e9,e10,e11,e12,_⟩:=Y3 D1 hA
 simp only[D1,e2,e3,e5,e6,e7,e9,e10,e11,e12]
 clear e2 e3 e5 e6 e7 e9 e10 e11 e12
 refine ogV c0O h0U ?_
 rw[q0u]
 refine T8 (Sm w) (last:=15) E2 (z8 (by kernel_rfl)) (by decide) ?_
 simp only[c0O,o0,Try.f7,zz,Nat.reduceAdd]
 refine c9 0 (vL thb 0 tl thc) hS hs ?_
 walk_nrm
 refine c9 1 (vI (i:Nat)) hS hs ?_
 walk_nrm
 refine t09 2 (vP thb i) (fun u hu=>hi2) hS hs ?_
 walk_nrm
 refine V9 3 (vL rb 0 rl rc) (fun u hu=>hu.c h0) hS hs ?_
 walk_nrm
 refine c9 4 (vI (k:Nat)) hS hs ?_
 walk_nrm
 refine t09 5 (vP rb (k*4)) (fun u hu=>hk2) hS hs ?_
 walk_nrm
 refine V9 6 (.agg #[vI o.kd,vI o.a,vI o.b,vI o.c]) (fun u hu=>(And.intro (hu.c f0) (And.intro (hu.c f1) (And.intro (hu.c f2) (hu.c f3))))) hS hs ?_
 walk_nrm
 refine c9 7 (vP b2 1) hS hs ?_
 walk_nrm
 refine V9 8 (vL sb so tl tc) (fun u hu=>hu.c h1) hS hs ?_
 walk_nrm
 refine c9 9 (vI (i:Nat)) hS hs ?_
 walk_nrm
 refine t09 10 (vP sb (so+i)) (fun u hu=>hi2) hS hs ?_
 walk_nrm
 refine V9 11 (vL pb po rl pq) (fun u hu=>hu.c h2) hS hs ?_
 walk_nrm
 refine c9 12 (vI (k:Nat)) hS hs ?_
 walk_nrm
 refine t09 13 (vP pb (po+k*4)) (fun u hu=>hk2) hS hs ?_
 walk_nrm
 refine V9 14 (.agg #[vI o.kd,vI o.a,vI o.b,vI o.c]) (fun u hu=>(And.intro (hu.c g0) (And.intro (hu.c g1) (And.intro (hu.c g2) (hu.c g3))))) hS hs ?_
 walk_nrm
 refine F9 (by kernel_rfl) ?_ _
 refine oT ?_
 refine S0<|ogGn .skip<|ogK ?_
 refine h _ w hs ?_
 exact⟨rfl,rfl,rfl,rfl,rfl,rfl,rfl,rfl,rfl,rfl,trivial⟩
end
section
variable{w w0 w' u u':World}
theorem Sm.fz{w u:World}{a:Addr}(h:Sm w u)(hl:a.block<w.heap.size):u.frozen? a=w.frozen? a:=by
 unfold World.frozen?;simp only[h _ hl]
theorem i2.of_sm{X:Nat→Prop}(h:Sm w u):i2 X w u:=
 ⟨h.size,fun r hr _=>h r hr,fun r c e z hc=>⟨c,(h r (Q3 hc)).trans hc,rfl⟩⟩
theorem y8.sm{rb k:Nat}{l:List P3}(h:y8 u rb l k)(hs:Sm u u')(hl:rb<u.heap.size):y8 u' rb l k:=
 ⟨fun j x hj hx=>by obtain⟨a,b,c,d⟩:=h.c j x hj hx;exact⟨hs.c a,hs.c b,hs.c c,hs.c d⟩,fun j x hx=>by
  obtain⟨a,b,c,d⟩:=h.z j x hx
  exact⟨(hs.fz hl).trans a,(hs.fz hl).trans b,(hs.fz hl).trans c,(hs.fz hl).trans d⟩⟩
section
variable{tl tb to tc b2 thb thc:Nat}{ta:Option Addr}{oa:Nat→Option Addr}{oc:Nat→Nat}{Lf:Nat→List P3}{rv:Nat→Value}{x3 x5 x6 x9 x10:Value}
theorem w0H(hT:ThF w0 tl tb to ta oa oc Lf)(q0:w0.cell? ⟨b2,1,none⟩=some (.slice ta tl tc)){i:Nat}(hi:i<tl)(hk:M2 w0 w)(ht:w.cell? ⟨thb,i,none⟩=some (rv i))(hr:w.ownsRow 0 47 4 (rv i) (Lf i).length (opC (Lf i)))(hn:∀g,(rv i).ownBlock=some g→w0.heap.size≤g∧g≠thb){A:Array Value}
 (hA:G0 301 A [(2,.pointer (some ⟨b2,0,none⟩)),(3,x3),(5,x5),(6,x6),(7,.slice (some ⟨thb,0,none⟩) tl thc),(9,x9),(10,x10),(11,.int .i64 (i:Nat))]) {kk:List Item} {cs:List Frame} {main:Bool} {Stop:Goroutine→World→Prop}
 (K:∀A u,G0 301 A [(2,.pointer (some ⟨b2,0,none⟩)),(3,x3),(5,x5),(6,x6),(7,.slice (some ⟨thb,0,none⟩) tl thc),(9,x9),(10,x10),(11,.int .i64 (i:Nat))]→i2 (fun r=>(rv i).ownBlock=some r) w u→J0 Try.prog main F0 Stop (G ((Go.Conc.base 7).at ⟨A,[]⟩ kk) cs) u):
 J0 Try.prog main F0 Stop (G ((Go.Conc.base 7).at ⟨A,[]⟩ (.code h0l::kk)) cs) w:=by
 obtain⟨ra,rc,hrv⟩:=S2 hr
 rw[hrv]at ht hr hn K
 have hle:=hT.le i hi
 refine F0v y0C ?_
 refine n0R e0B F6 (by kernel_rfl) (by decide) (R:=fun A u=>G0 301 A [(2,.pointer (some ⟨b2,0,none⟩)),(3,x3),(5,x5),(6,x6),(7,.slice (some ⟨thb,0,none⟩) tl thc),(9,x9),(10,x10),(11,.int .i64 (i:Nat)),(12,.int .i64 (0:Nat))]∧u.heap=w.heap) (fun τ e=>Y0 (t0v (w:=retape w τ e) hA) fun a u h=>h) fun A u τ e ⟨hS,hu⟩ _=>?_
 have hu:u.heap=w.heap:=hu
 clear hA
 rw[w0M,q0k,q0F,q0G,q0i]
 refine b0n (I:=fun g A u=>∃k,k≤(Lf i).length∧g=(Lf i).length - k∧G0 301 A [(2,.pointer (some ⟨b2,0,none⟩)),(3,x3),(5,x5),(6,x6),(7,.slice (some ⟨thb,0,none⟩) tl thc),(9,x9),(10,x10),(11,.int .i64 (i:Nat)),(12,.int .i64 (k:Nat))]∧i2 (fun r=>(Value.slice ra (Lf i).length rc).ownBlock=some r) w u∧∀rb,ra=some ⟨rb,0,none⟩→y8 u rb (Lf i) k)
  (J:=fun g A u=>∃k,k<(Lf i).length∧g=(Lf i).length - k∧G0 301 A [(2,.pointer (some ⟨b2,0,none⟩)),(3,x3),(5,x5),(6,x6),(7,.slice (some ⟨thb,0,none⟩) tl thc),(9,x9),(10,x10),(11,.int .i64 (i:Nat)),(12,.int .i64 (k:Nat))]∧i2 (fun r=>(Value.slice ra (Lf i).length rc).ownBlock=some r) w u∧∀rb,ra=some ⟨rb,0,none⟩→y8 u rb (Lf i) k)
  (E:=fun A u=>G0 301 A [(2,.pointer (some ⟨b2,0,none⟩)),(3,x3),(5,x5),(6,x6),(7,.slice (some ⟨thb,0,none⟩) tl thc),(9,x9),(10,x10),(11,.int .i64 (i:Nat))]∧i2 (fun r=>(Value.slice ra (Lf i).length rc).ownBlock=some r) w u)
  (fun g A u kz ⟨k,h1,h2,hS,hO,hR⟩ KJ KE=>?_) (fun g A u kz ⟨k,h1,h2,hS,hO,hR⟩ KI=>?_) (g:=(Lf i).length) ⟨0,Nat.zero_le _,rfl,hS,i2.of_heap hu,fun rb e=>by subst e;exact(y8.of hr).heap hu⟩ fun A u ⟨hS,hO⟩=>K A u hS hO
 ·have q1:u.cell? ⟨thb,i,none⟩=some (.slice ra (Lf i).length rc):=hO.cell ht fun e=>(hn _ e).2 rfl
  refine n0R e0B F6 (by kernel_rfl) (by decide) (R:=fun A u'=>G0 301 A [(2,.pointer (some ⟨b2,0,none⟩)),(3,x3),(5,x5),(6,x6),(7,.slice (some ⟨thb,0,none⟩) tl thc),(9,x9),(10,x10),(11,.int .i64 (i:Nat)),(12,.int .i64 (k:Nat)),(90,.bool (decide (k<(Lf i).length)))]∧u'.heap=u.heap) (fun τ e=>Y0 (t0w (w:=retape u τ e) hi q1 hS) fun a u h=>h) fun A u' τ e ⟨⟨s0,s2,s3,s5,s6,s7,s9,s10,s11,s12,s90,_⟩,hu⟩ _=>?_
  have hu:u'.heap=u.heap:=hu
  by_cases hi:k<(Lf i).length
  ·exact KJ _ _ (by rw[s90,decide_eq_true hi]) ⟨k,hi,h2,⟨s0,s2,s3,s5,s6,s7,s9,s10,s11,s12,trivial⟩,hO.heap hu,fun rb e=>(hR rb e).heap hu⟩
  ·exact KE _ _ (by rw[s90,decide_eq_false hi]) ⟨⟨s0,s2,s3,s5,s6,s7,s9,s10,s11,trivial⟩,hO.heap hu⟩
 ·have q1:u.cell? ⟨thb,i,none⟩=some (.slice ra (Lf i).length rc):=hO.cell ht fun e=>(hn _ e).2 rfl
  have hku:M2 w0 u:=⟨Nat.le_trans hk.1 hO.s,fun r c e z hc=>by
   have hr:=(Q3 hc)
   exact(hO.k r (Nat.lt_of_lt_of_le hr hk.1) fun e=>by have:=(hn _ e).1;omega).trans (hk.2 r c e z hc)⟩
  obtain⟨x,hx⟩:∃x,(Lf i)[k]? =some x:=⟨_,List.getElem?_eq_getElem h1⟩
  have hTu:=hT.oldC hku
  obtain⟨e,c⟩:=hTu.th i hi
  obtain⟨pb,po,e2,g0,g1,g2,g3⟩:=hTu.op i hi k x hx
  rw[e2]at c
  have q2:=hku.c q0
  rw[e]at q2
  obtain⟨rb,cc,e3,_⟩:=N5 hr (j:=k*4) (by omega)
  have e4:ra=some ⟨rb,0,none⟩:=by cases e3;rfl
  have hRk:=hR rb e4
  obtain⟨f0,f1,f2,f3⟩:=hRk.c k x (Nat.le_refl _) hx
  obtain⟨z0,z1,z2,z3⟩:=hRk.z k x hx
  rw[e4]at q1
  refine F0v y0D ?_
  rw[w0N,q0H]
  refine L7 ?_
  refine ogS ?_
  refine o0K hi h1 q1 q2 c f0 f1 f2 f3 g0 g1 g2 g3 hS fun A u1 hs1 hS1=>?_
  clear hS
  have hrl:rb<u.heap.size:=by
   obtain⟨c,e,z,hb⟩:=M3 f0
   exact(Q3 hb)
  have zz:∀{o:Nat},u.frozen? ⟨rb,o,none⟩=false→u1.frozen? ⟨rb,o,none⟩=false:=fun h=>(hs1.fz hrl).trans h
  refine n0R e0B F6 (by kernel_rfl) (by decide) (R:=fun A u'=>G0 301 A [(2,.pointer (some ⟨b2,0,none⟩)),(3,x3),(5,x5),(6,x6),(7,.slice (some ⟨thb,0,none⟩) tl thc),(9,x9),(10,x10),(11,.int .i64 (i:Nat)),(12,.int .i64 (k:Nat))]∧u'.heap=((((u1.setCell ⟨rb,k*4,none⟩ (.int .i64 99)).setCell ⟨rb,k*4+1,none⟩ (.int .i64 0)).setCell ⟨rb,k*4+2,none⟩ (.int .i64 0)).setCell ⟨rb,k*4+3,none⟩ (.int .i64 0)).heap) (fun τ e=>Y0 (t0y (w:=retape u1 τ e) hi h1 (hs1.c q1) (hs1.c f0) (hs1.c f1) (hs1.c f2) (hs1.c f3) (zz z0) (zz z1) (zz z2) (zz z3) hS1) fun a u h=>h) fun A u2 τ e ⟨hS2,hu2⟩ _=>?_
  have hu2:u2.heap=((((u1.setCell ⟨rb,k*4,none⟩ (.int .i64 99)).setCell ⟨rb,k*4+1,none⟩ (.int .i64 0)).setCell ⟨rb,k*4+2,none⟩ (.int .i64 0)).setCell ⟨rb,k*4+3,none⟩ (.int .i64 0)).heap:=hu2
  refine ogI ?_
  refine n0R e0B F6 (by kernel_rfl) (by decide) (R:=fun A u'=>G0 301 A [(2,.pointer (some ⟨b2,0,none⟩)),(3,x3),(5,x5),(6,x6),(7,.slice (some ⟨thb,0,none⟩) tl thc),(9,x9),(10,x10),(11,.int .i64 (i:Nat)),(12,.int .i64 (k+1:Nat))]∧u'.heap=u2.heap) (fun τ e=>Y0 (t0x (w:=retape u2 τ e) (by omega) hS2) fun a u h=>h) fun A u3 τ e ⟨hS3,hu3⟩ _=>?_
  have hu3:u3.heap=u2.heap:=hu3
  refine KI ((Lf i).length - (k+1)) _ _ (by omega) ⟨k+1,h1,rfl,hS3,?_,fun rb' e'=>?_⟩
  ·have hO1:i2 (fun r=>r=rb) u u2:=(((i2.of_sm hs1).trans (k0s u1 rb (k*4) _ _ _ _)).heap hu2)
   exact(hO.step hO1 fun r hr=>.inl (by rw[hr,e4];rfl)).heap hu3
  ·rw[e4]at e'
   cases e'
   exact(((hRk.sm hs1 hrl).next _ _ _ _).heap hu2).heap hu3
theorem w0G(hT:ThF w0 tl tb to ta oa oc Lf)(q0:w0.cell? ⟨b2,1,none⟩=some (.slice ta tl tc))(htl:tl≤1048576)(hk:M2 w0 w){ov:Value}(hr:w.ownsRow 0 34 1 ov tl ((List.range tl).map rv))(hrs:∀i,i<tl→w.ownsRow 0 47 4 (rv i) (Lf i).length (opC (Lf i))∧∀g,(rv i).ownBlock=some g→w0.heap.size≤g∧ov.ownBlock≠some g)(hD:e0x rv tl){A:Array Value}
 (hA:G0 301 A [(2,vP b2 0),(3,x3),(5,x5),(6,x6),(7,ov),(9,x9),(10,x10)]) {kk:List Item} {cs:List Frame} {main:Bool} {Stop:Goroutine→World→Prop}
 (K:∀A u,G0 301 A [(2,vP b2 0),(3,x3),(5,x5),(6,x6),(7,ov),(9,x9),(10,x10)]→i2 (fun r=>∃i,i<tl∧(rv i).ownBlock=some r) w u→J0 Try.prog main F0 Stop (G (bA 7 A kk) cs) u):
 J0 Try.prog main F0 Stop (G (bA 7 A (.code h0g::kk)) cs) w:=by
 obtain⟨oa1,oc1,hov⟩:=S2 hr
 rw[hov]at hr hrs hA K
 refine ogV skpr12 k0F ?_
 refine n0R e0B F6 (by kernel_rfl) (by decide) (R:=fun A u=>G0 301 A [(2,vP b2 0),(3,x3),(5,x5),(6,x6),(7,.slice oa1 tl oc1),(9,x9),(10,x10),(11,vI (0:Nat))]∧u.heap=w.heap) (fun τ e=>Y0 (t0s (w:=retape w τ e) hA) fun a u h=>h) fun A u τ e ⟨hS,hu⟩ _=>?_
 have hu:u.heap=w.heap:=hu
 clear hA
 rw[w0K,q0j,q0D,q0E,q0h]
 refine b0n (I:=fun g A u=>∃i,i≤tl∧g=tl - i∧G0 301 A [(2,vP b2 0),(3,x3),(5,x5),(6,x6),(7,.slice oa1 tl oc1),(9,x9),(10,x10),(11,vI (i:Nat))]∧i2 (fun r=>∃j,j<i∧(rv j).ownBlock=some r) w u)
  (J:=fun g A u=>∃i,i<tl∧g=tl - i∧G0 301 A [(2,vP b2 0),(3,x3),(5,x5),(6,x6),(7,.slice oa1 tl oc1),(9,x9),(10,x10),(11,vI (i:Nat))]∧i2 (fun r=>∃j,j<i∧(rv j).ownBlock=some r) w u)
  (E:=fun A u=>G0 301 A [(2,vP b2 0),(3,x3),(5,x5),(6,x6),(7,.slice oa1 tl oc1),(9,x9),(10,x10)]∧i2 (fun r=>∃i,i<tl∧(rv i).ownBlock=some r) w u)
  (fun g A u kz ⟨i,h1,h2,hS,hO⟩ KJ KE=>?_) (fun g A u kz ⟨i,h1,h2,hS,hO⟩ KI=>?_) (g:=tl) ⟨0,Nat.zero_le _,rfl,hS,i2.of_heap hu⟩ fun A u ⟨hS,hO⟩=>K A u hS hO
 ·refine n0R e0B F6 (by kernel_rfl) (by decide) (R:=fun A u'=>G0 301 A [(2,vP b2 0),(3,x3),(5,x5),(6,x6),(7,.slice oa1 tl oc1),(9,x9),(10,x10),(11,vI (i:Nat)),(81,.bool (decide (i<tl)))]∧u'.heap=u.heap) (fun τ e=>Y0 (t0t (w:=retape u τ e) hS) fun a u h=>h) fun A u' τ e ⟨⟨s0,s2,s3,s5,s6,s7,s9,s10,s11,s81,_⟩,hu⟩ _=>?_
  have hu:u'.heap=u.heap:=hu
  by_cases hi:i<tl
  ·exact KJ _ _ (by rw[s81,decide_eq_true hi]) ⟨i,hi,h2,⟨s0,s2,s3,s5,s6,s7,s9,s10,s11,trivial⟩,hO.heap hu⟩
  ·obtain rfl:i=tl:=by omega
   exact KE _ _ (by rw[s81,decide_eq_false hi]) ⟨⟨s0,s2,s3,s5,s6,s7,s9,s10,trivial⟩,hO.heap hu⟩
 ·obtain⟨thb,cap,e,a1⟩:=M5 (k:=i) (x:=rv i) hr (by rw[List.getElem?_map,List.getElem?_range h1];rfl)
  cases e
  have hku:M2 w0 u:=⟨Nat.le_trans hk.1 hO.s,fun r c e z hc=>by
   have hr:=(Q3 hc)
   exact(hO.k r (Nat.lt_of_lt_of_le hr hk.1) fun⟨j,hj,e⟩=>by have:=((hrs j (by omega)).2 _ e).1;omega).trans (hk.2 r c e z hc)⟩
  have ht:u.cell? ⟨thb,i,none⟩=some (rv i):=hO.cell a1.c fun⟨j,hj,e⟩=>((hrs j (by omega)).2 _ e).2 rfl
  have hri:=hO.same (hrs i h1).1 fun b hb ⟨j,hj,e⟩=>hD i j h1 (by omega) (by omega) b hb e
  refine ogV k0H skpr14 ?_
  rw[w0L]
  refine L7 ?_
  refine w0H (w:=u) hT q0 h1 hku ht hri (fun g hg=>⟨((hrs i h1).2 g hg).1,fun e=>((hrs i h1).2 g hg).2 (by rw[e];rfl)⟩) hS fun A u2 hS2 hO2=>?_
  refine ogI ?_
  refine n0R e0B F6 (by kernel_rfl) (by decide) (R:=fun A u'=>G0 301 A [(2,vP b2 0),(3,x3),(5,x5),(6,x6),(7,vL thb 0 tl oc1),(9,x9),(10,x10),(11,vI (i+1:Nat))]∧u'.heap=u2.heap) (fun τ e=>Y0 (t0u (w:=retape u2 τ e) (by omega) hS2) fun a u h=>h) fun A u3 τ e ⟨hS3,hu3⟩ _=>?_
  have hu3:u3.heap=u2.heap:=hu3
  refine KI (tl - (i+1)) _ _ (by omega) ⟨i+1,h1,rfl,hS3,?_⟩
  exact((hO.mono fun r _ ⟨j,hj,e⟩=>⟨j,by omega,e⟩).step hO2 fun r hr=>.inl ⟨i,by omega,hr⟩).heap hu3
end
end
section
variable{An:G3}{w w0 w' u u' W wl wa wb:World}
def KpX(tl:Nat)(rv:Nat→Value)(n aa:Nat)(rows:Nat→Value)(av:Nat→List SA)(ov sv:Value)(r:Nat):Prop:=(∃j,j<tl∧(rv j).ownBlock=some r)∨TrB n aa rows av ov sv r
section
variable{tl tb to:Nat}{ta:Option Addr}{oa:Nat→Option Addr}{oc:Nat→Nat}{Lf:Nat→List P3}{ops:Nat→List P3}{S:List Int}{va sa:Option Addr}{vs:List Int}{vc tc sc M:Nat}{mo:Int}
 {b2:Nat} {x3 x5 x6 x9 x10 ov:Value} {rv:Nat→Value}
theorem y0i{x7:Value}(H:ScI wa va ta sa vs S vc tl tb to sc mo M oa oc Lf ops)(B:BxI wa b2 (.slice va vs.length vc) (.slice ta tl tc) (.slice sa S.length sc) (vI mo)){Stop:Goroutine→World→Prop}{A:Array Value}(hA:G0 301 A [(2,vP b2 0),(3,x3),(5,x5),(6,x6),(7,x7),(9,x9)])
 (K:∀A wb (s:GS SPl) order aa rows av oa' oc' xa xc bx,(∃k,∀f,k≤f→a0K ops (min tl 64) M S f (ss0 vs)=(s,order))→PlA wa (min tl 64) (fun i=>(s.th i).ans) (R1.state s.q) order aa rows av (.slice oa' order.length oc') (.slice xa (R1.state s.q).length xc) (.bool (decide (0<L5 s.live (min tl 64)))) bx wb→
   G0 301 A [(2,vP b2 0),(3,x3),(5,x5),(6,x6),(7,x7),(9,x9),(10,vP bx 0)]→J0 Try.prog true F0 (fun g w=>Q4 An Try.prog Stop g w) (G (bA 7 A [.code n7]) []) wb):
 J0 Try.prog true F0 (fun g w=>Q4 An Try.prog Stop g w) (G (bA 7 A [.code O5]) []) wa:=by
 refine n0X B.q0 B.q1 B.q2 B.q3 hA fun A hA=>.stop fun d=>?_
 refine f0X (w:=wa.at d) H.v (by have:=H.vl;omega) (y6.kept8 (w':=wa.at d) H.o (Nat.le_refl _) fun r c e z h=>h) H.hM fun s order hd hov aa rows av oa' oc' xa xc w' hP=>?_
 refine w7 (F:=F0) (Stop:=fun g w=>Q4 An Try.prog Stop g w) ?_ fun g w h=>h
 refine n0Y J1 (Nat.zero_le _) hA fun A hA=>?_
 have hP2:j0P wa (min tl 64) (fun i=>(s.th i).ans) (R1.state s.q) order aa rows av (.slice oa' order.length oc') (.slice xa (R1.state s.q).length xc) w':=⟨hP.size,hP.old,hP.arr,hP.row,hP.nwa,hP.nwr,hP.nwl,hP.dj,hP.ord,hP.st⟩
 exact K A _ s order aa rows av oa' oc' xa xc w'.heap.size hov (PlA.late hP2 (Nat.le_refl _) (fun r hr=>D0 _ _ hr) (by simp) (heap_alloc_new _ _)) hA
structure Two(w0 wl wa wb:World)(tl n:Nat)(Lf:Nat→List P3)(ov:Value)(rv:Nat→Value)(s:GS SPl)(order:List Nat)(aa:Nat)(rows:Nat→Value)(av:Nat→List SA)(oo xs lv:Value)(bx:Nat):Prop where
 hN:∃L,w5 w0 wl tl ov rv L∧∀j,j<tl→L j=Lf j
 dj:e0x rv tl
 pa:PlA wl n (fun i=>(s.th i).ans) (R1.state s.q) order aa rows av oo xs lv bx wa
 ob:M2 wa wb
 sh:(∀i a,a∈((s.th i).ans:List g8)→a.2.2.length≤17)∧(R1.state s.q).length≤17∧order.length≤1048576
section
variable{n aa bx:Nat}{s:GS SPl}{order:List Nat}{rows:Nat→Value}{av:Nat→List SA}{oo xs lv:Value}
theorem Two.not(h:Two w0 wl wa wb tl n Lf ov rv s order aa rows av oo xs lv bx){r:Nat}(hr:KpX tl rv n aa rows av oo xs r):(∀c e z,w0.heap[r]?≠some (.cells c e z))∧(∃c e z,wa.heap[r]? =some (.cells c e z))∧r≠bx:=by
 obtain⟨L,hN,hL⟩:=h.hN
 rcases hr with⟨j,hj,e⟩|hr
 ·obtain⟨h1,h2⟩:=hN.rs j hj
  obtain⟨c,hc⟩:=X1 h1 e
  have hca:=h.pa.old.2 _ _ _ _ hc
  refine⟨fun c' e' z hc'=>?_,⟨c,_,_,hca⟩,u7 hca h.pa.hb (by decide)⟩
  have:=(h2 r e).1
  have:=(Array.getElem?_eq_some_iff.1 hc').1
  omega
 ·obtain⟨c,e,z,hc,h31,_⟩:=h.pa.tr.cells hr
  exact⟨((h.pa.nw r hr).old hN.k.oldC),⟨c,e,z,hc⟩,u7 hc h.pa.hb h31⟩
theorem Two.old0(h:Two w0 wl wa wb tl n Lf ov rv s order aa rows av oo xs lv bx)(hO:i2 (KpX tl rv n aa rows av oo xs) wb u):M2 w0 u:=by
 obtain⟨L,hN,hL⟩:=h.hN
 have k:M2 w0 wb:=(hN.k.oldC.trans h.pa.old).trans h.ob
 exact⟨Nat.le_trans k.1 hO.s,fun r c e z hc=>by
  have h1:=k.2 r c e z hc
  rw[hO.k r (Q3 h1) fun hx=>(h.not hx).1 _ _ _ hc]
  exact h1⟩
theorem Two.newB(h:Two w0 wl wa wb tl n Lf ov rv s order aa rows av oo xs lv bx)(hO:i2 (KpX tl rv n aa rows av oo xs) wb u){r:Nat}(hr:r0S wa r)(hl:r<wb.heap.size):u.heap[r]? =wb.heap[r]?:=
 hO.k r hl fun hx=>by
  obtain⟨c,e,z,hc⟩:=(h.not hx).2.1
  exact hr c e z hc
theorem y0j{oa' xa:Option Addr}{oc' xc:Nat}(H0:ScI w0 va ta sa vs S vc tl tb to sc mo M oa oc Lf ops)(B0:BxI w0 b2 (.slice va vs.length vc) (.slice ta tl tc) (.slice sa S.length sc) (vI mo))(T:Two w0 wl wa wb tl (min tl 64) Lf ov rv s order aa rows av (.slice oa' order.length oc') (.slice xa (R1.state s.q).length xc) lv bx){Stop:Goroutine→World→Prop}
 {A:Array Value} (hA:G0 301 A [(2,vP b2 0),(3,x3),(5,x5),(6,x6),(7,ov),(9,vP bx 0),(10,x10)])
 (K:∀A u,i2 (KpX tl rv (min tl 64) aa rows av (.slice oa' order.length oc') (.slice xa (R1.state s.q).length xc)) wb u→G0 301 A [(2,vP b2 0),(3,x3),(5,x5),(6,x6),(10,x10)]→J0 Try.prog true F0 Stop (G (bA 7 A [.code b0X]) []) u):
 J0 Try.prog true F0 Stop (G (bA 7 A [.code n7]) []) wb:=by
 have hn64:min tl 64≤64:=by omega
 obtain⟨L,hN,hL⟩:=T.hN
 have kb:M2 w0 wb:=(hN.k.oldC.trans T.pa.old).trans T.ob
 have klb:M2 wl wb:=T.pa.old.trans T.ob
 have rowOld:∀{v:Value} {e:TypeId} {size m:Nat} {xs:List Value},wl.ownsRow 0 e size v m xs→wb.ownsRow 0 e size v m xs:=fun h=>p08 h fun b c hb hc=>(klb.2 _ _ _ _ hc).trans hc.symm
 have trb:TrS (min tl 64) (fun i=>(s.th i).ans) (R1.state s.q) order aa rows av (.slice oa' order.length oc') (.slice xa (R1.state s.q).length xc) wb:=T.pa.tr.same fun r hr=>by
  obtain⟨c,e,z,hc,_⟩:=T.pa.tr.cells hr
  rw[hc];exact T.ob.2 _ _ _ _ hc
 have hbx:wb.heap[bx]? =some (.cells #[vL aa 0 (min tl 64) (min tl 64),.slice oa' order.length oc',.slice xa (R1.state s.q).length xc,lv] 31 (0,0)):=T.ob.2 _ _ _ _ T.pa.hb
 obtain⟨ca,hca,hcs,hci⟩:=trb.arr
 have hrs:∀i,i<tl→wb.ownsRow 0 47 4 (rv i) (Lf i).length (opC (Lf i))∧∀g,(rv i).ownBlock=some g→w0.heap.size≤g∧ov.ownBlock≠some g:=fun i hi=>by
  obtain⟨h1,h2⟩:=hN.rs i hi
  rw[hL i hi]at h1
  exact⟨rowOld h1,h2⟩
 have c47:∀r,(∃j,j<tl∧(rv j).ownBlock=some r)→∃c,wb.heap[r]? =some (.cells c 47 (0,0)):=fun r ⟨j,hj,e⟩=>X1 (hrs j hj).1 e
 refine ogV h0g h0p ?_
 refine w0G H0.t B0.q1 H0.tn ⟨kb.1,kb.2⟩ (rowOld hN.row) hrs T.dj hA fun A u1 hA hO1=>?_
 have nx1:∀r,(∃j,j<tl∧(rv j).ownBlock=some r)→r≠bx:=fun r hr=>by
  obtain⟨c,hc⟩:=c47 r hr
  exact u7 hc hbx (by decide)
 have bc:∀{u:World} {X:Nat→Prop},i2 X wb u→¬X bx→u.cell? ⟨bx,0,none⟩=some (vL aa 0 (min tl 64) (min tl 64))∧u.cell? ⟨bx,1,none⟩=some (.slice oa' order.length oc')∧u.cell? ⟨bx,2,none⟩=some (.slice xa (R1.state s.q).length xc):=fun hO hX=>by
  have e1:=hO.k bx (Q3 hbx) hX
  rw[hbx]at e1
  refine⟨?_,?_,?_⟩<;>simp[World.cell?,e1]
 have st2:∀g,(Value.slice xa (R1.state s.q).length xc).ownBlock=some g→∃c,wb.heap[g]? =some (.cells c 2 (0,0)):=fun g hg=>X1 trb.st hg
 have or2:∀g,(Value.slice oa' order.length oc').ownBlock=some g→∃c,wb.heap[g]? =some (.cells c 3 (0,0)):=fun g hg=>X1 trb.ord hg
 refine ogV skps30 h0s ?_
 obtain⟨ys1,hy1⟩:=hO1.own trb.st
 have p1:=bc hO1 fun h=>nx1 bx h rfl
 refine n0R e0B F6 (by kernel_rfl) (by decide) (R:=fun A u=>G0 301 A [(2,vP b2 0),(3,x3),(5,x5),(6,x6),(7,ov),(9,vP bx 0),(10,x10)]∧i2 (fun r=>(Value.slice xa (R1.state s.q).length xc).ownBlock=some r) u1 u) (fun τ e=>Y0 (v0u (w:=retape u1 τ e) p1.2.2 hy1 (fun e=>by obtain⟨c,hc⟩:=st2 _ e;exact u7 hc hbx (by decide) rfl) (by have:=T.sh.2.1;omega) hA) fun a u ⟨h1,h2,h3⟩=>⟨h1,h2,⟨h3.s,h3.k,h3.f⟩⟩) fun A u2 τ e ⟨hA,hO⟩ _=>?_
 have hO2:i2 (fun r=>(∃j,j<tl∧(rv j).ownBlock=some r)∨(Value.slice xa (R1.state s.q).length xc).ownBlock=some r) wb u2:=(hO1.mono fun r _ h=>.inl h).step (Y:=fun r=>(Value.slice xa (R1.state s.q).length xc).ownBlock=some r) ⟨hO.s,hO.k,hO.f⟩ fun r h=>.inl (.inr h)
 clear hO
 refine ogV skps36 h0v ?_
 obtain⟨ys2,hy2⟩:=hO2.own trb.ord
 have nx2:¬((∃j,j<tl∧(rv j).ownBlock=some bx)∨(Value.slice xa (R1.state s.q).length xc).ownBlock=some bx):=fun h=>by
  rcases h with h|h
  ·exact nx1 bx h rfl
  ·obtain⟨c,hc⟩:=st2 _ h
   exact u7 hc hbx (by decide) rfl
 have p2:=bc hO2 nx2
 refine n0R e0B F6 (by kernel_rfl) (by decide) (R:=fun A u=>G0 301 A [(2,vP b2 0),(3,x3),(5,x5),(6,x6),(7,ov),(9,vP bx 0),(10,x10)]∧i2 (fun r=>(Value.slice oa' order.length oc').ownBlock=some r) u2 u) (fun τ e=>Y0 (w0F (w:=retape u2 τ e) p2.2.1 hy2 (fun e=>by obtain⟨c,hc⟩:=or2 _ e;exact u7 hc hbx (by decide) rfl) (by have:=T.sh.2.2;omega) hA) fun a u ⟨h1,h2,h3⟩=>⟨h1,h2,⟨h3.s,h3.k,h3.f⟩⟩) fun A u3 τ e ⟨hA,hO⟩ _=>?_
 have hO3:i2 (fun r=>((∃j,j<tl∧(rv j).ownBlock=some r)∨(Value.slice xa (R1.state s.q).length xc).ownBlock=some r)∨(Value.slice oa' order.length oc').ownBlock=some r) wb u3:=(hO2.mono fun r _ h=>.inl h).step (Y:=fun r=>(Value.slice oa' order.length oc').ownBlock=some r) ⟨hO.s,hO.k,hO.f⟩ fun r h=>.inl (.inr h)
 clear hO
 have ty3:∀r,(((∃j,j<tl∧(rv j).ownBlock=some r)∨(Value.slice xa (R1.state s.q).length xc).ownBlock=some r)∨(Value.slice oa' order.length oc').ownBlock=some r)→∃c e,wb.heap[r]? =some (.cells c e (0,0))∧(e=47∨e=2∨e=3):=fun r h=>by
  rcases h with(h|h)|h
  ·obtain⟨c,hc⟩:=c47 r h
   exact⟨c,47,hc,.inl rfl⟩
  ·obtain⟨c,hc⟩:=st2 r h
   exact⟨c,2,hc,.inr (.inl rfl)⟩
  ·obtain⟨c,hc⟩:=or2 r h
   exact⟨c,3,hc,.inr (.inr rfl)⟩
 have nx3:∀{r:Nat} {c:Array Value} {e:TypeId} {z:Nat×Nat},wb.heap[r]? =some (.cells c e z)→e≠47→e≠2→e≠3→¬(((∃j,j<tl∧(rv j).ownBlock=some r)∨(Value.slice xa (R1.state s.q).length xc).ownBlock=some r)∨(Value.slice oa' order.length oc').ownBlock=some r):=fun hc h1 h2 h3 h=>by
  obtain⟨c',e',hc',he⟩:=ty3 _ h
  rw[hc]at hc'
  simp only[Option.some.injEq,Obj.cells.injEq]at hc'
  rcases he with rfl|rfl|rfl
  ·exact h1 hc'.2.1
  ·exact h2 hc'.2.1
  ·exact h3 hc'.2.1
 have p3:=bc hO3 (nx3 hbx (by decide) (by decide) (by decide))
 have rowTy:∀i,i<min tl 64→∀g,(rows i).ownBlock=some g→∃c,wb.heap[g]? =some (.cells c 44 (0,0)):=fun i hi g hg=>X1 (trb.row i hi).2.2.1 hg
 have lsTy:∀i,i<min tl 64→∀a∈av i,∀g,a.row.ownBlock=some g→∃c,wb.heap[g]? =some (.cells c 2 (0,0)):=fun i hi a ha g hg=>X1 ((trb.row i hi).2.2.2 a ha) hg
 have an17:∀i,i<min tl 64→∀a∈av i,a.an.2.2.length≤17:=fun i hi a ha=>by
  have h0:=(trb.row i hi).1
  have hm:a.an∈(av i).map SA.an:=List.mem_map_of_mem ha
  rw[h0]at hm
  exact T.sh.1 i _ hm
 have hAn:w0W u3 bx aa (min tl 64) rows av:=by
  refine⟨p3.1,fun i hi=>?_,fun i hi=>?_,fun i hi a ha=>?_,fun i hi a ha=>by have:=an17 i hi a ha;omega,fun i hi=>by have:=(trb.row i hi).2.1;omega,fun i hi a ha g hg=>?_,fun i hi g hg=>?_,T.pa.dj⟩
  ·refine hO3.cell ?_ (nx3 hca (by decide) (by decide) (by decide))
   have h1:=hci i hi
   simpa [World.cell?,hca]using h1
  ·refine hO3.same (trb.row i hi).2.2.1 fun b hb=>?_
   obtain⟨c,hc⟩:=rowTy i hi b hb
   exact nx3 hc (by decide) (by decide) (by decide)
  ·exact hO3.own ((trb.row i hi).2.2.2 a ha)
  ·obtain⟨c,hc⟩:=lsTy i hi a ha g hg
   refine⟨u7 hc hbx (by decide),u7 hc hca (by decide),fun j hj e=>?_⟩
   obtain⟨c',hc'⟩:=rowTy j hj g e
   exact u7 hc hc' (by decide) rfl
  ·obtain⟨c,hc⟩:=rowTy i hi g hg
   exact⟨u7 hc hbx (by decide),u7 hc hca (by decide)⟩
 refine ogV skps42 h0G ?_
 refine n0R e0B F6 (by kernel_rfl) (by decide) (R:=fun A u=>G0 301 A [(2,vP b2 0),(3,x3),(5,x5),(6,x6),(7,ov),(9,vP bx 0),(10,x10)]∧i2 (AnX rows av (min tl 64)) u3 u∧∀i,i<min tl 64→B6 u (w9 (rows i)) (av i).length) (fun τ e=>Y0 (o0y (w:=retape u3 τ e) ⟨hAn.q,hAn.h0,hAn.row,hAn.ls,hAn.sm,hAn.len,hAn.lb,hAn.rb,hAn.dj⟩ (by omega) hA) fun a u ⟨h1,h2,h3,h4⟩=>⟨h1,h2,⟨h3.s,h3.k,h3.f⟩,h4⟩) fun A u4 τ e ⟨hA,hO,hR⟩ _=>?_
 have hO34:i2 (AnX rows av (min tl 64)) u3 u4:=⟨hO.s,hO.k,hO.f⟩
 have hR4:∀i,i<min tl 64→B6 u4 (w9 (rows i)) (av i).length:=hR
 clear hO hR
 have hO4:i2 (KpX tl rv (min tl 64) aa rows av (.slice oa' order.length oc') (.slice xa (R1.state s.q).length xc)) wb u4:=(hO3.mono fun r _ h=>by
  rcases h with(h|h)|h
  ·exact .inl h
  ·exact .inr (.inr (.inr (.inr h)))
  ·exact .inr (.inr (.inr (.inl h)))).step hO34 fun r h=>.inl (.inr (.inr (.inl h)))
 have anx:∀r,AnX rows av (min tl 64) r→r≠bx∧r≠aa:=fun r ⟨i,hi,h⟩=>by
  rcases h with⟨a,ha,e⟩|e
  ·exact⟨(hAn.lb i hi a ha r e).1,(hAn.lb i hi a ha r e).2.1⟩
  ·exact hAn.rb i hi r e
 refine ogV skps68 b0X ?_
 refine n0R e0B F6 (by kernel_rfl) (by decide) (R:=fun A u=>G0 301 A [(2,vP b2 0),(3,x3),(5,x5),(6,x6),(7,ov),(9,vP bx 0),(10,x10)]∧u.heap=u4.heap) (fun τ e=>Y0 (o0F (w:=retape u4 τ e) (av:=av) (hO34.cell p3.1 fun h=>(anx _ h).1 rfl) (fun i hi=>hO34.cell (hAn.h0 i hi) fun h=>(anx _ h).2 rfl) (fun i hi=>hO34.own (hAn.row i hi)) hAn.len (by omega) hR4 hA) fun a u h=>h) fun A u5 τ e ⟨hA,hu⟩ _=>?_
 obtain⟨s0,s2,s3,s5,s6,s7,s9,s10,_⟩:=hA
 exact K A u5 (hO4.heap hu) ⟨s0,s2,s3,s5,s6,s10,trivial⟩
end
end
end
section
variable{An:G3}{w w0 w' u u' W wl wa wb:World}
theorem B5.oldC{a:Option Addr}{xs:List Value}(h:B5 w a xs)(k:M2 w u):B5 u a xs:=⟨fun i x hx=>by
 obtain⟨b,o,e,h1⟩:=h.c i x hx
 exact⟨b,o,e,k.c h1⟩⟩
theorem t0n{ga gc m:Nat}{e:TypeId}{xs:List Value}{x:Value}(h:w.ownsRow 0 e 1 (vL ga 0 (m+1) gc) (m+1) (xs++[x]))(hm:xs.length=m)(k:M2 w u):B5 u (some ⟨ga,0,none⟩) xs∧u.cell? ⟨ga,m,none⟩=some x:=by
 have h1:=(c0E h).oldC k
 refine⟨⟨fun i y hy=>h1.c i y ?_⟩,?_⟩
 ·rw[List.getElem?_append_left (List.getElem?_eq_some_iff.1 hy).1];exact hy
 ·obtain⟨b,o,e1,e2⟩:=h1.c m x (by simp[hm])
  cases e1
  rw[Nat.zero_add]at e2
  exact e2
section
variable{n:Nat}{ans:Nat→List g8}{state:List Int}{order:List Nat}{aa aa2:Nat}{rows rows2:Nat→Value}{av av2:Nat→List SA}{oa1 oa2 xa1 xa2:Option Addr}{oc1 oc2 xc1 xc2:Nat}
theorem TrS.oldC{ov sv:Value}(h:TrS n ans state order aa rows av ov sv w)(k:M2 w u):TrS n ans state order aa rows av ov sv u:=h.same fun r hr=>by
 obtain⟨c,e,z,hc,_⟩:=h.cells hr
 rw[hc];exact k.2 _ _ _ _ hc
theorem TrS.rowR{ov sv:Value}(h:TrS n ans state order aa rows av ov sv w):B5 w (some ⟨aa,0,none⟩) ((List.range n).map fun i=>.slice (w9 (rows i)) (av i).length (slC (rows i))):=by
 obtain⟨ca,hca,hcs,hci⟩:=h.arr
 refine⟨fun k x hx=>?_⟩
 obtain⟨hkn,rfl⟩:k<n∧Value.slice (w9 (rows k)) (av k).length (slC (rows k))=x:=by
  rw[List.getElem?_map,Option.map_eq_some_iff]at hx
  obtain⟨j,hj,rfl⟩:=hx
  have hjn:=(List.getElem?_eq_some_iff.1 hj).1
  rw[List.length_range]at hjn
  rw[List.getElem?_range hjn]at hj
  cases hj
  exact⟨hjn,rfl⟩
 refine⟨aa,0,rfl,?_⟩
 rw[Nat.zero_add,← (k0x (h.row k hkn).2.2.1).1]
 have h1:=hci k hkn
 simpa [World.cell?,hca]using h1
theorem TrS.rowA{ov sv:Value}(h:TrS n ans state order aa rows av ov sv w){i:Nat}(hi:i<n):B5 w (w9 (rows i)) (i5 (av i)):=by
 have h1:=(h.row i hi).2.2.1
 rw[(k0x h1).1]at h1
 exact c0E h1
theorem n0W(hn:n≤64){st:Bool}(h17:∀i a,a∈ans i→a.2.2.length≤17)(hol:order.length≤1048576)(hsl:state.length≤17)(h:TrS n ans state order aa rows av (.slice oa1 order.length oc1) (.slice xa1 state.length xc1) w)(k:TrS n ans state order aa2 rows2 av2 (.slice oa2 order.length oc2) (.slice xa2 state.length xc2) w):
 Y6 Try.prog Try.f14 #[.agg #[vL aa 0 n n,.slice oa1 order.length oc1,.slice xa1 state.length xc1,.bool st],.agg #[vL aa2 0 n n,.slice oa2 order.length oc2,.slice xa2 state.length xc2,.bool st]] w fun v w'=>v= .bool true∧Sm w w':=by
 have el:(order.map fun i:Nat=>(i:Int)).length=order.length:=List.length_map _
 have eo:((order.map fun i:Nat=>(i:Int)).map fun v=>Value.int .i64 v)=order.map fun i:Nat=>vI i:=by rw[List.map_map];rfl
 have hlist:∀i,i<n→∀a∈av i,a.an.2.2.length≤17:=fun i hi a ha=>by
  have h0:=(h.row i hi).1
  have hm:a.an∈(av i).map SA.an:=List.mem_map_of_mem ha
  rw[h0]at hm
  exact h17 i _ hm
 rw[← el]
 refine t0o (w:=w) (X:=av) (Y:=av2) (va:=fun i=>w9 (rows i)) (ca:=fun i=>slC (rows i)) (vb:=fun i=>w9 (rows2 i)) (cb:=fun i=>slC (rows2 i)) hn (by rw[el];omega) (by omega) (fun i hi=>⟨Nat.lt_of_le_of_lt (h.row i hi).2.1 (by decide),?_,fun a ha=>⟨SAL.of ((h.row i hi).2.2.2 a ha),Nat.lt_of_le_of_lt (hlist i hi a ha) (by decide)⟩,fun a ha=>SAL.of ((k.row i hi).2.2.2 a ha)⟩) ?_ ?_ (c0E h.st) (c0E k.st) h.rowR k.rowR (fun i hi=>h.rowA hi) (fun i hi=>k.rowA hi)
 ·rw[(h.row i hi).1,(k.row i hi).1]
 ·rw[eo];exact c0E h.ord
 ·rw[eo];exact c0E k.ord
end
section
variable{tl tb to:Nat}{ta:Option Addr}{oa:Nat→Option Addr}{oc:Nat→Nat}{Lf:Nat→List P3}{ops:Nat→List P3}{S:List Int}{va sa:Option Addr}{vs:List Int}{vc tc sc M:Nat}{mo:Int}
variable{tl' tb' to':Nat}{ta':Option Addr}{oaP:Nat→Option Addr}{ocP:Nat→Nat}{Lf':Nat→List P3}{ops':Nat→List P3}{S':List Int}{va' sa':Option Addr}{vs':List Int}{vc' tc' sc' M':Nat}{mo':Int}
 {b2 b3 ga gc gs gq:Nat} {ov:Value} {rv:Nat→Value} {n aa ab bx bz:Nat} {s s2:GS SPl} {order order2:List Nat} {rows rowsb:Nat→Value} {av avb:Nat→List SA} {oo xs lv:Value} {ob xb:Option Addr} {obc xbc:Nat}
theorem y0k(H0:ScI w0 va ta sa vs S vc tl tb to sc mo M oa oc Lf ops)(B0:BxI w0 b2 (.slice va vs.length vc) (.slice ta tl tc) (.slice sa S.length sc) (vI mo))(H3:ScI w0 va' ta' sa' vs' S' vc' tl' tb' to' sc' mo' M' oaP ocP Lf' ops')(B3:BxI w0 b3 (.slice va' vs'.length vc') (.slice ta' tl' tc') (.slice sa' S'.length sc') (vI mo'))
 (C:Cps w0 u' vs S tl ga gc gs gq Lf ov rv) (T:Two w0 wl wa wb tl n Lf ov rv s order aa rows av oo xs lv bx) (hO:i2 (KpX tl rv n aa rows av oo xs) wb u)
 (hov:∃k,∀f,k≤f→a0K ops (min tl 64) M S f (ss0 vs)=(s2,order2)) (hP:PlA wa (min tl 64) (fun i=>(s2.th i).ans) (R1.state s2.q) order2 ab rowsb avb (.slice ob order2.length obc) (.slice xb (R1.state s2.q).length xbc) (.bool (decide (0<L5 s2.live (min tl 64)))) bz wb)
 (hW:M2 W w0) {A:Array Value} (hA:G0 301 A [(2,vP b2 0),(3,vP b3 0),(5,vL ga 0 (vs.length+1) gc),(6,vL gs 0 (S.length+1) gq),(10,vP bz 0)]):
 J0 Try.prog true F0 (fun g w=>Q4 An Try.prog (l0b An (g0M W)) g w) (G (bA 7 A [.code b0X]) []) u:=by
 have ku:M2 w0 u:=T.old0 hO
 have Hu3:=H3.oldC ku
 have Bu3:=B3.oldC ku
 have trb:TrS (min tl 64) (fun i=>(s2.th i).ans) (R1.state s2.q) order2 ab rowsb avb (.slice ob order2.length obc) (.slice xb (R1.state s2.q).length xbc) u:=hP.tr.same fun r hr=>by
  obtain⟨c,e,z,hc,_⟩:=hP.tr.cells hr
  exact T.newB hO (hP.nw r hr) (Q3 hc)
 have hbb:u.heap[bz]? =some (.cells #[vL ab 0 (min tl 64) (min tl 64),.slice ob order2.length obc,.slice xb (R1.state s2.q).length xbc,.bool (decide (0<L5 s2.live (min tl 64)))] 31 (0,0)):=
  (T.newB hO hP.nb (Array.getElem?_eq_some_iff.1 hP.hb).1).trans hP.hb
 refine n02 Bu3.q0 Bu3.q1 Bu3.q2 Bu3.q3 hA fun A hA=>.stop fun d=>?_
 refine f0X (w:=u.at d) Hu3.v (by have:=Hu3.vl;omega) (y6.kept8 (w':=u.at d) Hu3.o (Nat.le_refl _) fun r c e z h=>h) Hu3.hM fun s3 order3 hd3 hov3 aa3 rows3 av3 oa3 oc3 xa3 xc3 w1 hP3=>?_
 have k1:M2 u w1:=⟨hP3.size,hP3.old⟩
 clear hP3 hov3 hd3
 refine w7 (F:=F0) (Stop:=fun g w=>Q4 An Try.prog (l0b An (g0M W)) g w) ?_ fun g w h=>h
 refine n08 hA fun A hA=>?_
 have k01:=ku.trans k1
 have H1:=H0.oldC k01
 have B1:=B0.oldC k01
 obtain⟨s0,e2,e3,e5,e6,e10,_⟩:=hA
 refine o0j B1.q0 B1.q1 B1.q2 B1.q3 ⟨s0,e2,e5,e6,e10,trivial⟩ fun A hA=>.stop fun d=>?_
 refine f0X (w:=w1.at d) H1.v (by have:=H1.vl;omega) (y6.kept8 (w':=w1.at d) H1.o (Nat.le_refl _) fun r c e z h=>h) H1.hM fun s4 order4 hd4 hov4 aa4 rows4 av4 oa4 oc4 xa4 xc4 w2 hP4=>?_
 have e12:(s4,order4)=(s2,order2):=by
  obtain⟨k1,hk1⟩:=hov
  obtain⟨k2,hk2⟩:=hov4
  exact(hk2 (max k1 k2) (Nat.le_max_right _ _)).symm.trans (hk1 (max k1 k2) (Nat.le_max_left _ _))
 cases e12
 have k2:M2 w1 w2:=⟨hP4.size,hP4.old⟩
 have trc:=(hP4.trs).1
 clear hP4 hd4
 refine w7 (F:=F0) (Stop:=fun g w=>Q4 An Try.prog (l0b An (g0M W)) g w) ?_ fun g w h=>h
 refine o0k J1 (Nat.zero_le _) hA fun A hA=>?_
 have k3:M2 w2 (w2.alloc (.cells #[vL aa4 0 (min tl 64) (min tl 64),.slice oa4 order2.length oc4,.slice xa4 (R1.state s2.q).length xc4,.bool (decide (0<L5 s2.live (min tl 64)))] 31)):=S1.oldC ⟨by simp,fun r hr=>D0 _ _ hr⟩
 have hbc:=heap_alloc_new w2 (.cells #[vL aa4 0 (min tl 64) (min tl 64),.slice oa4 order2.length oc4,.slice xa4 (R1.state s2.q).length xc4,.bool (decide (0<L5 s2.live (min tl 64)))] 31)
 generalize (w2.alloc (.cells #[vL aa4 0 (min tl 64) (min tl 64),.slice oa4 order2.length oc4,.slice xa4 (R1.state s2.q).length xc4,.bool (decide (0<L5 s2.live (min tl 64)))] 31))=w3 at k3 hbc ⊢
 have ku3:=(k1.trans k2).trans k3
 have k03:=ku.trans ku3
 have H:=H0.oldC k03
 have B:=B0.oldC k03
 have hb3:=ku3.2 _ _ _ _ hbb
 have hsh:(∀(i:Nat) (a:g8),a∈((s2.th i).ans:List g8)→a.2.2.length≤17)∧(R1.state s2.q).length≤17∧order2.length≤1048576:=by
  obtain⟨k,hk⟩:=hov4
  have e:=hk k (Nat.le_refl _)
  have h1:=b0j (ops:=ops) (n:=min tl 64) (M:=M) (S:=S) (f:=k) (s:=ss0 vs)
  have h2:=fun i=>a0u (ops:=ops) (n:=min tl 64) (M:=M) (S:=S) (f:=k) (vs:=vs) i
  have e':a0K ops (min tl 64) M S k (⟨I4 vs,fun _=>⟨0,none,[]⟩⟩:GS SPl)=(s2,order2):=e
  rw[e]at h1
  rw[e']at h2
  have hM:=H0.hM
  simp only at h1
  exact⟨fun i=>(h2 i).1,(h2 0).2,by omega⟩
 have hvl:=H0.vl
 have hsl:=H0.sl
 obtain⟨r1,r2⟩:=t0n C.hg (List.length_map _) k03
 obtain⟨r3,r4⟩:=t0n C.hs (List.length_map _) k03
 refine v0s (st:=decide (0<L5 s2.live (min tl 64))) (bb:=bz) (bc:=w2.heap.size) B.q0 B.q2 (by simp[World.cell?,hb3]) (by simp[World.cell?,hb3]) (by simp[World.cell?,hb3]) (by simp[World.cell?,hb3]) (by simp[World.cell?,hbc]) (by simp[World.cell?,hbc]) (by simp[World.cell?,hbc]) (by simp[World.cell?,hbc])
  (fun τ e=>n0W (w:=retape w3 τ e) (by omega) hsh.1 hsh.2.2 hsh.2.1 ((trb.oldC ku3).same fun r _=>rfl) ((trc.oldC k3).same fun r _=>rfl)) r2 r4 C.hgc C.hgq (by omega) (by omega) r1 (s0x H.v) r3 (s0x H.s) hA fun A u hs hA=>.stop fun d=>Q4.stop (k0a Try.func7 rfl (by decide) hA.2.1 fun r c e z hc=>?_)
 have h1:=(hW.trans k03).2 _ _ _ _ hc
 exact(hs r (Q3 h1)).trans h1
end
end
section
variable{An:G3}{w w0 w' u u' W wl wa wb:World}
theorem B5.inrow{a:Option Addr}{xs:List Int}(h:B5 w a (xs.map fun v=>vI v)):o5 w a xs:=fun i x hx=>h.c i _ (by rw[List.getElem?_map,hx];rfl)
section
variable{tl tb to:Nat}{ta:Option Addr}{oa:Nat→Option Addr}{oc:Nat→Nat}{Lf:Nat→List P3}{ops:Nat→List P3}{S:List Int}{va sa:Option Addr}{vs:List Int}{vc tc sc M:Nat}{mo:Int}
variable{tl' tb' to':Nat}{ta':Option Addr}{oaP:Nat→Option Addr}{ocP:Nat→Nat}{Lf':Nat→List P3}{ops':Nat→List P3}{S':List Int}{va' sa':Option Addr}{vs':List Int}{vc' tc' sc' M':Nat}{mo':Int}
theorem e0F(H:ScI W va ta sa vs S vc tl tb to sc mo M oa oc Lf ops)(H':ScI W va' ta' sa' vs' S' vc' tl' tb' to' sc' mo' M' oaP ocP Lf' ops'):
 Q4 An Try.prog (l0b An (g0M W)) (G (Frame.enter Try.prog 7 #[.agg #[.slice va vs.length vc,.slice ta tl tc,.slice sa S.length sc,vI mo],.agg #[.slice va' vs'.length vc',.slice ta' tl' tc',.slice sa' S'.length sc',vI mo']] .normal) []) W:=by
 refine w7 (F:=F0) (Stop:=fun a u=>∃A,G0 301 A [(2,vP W.heap.size 0),(3,vP (W.heap.size+1) 0)]∧u.heap=((W.alloc (.cells #[.slice va vs.length vc,.slice ta tl tc,.slice sa S.length sc,vI mo] 26)).alloc (.cells #[.slice va' vs'.length vc',.slice ta' tl' tc',.slice sa' S'.length sc',vI mo'] 26)).heap∧a=G (Frame.enter Try.prog 13 #[] .normal) [(bA 7 A [.inRegion (oC c0k) [0,1],.code b0C,.code e0v])])
  (y0l J1 (Nat.zero_le _) fun A hA=>.stop fun d=>⟨A,hA,rfl,rfl⟩) fun a u ⟨A,hA,hu,ha⟩=>?_
 subst ha
 have hb2:u.heap[W.heap.size]? =some (.cells #[.slice va vs.length vc,.slice ta tl tc,.slice sa S.length sc,vI mo] 26 (0,0)):=by
  rw[hu,D0 _ _ (by simp)];exact heap_alloc_new _ _
 have hb3:u.heap[W.heap.size+1]? =some (.cells #[.slice va' vs'.length vc',.slice ta' tl' tc',.slice sa' S'.length sc',vI mo'] 26 (0,0)):=by
  rw[hu]
  have h:=heap_alloc_new (W.alloc (.cells #[.slice va vs.length vc,.slice ta tl tc,.slice sa S.length sc,vI mo] 26)) (.cells #[.slice va' vs'.length vc',.slice ta' tl' tc',.slice sa' S'.length sc',vI mo'] 26)
  simpa using h
 have k0:M2 W u:=S1.oldC ⟨by rw[hu];simp;omega,fun r hr=>by rw[hu,D0 _ _ (by simp;omega),D0 _ _ hr]⟩
 clear hu
 generalize W.heap.size+1=b3 at hA hb3
 generalize W.heap.size=b2 at hA hb2
 refine m00 fun w1 hk1=>?_
 have k1:M2 u w1:=⟨hk1.1,hk1.2⟩
 have kW:=k0.trans k1
 have H1:=H.oldC kW
 have H1':=H'.oldC kW
 have B1:BxI w1 b2 _ _ _ _:=.of (k1.2 _ _ _ _ hb2)
 have B1':BxI w1 b3 _ _ _ _:=.of (k1.2 _ _ _ _ hb3)
 refine w7 (F:=F0) (Stop:=fun g w=>Q4 An Try.prog (l0b An (g0M W)) g w) ?_ fun g w h=>h
 refine y0m hA fun A hA=>?_
 refine x0E H1 B1 hA fun A w0 wl ga gc gs gq ov rv hk C hA=>?_
 have kW0:=kW.trans hk.oldC
 have H0:=H1.oldC hk.oldC
 have H0':=H1'.oldC hk.oldC
 have B0:=B1.oldC hk.oldC
 have B0':=B1'.oldC hk.oldC
 obtain⟨L,hN,hL⟩:=C.hn
 obtain⟨ova,ovc,hov⟩:=S2 hN.row
 have Hl:=H0.oldC C.k.oldC
 have Bl:=B0.oldC C.k.oldC
 have hvl:=H.vl
 have hsl:=H.sl
 obtain⟨tbn,hI⟩:=k0d (ops:=ops) (S:=S) (gs:=gs) (gq:=gq) hN hL H.op (by omega) (K0 C.hs fun b hb _=>C.k.2 b (O3 C.hs hb))
 have hova:w9 ov=ova:=by rw[hov];rfl
 rw[hova]at hI
 refine t0r Bl.q0 Bl.q1 Bl.q2 Bl.q3 hov C.hgc C.hgq (t0n C.hg (List.length_map _) C.k.oldC).1.inrow (by omega) hI H.hM hA fun A wa s order aa rows av oa1 oc1 xa1 xc1 bx hg1 hP1 hA=>?_
 have Ha:=Hl.oldC hP1.old
 have Ba:=Bl.oldC hP1.old
 refine y0i Ha Ba hA fun A wb s2 order2 ab rowsb avb ob obc xb xbc bb hg2 hP2 hA=>?_
 have hsh:(∀(i:Nat) (a:g8),a∈((s.th i).ans:List g8)→a.2.2.length≤17)∧(R1.state s.q).length≤17∧order.length≤1048576:=by
  obtain⟨k,hk⟩:=hg1
  have e:=hk k (Nat.le_refl _)
  have h1:=b0j (ops:=ops) (n:=min tl 64) (M:=M) (S:=S) (f:=k) (s:=ss0 vs)
  have h2:=fun i=>a0u (ops:=ops) (n:=min tl 64) (M:=M) (S:=S) (f:=k) (vs:=vs) i
  have e':a0K ops (min tl 64) M S k (⟨I4 vs,fun _=>⟨0,none,[]⟩⟩:GS SPl)=(s,order):=e
  rw[e]at h1
  rw[e']at h2
  have hM:=H0.hM
  simp only at h1
  exact⟨fun i=>(h2 i).1,(h2 0).2,by omega⟩
 have T:Two w0 wl wa wb tl (min tl 64) Lf ov rv s order aa rows av (.slice oa1 order.length oc1) (.slice xa1 (R1.state s.q).length xc1) (.bool (decide (0<L5 s.live (min tl 64)))) bx:=⟨⟨L,hN,hL⟩,C.dj,hP1,hP2.old,hsh⟩
 refine y0j H0 B0 T hA fun A u hO hA=>?_
 exact y0k H0 B0 H0' B0' C T hO hg2 hP2 kW0 hA
end
end
section
open Go Go.Conc Go.ChangeShapes
section
variable{H:Type}{enc:TypeId×Value→H}
theorem d0W{a:Assume}{C:Checked}{os:Os}{f:FuncId}{fn:Func}{s:OpenSpec}{k:(H:Type)→List (DataW H)→Bool}(hk:s.cond=some k){F:Stop.Interp}{conds:List PathCond}{apart fresh handsOn again:Bool}
 (own:ownKnob C.prog.godebug=none) (started:os.Started) (hfn:C.prog.funcs[f]? =some fn)
 (witness:∃(w:World) (tape:Tape) (i:Input),w.os=os∧(w.forCall tape i).Shaped C.prog∧i.vars=[]∧Input.okWide C.prog (w.forCall tape i) .any w.heap.size f i∧
   s.pre6 enc C.prog fn conds apart (w.forCall tape i).memory i.args∧a.holds C.prog (lone (Frame.enter C.prog f i.args .normal) [] (w.forCall tape i)))
 (runs:∀(W:World) (base:Nat) (args:Array Value) (ds gs:List (DataW H)) (before:List MemPlace),
   (∀(j:Nat) t v,fn.params[j]? =some t→args[j]? =some v→Value.okWide C.prog W .any base t v)→
   DataW.Whole enc C.prog fn.params.toList s.vars apart W args.toList ds gs before→
   conds.all (PathCond.test C.prog ⟨fn.params.toList,ds,s.bare.plain.varTypes C.prog,gs⟩)=true→k H (ds++gs)=true→
   a.holds C.prog (lone (Frame.enter C.prog f args .normal) [] W)→
   ∃M last o w' t',runNT C.prog (M+1) (solo (G (Frame.enter C.prog f args .normal) []) W) #[]=(.ended o w',t')∧runN C.prog M (solo (G (Frame.enter C.prog f args .normal) []) W)= .next last∧
    step C.prog last= .ended o w'∧Conc.Good C.prog (fun v W'=>(s.at F).post enc C.prog fn apart fresh handsOn again W args v W') last o w' t'):
 ReturnsInLeavingWide a C os f .any (s.pre6 enc C.prog fn conds apart) ((s.at F).post enc C.prog fn apart fresh handsOn again):=by
 refine returnsInLeavingWide_of_good own started witness ?_
 intro w tape i _ _ _ hok hpre hholds
 obtain⟨_,_,_,fn',hfn',_,_,_,_,hval⟩:=hok
 have e:fn'=fn:=Option.some.inj (hfn'.symm.trans hfn)
 subst e
 obtain⟨ds,gs,before,hw,hc,hkk⟩:=(OpenSpec.pre_some hk conds apart _ _).1 hpre.1
 have hw':=DataW.Whole.of_heap (w':=w.forCall tape i) (by rfl) hw
 obtain⟨M,last,o,w',t',h1,h2,h3,h4⟩:=runs (w.forCall tape i) w.heap.size i.args ds gs before hval hw' hc hkk hholds
 exact⟨M,last,o,w',t',h1,h2,h3,h4.mono fun v hp=>ChangeSpec.post_blind hp⟩
end
theorem b04{p:Pinned}{s:OpenSpec}{c:OpenClaim}(f:FuncId)(fn:Func)
 (hn:c.program=p.name) (hs:c.sum=p.sum) (hsp:c.spec=s.name)
 (hstart:c.start= .entering) (hout:c.outside=[]) (hin:c.inits=[]) (hun:c.under=none) (hi4:c.initsInPlace=[]∧c.initsUnfollowed=false∧c.initsRecurse=false∧c.initsNamed=[]∧c.initsPassed=[]) (hnb:c.noBlocks=false) (hlv:c.leaving=true) (hfo:c.followed=none) (hnar:c.narrowed=s.cond.isSome) (hstill:c.still=false)
 (hfn:p.checked.prog.funcNamed c.func=some f) (hf:p.checked.prog.funcs[f]? =some fn)
 (closed:joinedFacts p.checked.prog f fn s.bare c=true)
 (hinst:fn.isInstance p.checked.prog c.origin c.targs) (hwrap:fn.isWrapper p.checked.prog c.wrapper c.mainSum)
 (h:∀os:Os,os.Started→∀(H:Type) (enc:TypeId×Value→H),(∀a b,enc a=enc b→a=b)→∀F:Stop.Interp,
   ReturnsInLeavingWide c.assume p.checked os f .any (c.pre enc p.checked.prog fn s) ((s.at F).post enc p.checked.prog fn c.apart c.fresh c.handsOn c.again)):c.holds p s:=by
 simp only[joinedFacts,Bool.and_eq_true,beq_iff_eq,Array.all_eq_true_iff_forall_mem,List.all_eq_true,decide_eq_true_eq]at closed
 obtain⟨⟨⟨⟨⟨⟨⟨⟨⟨⟨⟨⟨⟨⟨⟨⟨⟨⟨⟨⟨⟨⟨⟨⟨⟨⟨⟨⟨⟨⟨⟨k1,k2⟩,k3⟩,k4⟩,k5⟩,k6⟩,k7⟩,k8⟩,k9⟩,k10⟩,k11⟩,k12⟩,k13⟩,k14⟩,k15⟩,k16⟩,k17⟩,k17b⟩,k18⟩,k19⟩,k20⟩,k21⟩,k22⟩,k23⟩,k23b⟩,k24⟩,k24b⟩,k24c⟩,k25⟩,k26⟩,k27⟩,k28⟩:=closed
 have hq:∀os:Os,Stop.quiet p.checked.prog os:=fun os k hk=>by rw[k9]at hk;cases hk
 refine⟨k1,hn,hs,hsp,k2,k3,by unfold OpenClaim.startFits;rw[hstart];exact k24,by unfold OpenClaim.startTold;rw[hstart];exact⟨hin,hun,hi4⟩,f,fn,hfn,hf,⟨k4,k19⟩,(fun hb=>by rw[hnb]at hb;cases hb),by unfold OpenClaim.namedList;rw[hfo];exact k5,hinst,hwrap,
  k6.trans k7.symm,⟨k8.trans k9.symm,by unfold Program.envWorded;rw[k9];rfl,k23b⟩,k10,k11,k12,k13,k14,⟨k15,k27,k28⟩,⟨k16,k20⟩,⟨k17,k21,k25,k26⟩,⟨k22,k24b,k24c,k17b⟩,(by rw[hout,hnar];cases hsh:c.shortTexts with|none=>simp|some _=>rw[hsh]at k23;cases k23),fun n hn'=>varReadable_some (k18 n hn'),
  ⟨_,by unfold OpenClaim.world;rw[hout,hstart];exact WideRow.started_initial,hq _⟩,[],by unfold OpenClaim.lists;rw[hfo],fun os st _ H enc inj=>?_⟩
 have st':os.Started:=by unfold OpenClaim.world at st;rw[hout,hstart]at st;exact st
 rw[OpenClaim.post_not_still hstill]
 unfold OpenClaim.form
 rw[hstart,k6]
 intro F
 have e1:c.okInput=Input.okWide:=by unfold OpenClaim.okInput;rw[hnb]
 have e2:c.atReturn p.checked.prog=leavingAtReturn p.checked.prog:=by unfold OpenClaim.atReturn;rw[hlv]
 have e3:c.always p.checked.prog []=nothingAlways:=by unfold OpenClaim.always;rw[hfo]
 have e4:s.post enc p.checked.prog fn F c.outside c.apart c.fresh c.handsOn c.again=(s.at F).post enc p.checked.prog fn c.apart c.fresh c.handsOn c.again:=by rw[hout];rfl
 rw[e1,e2,e3]
 show ReturnsInOpen _ _ _ _ _ _ _ _ (s.post enc p.checked.prog fn F c.outside c.apart c.fresh c.handsOn c.again) _ _
 rw[e4]
 exact h os st' H enc inj F k24
end
section
open Go.ChangeShapes Go.WideShapes Go.ChangeAt
section
variable{H:Type}{enc:TypeId×Value→H}{W:World}
theorem e0m{t e:TypeId}(ht:Try.prog.underlying t=some (.slice e))(he:Try.prog.underlying e=some (.int .i64))(hc:Try.prog.cellsOf e=1){v:Value}{d:DataW H}{p:List MemPlace}(hv:∃a l c,v= .slice a l c)
 (h:DataW.Trod enc Try.prog W 0 (fun _=>true) true t v d p) (hz:W.noneFrozen p) (hl:∀x∈p,x.block<W.heap.size):
 ∃(a:Option Addr) (vs:List Int) (c b o:Nat),v= .slice a vs.length c∧vs.length≤Rows.uptoBulk d∧(0<vs.length→a=some ⟨b,o,none⟩∧b<W.heap.size∧∃c e z,W.heap[b]? =some (.cells c e z)∧∀(k:Nat) (u:Int),vs[k]? =some u→
  c[o+k]? =some (vI u)∧(decide (z.1≤o+k) && decide (o+k<z.2))=false∧W.cell? ⟨b,o+k,none⟩=some (vI u)∧W.frozen? ⟨b,o+k,none⟩=false):=by
 obtain⟨fuel,hf⟩:=h
 obtain⟨a0,l0,c0,rfl⟩:=hv
 rcases open_ints ht he hc hf with⟨h1,h2⟩|⟨a,len,cap,zs,h1,hb,hlc,_,hzl,h2,h3,_⟩
 ·simp[Value.cells]at h1
  obtain⟨rfl,rfl,rfl⟩:=h1
  exact⟨none,[],0,0,0,rfl,Nat.zero_le _,fun h=>by simp at h⟩
 ·simp only[if_true]at hzl
  simp[Value.cells]at h1
  obtain⟨rfl,rfl,rfl⟩:=h1
  simp only[Prod.mk.injEq]at h2
  obtain⟨rfl,rfl⟩:=h2
  have el:(zs.take l0).length=l0:=by simp;omega
  refine⟨some a,zs.take l0,c0,a.block,a.off,by rw[el],?_,fun hp=>?_⟩
  ·have:=(e0l (H:=H) (lits .i64 (zs.take l0)) (lits .i64 (zs.drop l0))).1
   simpa [lits]using this
  ·rw[el]at hp
   obtain⟨b,o,spot⟩:=a
   have hs:spot=none:=by
    have:=World.cell?_spot (h3 0 (by omega))
    simpa [Addr.add]using this
   subst hs
   have hc0:=h3 0 (by omega)
   rw[add_plain]at hc0
   obtain⟨c,e',z,ho,_⟩:=c0K hc0
   have hfr:∀k,k<zs.length→W.frozen? ⟨b,o+k,none⟩=false:=fun k hk=>hz b (o+k) (by simp only[MemPlace.row,List.mem_map,List.mem_range];exact⟨k,hk,rfl⟩)
   refine⟨rfl,(Q3 ho),c,e',z,ho,fun k u hk=>?_⟩
   have hkl:=(List.getElem?_eq_some_iff.1 hk).1
   rw[el]at hkl
   have hu:zs.getD k 0=u:=by
    rw[List.getElem?_take_of_lt hkl]at hk
    simp[List.getD,hk]
   have hck:=h3 k (by omega)
   rw[add_plain,hu]at hck
   obtain⟨c',e2,z',ho',hcc⟩:=c0K hck
   rw[ho]at ho'
   cases ho'
   exact⟨hcc,j0g ho (hfr k (by omega)),hck,hfr k (by omega)⟩
end
section
variable{H:Type}{enc:TypeId×Value→H}{W:World}
theorem j0m{t e:TypeId}(ht:Try.prog.underlying t=some (.slice e))(he:Try.prog.underlying e=some (.int .i64))(hc:Try.prog.cellsOf e=1){a:Option Addr}{l c:Nat}{d:DataW H}{p:List MemPlace}
 (h:DataW.Trod enc Try.prog W 0 (fun _=>true) true t (.slice a l c) d p):l<9223372036854775808:=by
 obtain⟨fuel,hf⟩:=h
 rcases open_ints ht he hc hf with⟨h1,h2⟩|⟨a,len,cap,zs,h1,hb,hlc,hm,hzl,h2,h3,_⟩
 ·simp[Value.cells]at h1
  omega
 ·simp[Value.cells]at h1
  unfold maxLen at hm
  omega
theorem m0n:Try.prog.cellsOf 22=1:=by kernel_rfl
theorem m0o:Try.prog.cellsOf 23=1:=by kernel_rfl
theorem m0p:Try.prog.cellsOf 24=1:=by kernel_rfl
theorem a0n{t e:TypeId}(ht:Try.prog.underlying t=some (.slice e)){n:Nat}{v:Value}{y:DataW H×List MemPlace}(h:DataW.trod enc Try.prog W 0 (fun _=>true) true n t [v]=some y):(∃a l c,v= .slice a l c)∧DataW.Trod enc Try.prog W 0 (fun _=>true) true t v y.1 y.2:=by
 obtain⟨y1,y2⟩:=y
 have hs:∃a l c,v= .slice a l c:=by
  rcases Deep.open_slice ht h with⟨h1,_⟩|⟨a,len,cap,m,n,D,Pl,h1,_⟩
  ·cases h1;exact⟨_,_,_,rfl⟩
  ·cases h1;exact⟨_,_,_,rfl⟩
 refine⟨hs,n,?_⟩
 obtain⟨a,l,c,rfl⟩:=hs
 exact h
end
end
section
open Go.ChangeShapes Go.WideShapes Go.ChangeAt
section
variable{H:Type}{enc:TypeId×Value→H}{W:World}
theorem a0g{t e:TypeId}(ht:Try.prog.underlying t=some (.slice e)){n l c:Nat}{y:DataW H×List MemPlace}(h:DataW.trod enc Try.prog W 0 (fun _=>true) true n t [.slice none l c]=some y):l=0∧c=0:=by
 rcases Deep.open_slice ht h with⟨h1,_⟩|⟨a,len,cap,m,n,D,Pl,h1,_⟩
 ·cases h1;exact⟨rfl,rfl⟩
 ·cases h1
theorem e0w{v:Value}{d:DataW H}{p:List MemPlace}(hv:∃a l c,v= .slice a l c)(h:DataW.Trod enc Try.prog W 0 (fun _=>true) true 23 v d p)(hz:W.noneFrozen p)(hb1:Rows.uptoBulk d≤1048576):
 ∃(a:Option Addr) (tl tc b o:Nat) (oa:Nat→Option Addr) (oc:Nat→Nat) (Lf:Nat→List P3),v= .slice a tl tc∧tl≤1048576∧ThF W tl b o a oa oc Lf∧
  ∀(S:List Int) (sa:Option Addr),S.length<9223372036854775808→(0<S.length→∃sb so c e z,sa=some ⟨sb,so,none⟩∧W.heap[sb]? =some (.cells c e z)∧∀(k:Nat) (u:Value),(S.map fun i:Int=>Value.int .i64 i)[k]? =some u→c[so+k]? =some u∧(decide (z.1≤so+k) && decide (so+k<z.2))=false)→
   y6 W (fun _=>False) (min tl 64) b o tl a oa (fun j=>(Lf j).length) oc (fun j=>(Lf j).take 65536) S sa:=by
 obtain⟨fuel,hf⟩:=h
 obtain⟨a0,l0,c0,rfl⟩:=hv
 rcases Deep.open_slice1 Try.underlying23 m0t hf with⟨h1,h2⟩|⟨a,len,cap,m,n,V,D,Pl,h1,hb,hlc,_,hm,h2,hx⟩
 ·simp[Value.cells]at h1
  obtain⟨rfl,rfl,rfl⟩:=h1
  refine⟨none,0,0,0,0,fun _=>none,fun _=>0,fun _=>[],rfl,Nat.zero_le _,⟨fun j hj=>by omega,fun j hj=>by omega,fun j hj=>by omega,fun j hj=>by omega⟩,fun S sa hl hS=>⟨rfl,fun h=>by simp at h,fun h=>by simp at h,fun j hj=>by simp at hj,fun j hj=>by simp at hj,fun j hj=>by simp at hj,hl,fun hp=>?_⟩⟩
  obtain⟨sb,so,c,e,z,e1,e2,e3⟩:=hS hp
  exact⟨sb,so,c,e,z,e1,fun h=>h,e2,e3⟩
 ·simp only[if_true]at hm
  subst hm
  simp[Value.cells]at h1
  obtain⟨rfl,rfl,rfl⟩:=h1
  simp only[Prod.mk.injEq]at h2
  obtain⟨rfl,rfl⟩:=h2
  have hbs:=e0l (H:=H) ((List.range l0).map D) ((List.range (c0 - l0)).map fun j=>D (l0+j))
  have each:∀j,j<l0→∃q:Option Addr×Nat×Nat×Nat×Nat×(Nat→P3),V j= .slice q.1 q.2.1 q.2.2.1∧q.2.1≤q.2.2.1∧q.2.1≤1048576∧(q.1=none→q.2.1=0∧q.2.2.1=0)∧∀k,k<q.2.1→q.1=some ⟨q.2.2.2.1,q.2.2.2.2.1,none⟩∧o0o W q.2.2.2.1 (q.2.2.2.2.1+k*4) (q.2.2.2.2.2 k):=fun j hj=>by
   obtain⟨x1,x2,x3,x4,x5,x6,e1,e2,e3,e4⟩:=x0F (hx j (by omega)).2 (fun b o hm=>hz b o (List.mem_append_right _ (List.mem_flatMap.2 ⟨j,List.mem_range.2 (by omega),hm⟩)))
   refine⟨⟨x1,x2,x3,x4,x5,x6⟩,e1,e2,Nat.le_trans e3 (Nat.le_trans (hbs.2 _ (List.mem_map.2 ⟨j,List.mem_range.2 hj,rfl⟩)) hb1),fun hn=>?_,e4⟩
   have h1:=(hx j (by omega)).2
   have hn':x1=none:=hn
   rw[e1,hn']at h1
   exact a0g Try.underlying34 h1
  obtain⟨q,hq⟩:=Deep.choose_lt each
  have hsp:0<l0→a=⟨a.block,a.off,none⟩:=fun hp=>by
   obtain⟨b,o,spot⟩:=a
   have hs:spot=none:=by
    have:=World.cell?_spot (hx 0 (by omega)).1
    simpa [Addr.add]using this
   subst hs
   rfl
  have hcell:∀j,j<l0→W.cell? ⟨a.block,a.off+j,none⟩=some (.slice (q j).1 (q j).2.1 (q j).2.2.1):=fun j hj=>by
   have:=(hx j (by omega)).1
   rw[hsp (by omega),add_plain,(hq j hj).1]at this
   exact this
  have hop:∀j,j<l0→∀k x,((List.range (q j).2.1).map (q j).2.2.2.2.2)[k]? =some x→(q j).1=some ⟨(q j).2.2.2.1,(q j).2.2.2.2.1,none⟩∧o0o W (q j).2.2.2.1 ((q j).2.2.2.2.1+k*4) x:=fun j hj k x hk=>by
   have hkl:=(List.getElem?_eq_some_iff.1 hk).1
   simp only[List.length_map,List.length_range]at hkl
   have hx':(q j).2.2.2.2.2 k=x:=by
    rw[List.getElem?_map,List.getElem?_range hkl]at hk
    simpa using hk
   rw[← hx']
   exact(hq j hj).2.2.2.2 k hkl
  refine⟨some a,l0,c0,a.block,a.off,fun j=>(q j).1,fun j=>(q j).2.2.1,fun j=>(List.range (q j).2.1).map (q j).2.2.2.2.2,rfl,Nat.le_trans (by simpa using hbs.1) hb1,⟨fun j hj=>⟨by rw[← hsp (by omega)],by simpa using hcell j hj⟩,fun j hj=>by simpa using(hq j hj).2.2.1,fun j hj hn=>?_,fun j hj k x hk=>?_⟩,fun S sa hl hS=>?_⟩
  ·obtain⟨n1,n2⟩:=(hq j hj).2.2.2.1 hn
   exact⟨by simp[n1],n2⟩
  ·obtain⟨e1,e2⟩:=hop j hj k x hk
   exact⟨_,_,e1,e2.f0,e2.f1,e2.f2,e2.f3⟩
  refine⟨rfl,fun hp=>by rw[← hsp (by omega)],fun hp=>?_,fun j hj=>⟨by simpa using hcell j (by omega),?_,by simpa using(hq j (by omega)).2.1⟩,fun j hj=>by simp[Nat.min_comm],fun j hj k x hk=>?_,hl,fun hp=>?_⟩
  ·obtain⟨c,e,z,ho,_⟩:=c0K (hcell 0 (by omega))
   exact(Q3 ho)
  ·exact hz a.block (a.off+j) (List.mem_append_left _ (by simp only[MemPlace.row,List.mem_map,List.mem_range];exact⟨j,by omega,rfl⟩))
  ·have hkl:=(List.getElem?_eq_some_iff.1 hk).1
   rw[List.length_take]at hkl
   rw[List.getElem?_take_of_lt (by omega)]at hk
   obtain⟨e1,e2⟩:=hop j (by omega) k x hk
   exact⟨_,_,e1,fun h=>h,e2.f0,e2.f1,e2.f2,e2.f3,e2.g0,e2.g1,e2.g2,e2.g3⟩
  ·obtain⟨sb,so,c,e,z,e1,e2,e3⟩:=hS hp
   exact⟨sb,so,c,e,z,e1,fun h=>h,e2,e3⟩
theorem b0u{v:Value}{d:DataW H}{p:List MemPlace}(hv:Value.okWide Try.prog W .any W.heap.size 26 v)(h:DataW.Trod enc Try.prog W 0 (fun _=>true) true 26 v d p)(hz:W.noneFrozen p)(hl:∀x∈p,x.block<W.heap.size)(hb:Rows.uptoBulk d≤1048576):
 ∃(va ta sa:Option Addr) (vs:List Int) (vc tl tc sc tb o:Nat) (S:List Int) (mo:Int) (oa:Nat→Option Addr) (oc:Nat→Nat) (Lf ops:Nat→List P3) (M:Nat),v= .agg #[.slice va vs.length vc,.slice ta tl tc,.slice sa S.length sc,vI mo]∧
  ScI W va ta sa vs S vc tl tb o sc mo M oa oc Lf ops:=by
 obtain⟨cs,rfl,hcs⟩:=okWide_struct Try.underlying26 hv
 obtain⟨fuel,hf⟩:=h
 obtain⟨xs,n',hk',hxy,hlen,hxl,hfd⟩:=DataW.trod_struct Try.underlying26 hf
 obtain⟨l⟩:=cs
 match xs,hxl,l,hcs with
 | [y0,y1,y2,y3],_,[v0,v1,v2,v3],_=>
   have q0:=hfd 0 _ rfl
   have q1:=hfd 1 _ rfl
   have q2:=hfd 2 _ rfl
   have q3:=hfd 3 _ rfl
   simp[m0n,m0o,m0p,w0V,Value.cells]at q0 q1 q2 q3
   simp only[Prod.mk.injEq]at hxy
   obtain⟨hd,hp⟩:=hxy
   have hbp:∀y∈[y0.1,y1.1,y2.1,y3.1],Rows.uptoBulk y≤1048576:=fun y hy=>by
    have h1:=f0Y hy
    rw[hd]at hb
    simp only[Rows.uptoBulk,List.map_cons,List.map_nil]at hb
    omega
   obtain⟨s0,t0⟩:=a0n Try.underlying22 q0
   obtain⟨s1,t1⟩:=a0n Try.underlying23 q1
   obtain⟨s2,t2⟩:=a0n Try.underlying24 q2
   obtain⟨mo,r3,_,_⟩:=DataW.trod_int Try.underlying3 q3
   cases r3
   have z0:W.noneFrozen y0.2:=fun b o h=>hz b o (by rw[hp];simp[h])
   have z1:W.noneFrozen y1.2:=fun b o h=>hz b o (by rw[hp];simp[h])
   have z2:W.noneFrozen y2.2:=fun b o h=>hz b o (by rw[hp];simp[h])
   have l0:∀x∈y0.2,x.block<W.heap.size:=fun x hx=>hl x (by rw[hp];simp[hx])
   have l2:∀x∈y2.2,x.block<W.heap.size:=fun x hx=>hl x (by rw[hp];simp[hx])
   obtain⟨va,vs,vc,vb,vo,rfl,vl,hV⟩:=e0m Try.underlying22 Try.underlying2 o0G s0 t0 z0 l0
   obtain⟨sa,S,sc,sb,so,rfl,sl,hS⟩:=e0m Try.underlying24 Try.underlying3 w0V s2 t2 z2 l2
   obtain⟨ta,tl,tc,tb,o,oa,oc,Lf,rfl,tn,hT,hI⟩:=e0w s1 t1 z1 (hbp _ (by simp))
   have hsl:=j0m Try.underlying24 Try.underlying3 w0V t2
   have hI:=hI S sa hsl fun hp=>by
    obtain⟨e1,e2,c,e,z,e3,e4⟩:=hS hp
    refine⟨sb,so,c,e,z,e1,e3,fun k u hu=>?_⟩
    rw[List.getElem?_map,Option.map_eq_some_iff]at hu
    obtain⟨i,hi,rfl⟩:=hu
    exact⟨(e4 k i hi).1,(e4 k i hi).2.1⟩
   have b0:=hbp y0.1 (by simp)
   have b2:=hbp y2.1 (by simp)
   refine⟨va,ta,sa,vs,vc,tl,tc,sc,tb,o,S,mo,oa,oc,Lf,fun j=>(Lf j).take 65536,(min (max mo 0) 1048576).toNat,rfl,fun k x hx=>?_,fun hn=>?_,by omega,fun k x hx=>?_,fun hn=>?_,by omega,hT,tn,hI,fun j _=>rfl,by omega⟩
   ·obtain⟨e1,e2,c,e,z,e3,e4⟩:=hV (by have:=(List.getElem?_eq_some_iff.1 hx).1;omega)
    exact⟨vb,vo,e1,(e4 k x hx).2.2.1⟩
   ·subst hn
    obtain⟨n1,n2⟩:=a0g Try.underlying22 q0
    exact⟨List.length_eq_zero_iff.1 n1,n2⟩
   ·obtain⟨e1,e2,c,e,z,e3,e4⟩:=hS (by have:=(List.getElem?_eq_some_iff.1 hx).1;omega)
    exact⟨sb,so,e1,(e4 k x hx).2.2.1⟩
   ·subst hn
    obtain⟨n1,n2⟩:=a0g Try.underlying24 q2
    exact⟨List.length_eq_zero_iff.1 n1,n2⟩
end
theorem b09(os:Os)(started:os.Started)(H:Type)(enc:TypeId×Value→H)(F:Stop.Interp):
 ReturnsInLeavingWide {} Try.checked os 7 .any ((Rows.OpenSpec.upto Rows.seqlockKeepsSpec).pre6 enc Try.prog Try.f7 Rows.seqlockKeepsUptoRow.domain false) (((Rows.OpenSpec.upto Rows.seqlockKeepsSpec).at F).post enc Try.prog Try.f7 false true false false):=by
 refine d0W (C:=Try.checked) (s:=Rows.OpenSpec.upto Rows.seqlockKeepsSpec) (k:=Rows.uptoSmall) rfl Try.own started Try.func7
  (OpenSpec.witness (enc:=enc) (C:=Try.checked) (s:=Rows.OpenSpec.upto Rows.seqlockKeepsSpec) (k:=Rows.uptoSmall) rfl false ⟨#[],#[.agg #[.slice none 0 0,.slice none 0 0,.slice none 0 0,.int .i64 0],.agg #[.slice none 0 0,.slice none 0 0,.slice none 0 0,.int .i64 0]],[]⟩ 8 (by kernel_rfl) (by kernel_rfl) (by kernel_rfl)
    (x:=([.agg [.nil,.nil,.nil,.lit (.int .i64 0)],.agg [.nil,.nil,.nil,.lit (.int .i64 0)]],[],[])) (by kernel_rfl) rfl (by kernel_rfl)) ?_
 intro W base args ds gs before hval0 hW _ hkk _
 have hval:∀(j:Nat) t v,Try.f7.params[j]? =some t→args[j]? =some v→Value.okWide Try.prog W .any base t v:=hval0
 have hW':=hW
 obtain⟨p,q,hA0,hV,rfl,hfz,_⟩:=hW
 have hA:DataW.TrodAll enc Try.prog W 0 (fun _=>true) true Try.f7.params.toList args.toList ds p:=hA0
 rw[Try.params7]at hA hval
 obtain⟨v0,v1,d0,d1,p0,p1,rfl,rfl,rfl,h0,h1⟩:=trodAll_two hA
 obtain⟨rfl,rfl⟩:=trodVars_none hV
 clear hA0 hval0
 simp only[List.append_nil,List.nil_append]at hW' hfz hkk
 have hlt:∀x∈p0++p1,x.block<W.heap.size:=fun x hx=>by simpa using hW'.lt x hx
 have hb:Rows.uptoBulkAll [d0,d1]≤1048576:=by simpa [Rows.uptoSmall]using hkk
 have b0:Rows.uptoBulk d0≤1048576:=Nat.le_trans (f0Y (by simp)) hb
 have b1:Rows.uptoBulk d1≤1048576:=Nat.le_trans (f0Y (by simp)) hb
 obtain⟨va,ta,sa,vs,vc,tl,tc,sc,tb,o,S,mo,oa,oc,Lf,ops,M,rfl,hI⟩:=b0u (hval 0 26 v0 rfl rfl) h0 (fun b o h=>hfz b o (by simp[h])) (fun x hx=>hlt x (by simp[hx])) b0
 obtain⟨va',ta',sa',vs',vc',tl',tc',sc',tb',o',S',mo',oa',oc',Lf',ops',M',rfl,hI'⟩:=b0u (hval 1 26 v1 rfl rfl) h1 (fun b o h=>hfz b o (by simp[h])) (fun x hx=>hlt x (by simp[hx])) b1
 have hbes:=e0F (An:=⟨W.heap.size,W⟩) (W:=W) (tc:=tc) (tc':=tc') hI hI'
 obtain⟨N,last,o',w',t',g1,g2,g3,g4⟩:=o0v (An:=⟨W.heap.size,W⟩) (Post:=fun v w'=>g0M W v w'∧(⟨W.heap.size,W⟩:G3).Holds w') (W:=W) ⟨rfl,rfl,rfl,Nat.le_refl _,fun r o _ h _=>h⟩ (Q4.bind hbes fun g w h=>Q4.stop ⟨h.1,fun d=>by
  obtain⟨v,e1,e2⟩:=h.2 d
  exact⟨v,e1,fun hh=>⟨e2 hh,hh⟩⟩⟩)
 refine⟨N,last,o',w',t',g1,g2,g3,g4.mono fun v hF=>?_⟩
 obtain⟨⟨rfl,hk⟩,hh⟩:=hF
 have hbelow:=o0u hh hk
 have q0:=Below.trod Try.laidOut (by kernel_rfl) (of_decide_eq_true (by kernel_rfl)) h0 hbelow (fun x hx=>hlt x (by simp[hx]))
 have q1:=Below.trod Try.laidOut (by kernel_rfl) (of_decide_eq_true (by kernel_rfl)) h1 hbelow (fun x hx=>hlt x (by simp[hx]))
 refine⟨_,_,_,[],p0++(p1++[]),[],hW',?_,?_,rfl,hbelow.frame _,fun h=>by cases h⟩
 ·exact trodAll_mk1 (shut_bool Try.underlying4 true)
 ·exact⟨p0,_,q0,⟨p1,_,q1,trodAll_mk0,rfl⟩,rfl⟩
theorem seqlockKeeps_holds:Rows.SeqlockKeepsUptoSaid:=
 b04 7 Try.f7 rfl rfl rfl rfl rfl rfl rfl ⟨rfl,rfl,rfl,rfl,rfl⟩ rfl rfl rfl rfl rfl (by kernel_rfl) Try.func7 (by kernel_rfl)
  (of_decide_eq_true (by kernel_rfl)) (by unfold Func.isWrapper;first|(rw[if_pos (by decide +kernel)];kernel_rfl)|(rw[if_neg (by decide +kernel)];exact⟨rfl,rfl⟩))
  (fun os started H enc _ F=>b09 os started H enc F)
end
end Go.Proofs.Ytlcgkpapnpdfpaa
