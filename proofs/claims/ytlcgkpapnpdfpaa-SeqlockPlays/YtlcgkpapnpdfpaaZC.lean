/-
  Of SeqlockPlays: every run by a schedule is the machine's of the same steps. No condition.
  Part 3 of 6.
-/
import Derived.Test.YtlcgkpapnpdfpaaZB
import Derived.Deep.RegionLaw
import Derived.Deep.RegionLawGrows
import Derived.Deep.DeepAppendRoom
import Derived.ArgAppend
set_option linter.unusedSimpArgs false
set_option linter.unusedVariables false
set_option linter.unusedSectionVars false
set_option maxRecDepth 100000
set_option maxHeartbeats 8000000
namespace Go.Proofs.Ytlcgkpapnpdfpaa
open Go Go.Conc Go.RowKit Go.Proofs
section
variable{F:Fz}{w w':World}
theorem info44:∃i,Try.prog.info? 44=some i∧i.zero=some (.agg #[.bool false,.int .i64 0,.slice none 0 0])∧i.size=3∧i.bytes=40:=by
 have h:(Try.prog.info? 44).map (fun i=>(i.size,i.bytes))=some (3,40):=by kernel_rfl
 have h0:(Try.prog.info? 44).bind (·.zero)=some (.agg #[.bool false,.int .i64 0,.slice none 0 0]):=by kernel_rfl
 obtain⟨i,hi,h1⟩:=Option.map_eq_some_iff.1 h
 rw[hi]at h0
 simp only[Prod.mk.injEq]at h1
 exact⟨i,hi,h0,h1.1,h1.2⟩
theorem cell_three_new(w:World)(x y z:Value)(t:TypeId):∀j u,[x,y,z][j]? =some u→(w.alloc (.cells #[x,y,z] t)).cell? ((⟨w.heap.size,0,none⟩:Addr).add j)=some u:=by
 intro j u h
 have hb:=heap_alloc_new w (.cells #[x,y,z] t)
 have e:(⟨w.heap.size,0,none⟩:Addr).add j=⟨w.heap.size,j,none⟩:=by cases j<;>simp[Addr.add]
 rw[e]
 unfold World.cell?
 simp only
 rw[hb]
 simpa using h
theorem mask_same{j r:Nat}(hg:Grew F w w' j)(h:(mask F w').heap[r]? =(mask F w).heap[r]?)(hr:r<w.heap.size):w'.heap[r]? =w.heap[r]?:=by
 rw[mask_get,mask_get]at h
 obtain⟨o,ho⟩:∃o,w.heap[r]? =some o:=⟨_,Array.getElem?_eq_getElem hr⟩
 rcases hg.objs r o ho with⟨c,e,z,c',rfl,h2,_⟩|h2
 ·rw[ho,h2]at h
  simp only[Option.map_some,maskObj,Option.some.injEq,Obj.cells.injEq,and_true]at h
  rw[ho,h2,h]
 ·rw[ho,h2]
theorem own_weaken{P:Program}{main:Bool}{F2:Fz}{Stop:Goroutine→World→Prop}{g:Goroutine}(hF:∀a,held F a→held F2 a)(h:Own P main F2 Stop g w):Own P main F Stop g w:=by
 induction h with
 | stop h=>exact .stop h
 | step' hr g' w' es hs hg _ ih=>
   exact .step' hr g' w' es hs (fun d=>by
    obtain⟨⟨j,h1⟩,h2⟩:=hg d
    exact⟨⟨j,h1.tape,h1.drawn,h1.os,h1.output,h1.size,h1.objs,fun a ha=>h1.keep a (hF a ha)⟩,fun e he=>⟨fun hw=>by obtain⟨a,e1,e2⟩:=(h2 e he).1 hw;exact⟨a,e1,fun x=>e2 (hF a x)⟩,(h2 e he).2⟩⟩) ih
structure SG(F:Fz)(av ib aa ab n i:Nat)(v x y z:Value)(u:World):Prop where
 wf:Wf F u
 la0:Lies u ⟨av,0,none⟩ (.slice (some ⟨aa,0,none⟩) n n)
 li0:Lies u ⟨ib,0,none⟩ (.int .i64 i)
 arr:∃c,u.heap[aa]? =some (.cells c 42 (0,0))∧c[i]? =some v
 an:u.heap[ab]? =some (.cells #[x,y,z] 44 (0,0))
section
variable{av ib aa ab n i:Nat}{v x y z:Value}{u:World}
theorem SG.at(h:SG F av ib aa ab n i v x y z u)(d:Nat):SG F av ib aa ab n i v x y z (u.at d):=⟨⟨h.wf.own⟩,h.la0.at d,h.li0.at d,h.arr,h.an⟩
theorem SG.la(h:SG F av ib aa ab n i v x y z u):Lies u ⟨aa,i,none⟩ v:=by obtain⟨c,h1,h2⟩:=h.arr;exact⟨⟨c,_,h1,h2⟩,rfl⟩
theorem SG.alloc{nn:Nat}(hU:Under F nn)(ht:nn≤u.heap.size)(h:SG F av ib aa ab n i v x y z u)(o:Obj):SG F av ib aa ab n i v x y z (u.alloc o):=
 ⟨h.wf.of_grew (grew_alloc hU ht o),h.la0.alloc o,h.li0.alloc o,by obtain⟨c,h1,h2⟩:=h.arr;exact⟨c,(heap_alloc_lt _ _ (alt h1)).trans h1,h2⟩,(heap_alloc_lt _ _ (Array.getElem?_eq_some_iff.1 h.an).1).trans h.an⟩
theorem SG.ca(h:SG F av ib aa ab n i v x y z u):u.cell? ⟨av,0,none⟩=some (.slice (some ⟨aa,0,none⟩) n n):=h.la0.c
theorem SG.za(h:SG F av ib aa ab n i v x y z u):u.frozen? ⟨av,0,none⟩=false:=h.la0.z
theorem SG.ci(h:SG F av ib aa ab n i v x y z u):u.cell? ⟨ib,0,none⟩=some (.int .i64 i):=h.li0.c
theorem SG.zi(h:SG F av ib aa ab n i v x y z u):u.frozen? ⟨ib,0,none⟩=false:=h.li0.z
theorem SG.cl(h:SG F av ib aa ab n i v x y z u):u.cell? ⟨aa,i,none⟩=some v:=h.la.c
theorem SG.zl(h:SG F av ib aa ab n i v x y z u):u.frozen? ⟨aa,i,none⟩=false:=h.la.z
theorem SG.c0(h:SG F av ib aa ab n i v x y z u):u.cell? ⟨ab,0,none⟩=some x:=by simp[World.cell?,h.an]
theorem SG.c1(h:SG F av ib aa ab n i v x y z u):u.cell? ⟨ab,1,none⟩=some y:=by simp[World.cell?,h.an]
theorem SG.c2(h:SG F av ib aa ab n i v x y z u):u.cell? ⟨ab,2,none⟩=some z:=by simp[World.cell?,h.an]
theorem SG.zz(h:SG F av ib aa ab n i v x y z u)(k:Nat):u.frozen? ⟨ab,k,none⟩=false:=by simp[World.frozen?,h.an]
end
structure NotedA(F:Fz)(aa ab i m:Nat)(v x y z:Value)(xs:List Value)(w w':World)(v':Value):Prop where
 wf:Wf F w'
 row:w'.ownsRow 0 44 3 v' (m+1) (xs++[x,y,z])
 arr:∀c,w.heap[aa]? =some (.cells c 42 (0,0))→w'.heap[aa]? =some (.cells (c.setIfInBounds i v') 42 (0,0))
 size:w.heap.size≤w'.heap.size
 own:∀b,Value.ownBlock v'=some b→some b=Value.ownBlock v∨w.heap.size≤b
 old:∀r,r<w.heap.size→r≠aa→some r≠Value.ownBlock v→w'.heap[r]? =w.heap[r]?
theorem dg_2a{sv:Value}{ansb:Bool}{ansn:Int}{la:Option Addr}{ll lc:Nat}{ob db ib av ab k:Nat}{oa:Option Addr}{ol oc:Nat}(ha:Ans w ab)(hnh:∀k,¬held F ⟨ab,k,none⟩){A:Array Value}(hA:Slots 33 A [(0,sv),(1,.pointer (some ⟨ob,0,none⟩)),(2,.pointer (some ⟨db,0,none⟩)),(3,.pointer (some ⟨ib,0,none⟩)),(4,.pointer (some ⟨av,0,none⟩)),(8,.pointer (some ⟨ab,0,none⟩)),(9,.slice oa ol oc),(10,.int .i64 ol),(11,.int .i64 k)]){cs:List Frame}{main:Bool}{Stop:Goroutine→World→Prop}
 (h:∀A,Slots 33 A [(0,sv),(1,.pointer (some ⟨ob,0,none⟩)),(2,.pointer (some ⟨db,0,none⟩)),(3,.pointer (some ⟨ib,0,none⟩)),(4,.pointer (some ⟨av,0,none⟩)),(8,.pointer (some ⟨ab,0,none⟩)),(9,.slice oa ol oc),(10,.int .i64 ol),(11,.int .i64 k)]→Own Try.prog main F Stop (G ((Go.Conc.base 99).at ⟨A,[]⟩ [.code dgr6,.inBlock 1,.code dgr7,.inLoop dgs2,.inBlock 0]) cs) (((w.setCell ⟨ab,0,none⟩ (.bool ansb)).setCell ⟨ab,1,none⟩ (.int .i64 ansn)).setCell ⟨ab,2,none⟩ (.slice la ll lc))):
 Own Try.prog main F Stop (G (((Go.Conc.base 99).at ⟨A,[]⟩ [.inRegion (oC dgr5) [4,5],.code dgr6,.inBlock 1,.code dgr7,.inLoop dgs2,.inBlock 0]).finish (.agg #[.bool ansb,.int .i64 ansn,.slice la ll lc])) cs) w:=by
 obtain⟨hsz,h0,h1,h2,h3,h4,h8,h9,h10,h11,_⟩:=hA
 obtain⟨s,rfl⟩:=dgT_of hsz
 change s 0=_ at h0
 change s 1=_ at h1
 change s 2=_ at h2
 change s 3=_ at h3
 change s 4=_ at h4
 change s 8=_ at h8
 change s 9=_ at h9
 change s 10=_ at h10
 change s 11=_ at h11
 clear hsz
 simp only[dgT,h0,h1,h2,h3,h4,h8,h9,h10,h11]
 clear h0 h1 h2 h3 h4 h8 h9 h10 h11
 obtain⟨x0,x1,x2,c0,c1,c2⟩:=ha.c
 have z0:=ha.z 0
 have z1:=ha.z 1
 have z2:=ha.z 2
 rw[Frame.finish_at]
 simp only[dgr5,dgBody,Try.f99,zz,Nat.reduceAdd]
 walk_nrm
 (refine oW fun dd K hK=>?_;go_simp;refine hK _ _ ⟨⟨⟨0,grew3 hnh _ _ _⟩,fun e he=>by(have hm:=mem_listed he;clear he hK;simp[go_sem,storedEv,c0,c1,c2,z0,z1,z2]at hm;rcases hm with rfl|rfl|rfl<;>exact evT_write _ _ (hnh _))⟩,?_⟩;clear hK K;simp only[setCell_at'];refine Own.at ?_ dd)
 refine ogE ?_
 refine h _ ?_
 exact⟨rfl,rfl,rfl,rfl,rfl,rfl,rfl,rfl,rfl,rfl,trivial⟩
theorem dg_2b{nn:Nat}(hU:Under F nn)(htop:nn≤w.heap.size){sv x y z v:Value}{xs:List Value}(hx:x.oneCell'=true∧y.oneCell'=true∧z.oneCell'=true){ob db ib av aa ab n i k m:Nat}{oa:Option Addr}{ol oc:Nat}(hin:i<n)(hm:m<65536)
 (hs:SG F av ib aa ab n i v x y z w) (hrow:w.ownsRow 0 44 3 v m xs) (hFa:F aa=none) (hFv:∀b,Value.ownBlock v=some b→F b=none) (hne:some aa≠Value.ownBlock v∧some ab≠Value.ownBlock v∧some av≠Value.ownBlock v∧some ib≠Value.ownBlock v) (hall:∀r c e z0,w.heap[r]? =some (.cells c e z0)→r≠aa→some r≠Value.ownBlock v→0<c.size→∃z,F r=some z∧z≠(0,0)) {A:Array Value} (hA:Slots 33 A [(0,sv),(1,.pointer (some ⟨ob,0,none⟩)),(2,.pointer (some ⟨db,0,none⟩)),(3,.pointer (some ⟨ib,0,none⟩)),(4,.pointer (some ⟨av,0,none⟩)),(8,.pointer (some ⟨ab,0,none⟩)),(9,.slice oa ol oc),(10,.int .i64 ol),(11,.int .i64 k)]) {cs:List Frame} {main:Bool} {Stop:Goroutine→World→Prop} {kk:List Item}
 (h:∀(w':World) (v':Value) (A:Array Value),NotedA F aa ab i m v x y z xs w w' v'→Slots 33 A [(0,sv),(1,.pointer (some ⟨ob,0,none⟩)),(2,.pointer (some ⟨db,0,none⟩)),(3,.pointer (some ⟨ib,0,none⟩)),(4,.pointer (some ⟨av,0,none⟩)),(8,.pointer (some ⟨ab,0,none⟩)),(9,.slice oa ol oc),(10,.int .i64 ol),(11,.int .i64 k)]→Own Try.prog main F Stop (G ((Go.Conc.base 99).at ⟨A,[]⟩ kk) cs) w'):
 Own Try.prog main F Stop (G ((Go.Conc.base 99).at ⟨A,[]⟩ (.code dgr6::kk)) cs) w:=by
 obtain⟨hsz,h0,h1,h2,h3,h4,h8,h9,h10,h11,_⟩:=hA
 obtain⟨s,rfl⟩:=dgT_of hsz
 change s 0=_ at h0
 change s 1=_ at h1
 change s 2=_ at h2
 change s 3=_ at h3
 change s 4=_ at h4
 change s 8=_ at h8
 change s 9=_ at h9
 change s 10=_ at h10
 change s 11=_ at h11
 clear hsz
 simp only[dgT,h0,h1,h2,h3,h4,h8,h9,h10,h11]
 clear h0 h1 h2 h3 h4 h8 h9 h10 h11
 have hS:∀u d,SG F av ib aa ab n i v x y z u→SG F av ib aa ab n i v x y z (World.at u d):=fun u d h=>h.at d
 rw[dgr6']
 refine own_drawnM (SG F av ib aa ab n i v x y z) (last:=10) run_mixed (ll_of (by kernel_rfl)) (by decide) ?_
 simp only[dgr6,dgBody,Try.f99,zz,Nat.reduceAdd]
 have hZ:∀a u d,Own Try.prog main F Stop (G ((Go.Conc.base 99).at a (.inRegion (oC dgr6) [10]::kk)) cs) u→Own Try.prog main F Stop (G ((Go.Conc.base 99).at a (.inRegion (oC dgr6) [10]::kk)) cs) (World.at u d):=fun a u d h=>h.at d
 simp only[dgr6,dgBody,Try.f99,zz,Nat.reduceAdd]at hZ
 refine anyM_take hS hZ (i:=0) (v:=.slice (some ⟨aa,0,none⟩) n n) hs rfl rfl (by kernel_rfl) (by kernel_rfl) (by kernel_rfl) (fun u hu=>.inl ⟨rfl,fun d=>⟨by simp[go_sem,execOp,Act.eval,hu.ca,hu.za],fun e he=>by have hm:=mem_listed he;simp[go_sem,execOp,Act.eval,hu.ca,hu.za]at hm;subst hm;exact evT_read _ _⟩⟩) ?_
 walk_nrm
 refine anyM_take hS hZ (i:=1) (v:=.int .i64 i) hs rfl rfl (by kernel_rfl) (by kernel_rfl) (by kernel_rfl) (fun u hu=>.inl ⟨rfl,fun d=>⟨by simp[go_sem,execOp,Act.eval,hu.ci,hu.zi],fun e he=>by have hm:=mem_listed he;simp[go_sem,execOp,Act.eval,hu.ci,hu.zi]at hm;subst hm;exact evT_read _ _⟩⟩) ?_
 walk_nrm
 refine anyM_take hS hZ (i:=2) (v:=.slice (some ⟨aa,0,none⟩) n n) hs rfl rfl (by kernel_rfl) (by kernel_rfl) (by kernel_rfl) (fun u hu=>.inl ⟨rfl,fun d=>⟨by simp[go_sem,execOp,Act.eval,hu.ca,hu.za],fun e he=>by have hm:=mem_listed he;simp[go_sem,execOp,Act.eval,hu.ca,hu.za]at hm;subst hm;exact evT_read _ _⟩⟩) ?_
 walk_nrm
 refine anyM_take hS hZ (i:=3) (v:=.int .i64 i) hs rfl rfl (by kernel_rfl) (by kernel_rfl) (by kernel_rfl) (fun u hu=>.inl ⟨rfl,fun d=>⟨by simp[go_sem,execOp,Act.eval,hu.ci,hu.zi],fun e he=>by have hm:=mem_listed he;simp[go_sem,execOp,Act.eval,hu.ci,hu.zi]at hm;subst hm;exact evT_read _ _⟩⟩) ?_
 walk_nrm
 refine anyM_take hS hZ (i:=4) (v:=.pointer (some ⟨aa,i,none⟩)) hs rfl rfl (by kernel_rfl) (by kernel_rfl) (by kernel_rfl) (fun u hu=>.inl ⟨rfl,fun d=>⟨by simp[go_sem,execOp,Act.eval,hin],fun e he=>by have hm:=mem_listed he;simp[go_sem,execOp,Act.eval,hin]at hm⟩⟩) ?_
 walk_nrm
 refine anyM_take hS hZ (i:=5) (v:=v) hs rfl rfl (by kernel_rfl) (by kernel_rfl) (by kernel_rfl) (fun u hu=>.inl ⟨rfl,fun d=>⟨by simp[go_sem,execOp,Act.eval,hu.cl,hu.zl],fun e he=>by have hm:=mem_listed he;simp[go_sem,execOp,Act.eval,hu.cl,hu.zl]at hm;subst hm;exact evT_read _ _⟩⟩) ?_
 walk_nrm
 refine anyM_take hS hZ (i:=6) (v:=.agg #[x,y,z]) hs rfl rfl (by kernel_rfl) (by kernel_rfl) (by kernel_rfl) (fun u hu=>.inl ⟨rfl,fun d=>⟨by simp[go_sem,execOp,Act.eval,hu.c0,hu.c1,hu.c2,hu.zz],fun e he=>by have hm:=mem_listed he;simp[go_sem,execOp,Act.eval,hu.c0,hu.c1,hu.c2,hu.zz]at hm;rcases hm with rfl|rfl|rfl<;>exact evT_read _ _⟩⟩) ?_
 walk_nrm
 refine anyM_all (r:=[7]) (by kernel_rfl) (by kernel_rfl) (fun i hi hil=>?_)
 simp only[List.mem_cons,List.not_mem_nil,or_false]at hi
 subst hi
 refine opm_k rfl rfl (fun d K' hK'=>?_)
 go_simp
 refine hK' _ _ ⟨⟨⟨0,grew_alloc hU (show nn≤(w.at d).heap.size from htop) _⟩,fun e he=>by(have hm:=mem_listed he;simp[go_sem]at hm)⟩,(hs.at d).alloc hU (show nn≤(w.at d).heap.size from htop) _,?_⟩
 clear hK' K'
 rw[alloc_at']
 refine anyM_at hS hZ _ _ _ _ ?_ d
 have hn4:=cell_three_new w x y z 44
 have hb4:=heap_alloc_new w (.cells #[x,y,z] 44)
 have hW4:∀r,r<w.heap.size→(w.alloc (.cells #[x,y,z] 44)).heap[r]? =w.heap[r]?:=fun r hr=>heap_alloc_lt _ _ hr
 have hsz4:(w.alloc (.cells #[x,y,z] 44)).heap.size=w.heap.size+1:=by simp
 replace hs:=hs.alloc hU htop (.cells #[x,y,z] 44)
 generalize w.alloc (.cells #[x,y,z] 44)=W4 at*
 refine anyM_all (r:=[8]) (by kernel_rfl) (by kernel_rfl) (fun i hi hil=>?_)
 simp only[List.mem_cons,List.not_mem_nil,or_false]at hi
 subst hi
 obtain⟨i0,hi0,hz0,hz1,hz2⟩:=info44
 have hFn:∀b,nn≤b→F b=none:=fun b hb=>by
  cases e:F b with
  | none=>rfl
  | some z=>exact absurd (hU b z e) (by omega)
 have hvlt:∀b,Value.ownBlock v=some b→b<w.heap.size:=fun b hb=>(hrow.lt b hb).2
 refine opm_lift (S':=fun _=>false) (px:=false) (ready0.shut false) (by simp) rfl rfl rfl hs.wf (fun d=>?_)
 have hrowm:(mask F (W4.at d)).ownsRow 0 44 3 v m xs:=ownsRow_same2 hrow fun b hb hbn=>by
  rw[mask_at_none (hFv b hb)]
  exact hW4 b (hvlt b hb)
 obtain⟨v',u,hr,hown,hgrow,_⟩:=run_append_own (P:=Try.prog) (mask F (W4.at d)) 0 42 42 44 i0 _ 3 40 Try.underlying42 hi0 hz0 hz1 hz2 rfl (by decide) v m xs hrowm ⟨w.heap.size,0,none⟩ 1 1 [x,y,z] rfl
  (fun j u hu=>(mask_at_cell _).trans (hn4 j u hu)) (fun q hq=>by simp at hq;rcases hq with rfl|rfl|rfl;exact hx.1;exact hx.2.1;exact hx.2.2) (by unfold maxLen;omega) (by omega) (Nat.zero_le _)
 refine⟨v',u,run_append_op (.tmp 27) (.tmp 29) 42 rfl rfl rfl hr,fun w' hu hg hwf'=>?_⟩
 subst hu
 obtain⟨jj,hgr⟩:=hg
 have hkeep:∀r,r<w.heap.size+1→some r≠Value.ownBlock v→w'.heap[r]? =W4.heap[r]?:=fun r h2 h3=>by
  have:=hgrow.block r (by rw[mask_size];show r<W4.heap.size;omega) h3
  have hlt:r<(W4.at d).heap.size:=show r<W4.heap.size by omega
  exact mask_same (w:=W4.at d) hgr this hlt
 have hsize:w.heap.size+1≤w'.heap.size:=by
  have:=hgrow.size
  rw[mask_size,mask_size]at this
  have h2:(W4.at d).heap.size=w.heap.size+1:=hsz4
  omega
 have hlav:=hs.la0.lt
 have hlib:=hs.li0.lt
 simp only at hlav hlib
 obtain⟨ca,har1,har2⟩:=hs.arr
 have hlaa:=(alt har1)
 have hlab:=(Array.getElem?_eq_some_iff.1 hs.an).1
 have hs':SG F av ib aa ab n i v x y z w':=⟨hwf',hs.la0.same (hkeep av (by omega) hne.2.2.1),hs.li0.same (hkeep ib (by omega) hne.2.2.2),⟨ca,(hkeep aa (by omega) hne.1).trans har1,har2⟩,(hkeep ab (by omega) hne.2.1).trans hs.an⟩
 obtain⟨b1,cap1,cur1,rfl,hb1,hb2⟩:=slice_form2 hown
 have hcur:0<cur1.size:=by
  rcases hown.2 with⟨_,h0⟩|⟨g3,cap3,cur3,h0,_,h3,h4,_,h5,_⟩
  ·omega
  ·cases h0
   rw[hb2]at h3
   cases h3
   omega
 have hb3:F b1=none∧w'.heap[b1]? =some (.cells cur1 44 (0,0))∧(some b1=Value.ownBlock v∨w.heap.size≤b1):=by
  by_cases hlt:b1<w.heap.size
  ·by_cases hv:some b1=Value.ownBlock v
   ·have hf:=hFv b1 hv.symm
    exact⟨hf,by rw[mask_at_none hf]at hb2;exact hb2,.inl hv⟩
   ·exfalso
    have hk:=(hkeep b1 (by omega) hv).trans (hW4 b1 hlt)
    rw[mask_get]at hb2
    obtain⟨o,ho⟩:∃o,w.heap[b1]? =some o:=⟨_,Array.getElem?_eq_getElem hlt⟩
    rw[hk,ho]at hb2
    cases o with
    | cells c e z0=>
      simp only[Option.map_some,maskObj,Option.some.injEq,Obj.cells.injEq]at hb2
      obtain⟨rfl,rfl,hz⟩:=hb2
      by_cases ha:b1=aa
      ·subst ha
       have h1:=(hW4 b1 hlt).symm.trans har1
       rw[ho]at h1
       simp only[Option.some.injEq,Obj.cells.injEq]at h1
       exact absurd h1.2.1 (by decide)
      ·obtain⟨z,hz1,hz2⟩:=hall b1 _ _ _ ho ha hv hcur
       rw[hz1]at hz
       exact hz2 hz
    | _=>simp[maskObj]at hb2
  ·have hf:=hFn b1 (by omega)
   exact⟨hf,by rw[mask_at_none hf]at hb2;exact hb2,.inr (by omega)⟩
 obtain⟨hfb,hb3,hb4⟩:=hb3
 have hrow':w'.ownsRow 0 44 3 (.slice (some ⟨b1,0,none⟩) (m+1) cap1) (m+1) (xs++[x,y,z]):=ownsRow_same2 hown fun b hb hbn=>by
  simp only[Value.ownBlock,Option.some.injEq]at hb
  subst hb
  exact(mask_at_none hfb).symm
 have nb1:b1≠aa:=by
  rintro rfl
  have h1:=(hkeep b1 (by omega) hne.1).trans har1
  rw[hb3]at h1
  simp only[Option.some.injEq,Obj.cells.injEq]at h1
  exact absurd h1.2.1 (by decide)
 refine⟨hs',?_⟩
 clear hs
 have hs:=hs'
 walk_nrm
 refine anyM_take hS hZ (i:=9) (v:=.pointer (some ⟨aa,i,none⟩)) hs rfl rfl (by kernel_rfl) (by kernel_rfl) (by kernel_rfl) (fun u hu=>.inl ⟨rfl,fun d=>⟨by simp[go_sem,execOp,Act.eval,hin],fun e he=>by have hm:=mem_listed he;simp[go_sem,execOp,Act.eval,hin]at hm⟩⟩) ?_
 walk_nrm
 refine anyM_end (by kernel_rfl) ?_ _
 have cl:=hs'.cl
 have zl:=hs'.zl
 have hnh:¬held F ⟨aa,i,none⟩:=not_held' hFa
 clear hZ hS hr hown hgrow hrowm hall
 (refine oW fun dd K hK=>?_;go_simp;refine hK _ _ ⟨⟨⟨0,grew_setCell rfl hnh _⟩,fun e he=>by(have hm:=mem_listed he;clear he hK;simp[go_sem,storedEv,cl,zl]at hm;subst hm;exact evT_write _ _ hnh)⟩,?_⟩;clear hK K;rw[setCell_at'];refine Own.at ?_ dd)
 refine ogE ?_
 refine h _ (.slice (some ⟨b1,0,none⟩) (m+1) cap1) _ ?_ ⟨rfl,rfl,rfl,rfl,rfl,rfl,rfl,rfl,rfl,rfl,trivial⟩
 refine⟨hwf'.of_grew (grew_setCell rfl hnh _),ownsRow_same2 hrow' fun b hb _=>heap_setCell_ne _ _ _ (by simp only[Value.ownBlock,Option.some.injEq]at hb;subst hb;exact nb1),fun c hc=>?_,by simp;omega,fun b hb=>by simp only[Value.ownBlock,Option.some.injEq]at hb;subst hb;exact hb4,fun r h1 h2 h3=>?_⟩
 ·have h1:=(hkeep aa (by omega) hne.1).trans (hW4 aa (alt hc))
  rw[hc]at h1
  simp[World.setCell,Array.getElem?_modify,h1]
 ·rw[heap_setCell_ne _ _ _ h2,hkeep r (by omega) h3,hW4 r h1]
theorem dg_2c{sv:Value}{ob db ib av ab k:Nat}{oa:Option Addr}{ol oc:Nat}(hk:k<10000000){A:Array Value}(hA:Slots 33 A [(0,sv),(1,.pointer (some ⟨ob,0,none⟩)),(2,.pointer (some ⟨db,0,none⟩)),(3,.pointer (some ⟨ib,0,none⟩)),(4,.pointer (some ⟨av,0,none⟩)),(8,.pointer (some ⟨ab,0,none⟩)),(9,.slice oa ol oc),(10,.int .i64 ol),(11,.int .i64 k)]){cs:List Frame}{main:Bool}{Stop:Goroutine→World→Prop}
 (h:∀A,Slots 33 A [(0,sv),(1,.pointer (some ⟨ob,0,none⟩)),(2,.pointer (some ⟨db,0,none⟩)),(3,.pointer (some ⟨ib,0,none⟩)),(4,.pointer (some ⟨av,0,none⟩)),(9,.slice oa ol oc),(10,.int .i64 ol),(11,.int .i64 (k+1:Nat))]→Own Try.prog main F Stop (G ((Go.Conc.base 99).at ⟨A,[]⟩ [.code dgs2,.inLoop dgs2,.inBlock 0]) cs) w):
 Own Try.prog main F Stop (G ((Go.Conc.base 99).at ⟨A,[]⟩ [.inBlock 1,.code dgr7,.inLoop dgs2,.inBlock 0]) cs) w:=by
 obtain⟨hsz,h0,h1,h2,h3,h4,h8,h9,h10,h11,_⟩:=hA
 obtain⟨s,rfl⟩:=dgT_of hsz
 change s 0=_ at h0
 change s 1=_ at h1
 change s 2=_ at h2
 change s 3=_ at h3
 change s 4=_ at h4
 change s 8=_ at h8
 change s 9=_ at h9
 change s 10=_ at h10
 change s 11=_ at h11
 clear hsz
 simp only[dgT,h0,h1,h2,h3,h4,h8,h9,h10,h11]
 clear h0 h1 h2 h3 h4 h8 h9 h10 h11
 have hk64:IntKind.i64.wrap ((k:Int)+1)=(k:Int)+1:=IntWalk.i64_in _ (by omega)
 refine ogI ?_
 rw[dgr7']
 refine ogR ?_
 simp only[dgr7,dgBody,Try.f99,zz,Nat.reduceAdd]
 iterate 2 (refine oW fun dd K hK=>?_;go_simp;refine qT hK ?_;clear hK K)
 refine ogE ?_
 refine ogL ?_
 refine h _ ?_
 exact⟨rfl,rfl,rfl,rfl,rfl,rfl,rfl,rfl,rfl,trivial⟩
end
noncomputable section
variable{F:Fz}{w w':World}
open Classical in
def FU(F:Fz)(mine:Nat→Prop)(w:World):Fz:=fun r=>if mine r then none else match w.heap[r]? with
 | some (.cells c _ z)=>some (0,max (max c.size z.2) ((F r).getD (0,0)).2)
 | _=>none
section
variable{mine:Nat→Prop}
theorem fu_mine{r:Nat}(h:mine r):FU F mine w r=none:=if_pos h
theorem fu_cells{r:Nat}{c:Array Value}{e:TypeId}{z:Nat×Nat}(h:¬mine r)(ho:w.heap[r]? =some (.cells c e z)):FU F mine w r=some (0,max (max c.size z.2) ((F r).getD (0,0)).2):=by
 unfold FU
 rw[if_neg h,ho]
theorem fu_some{r:Nat}{z:Nat×Nat}(h:FU F mine w r=some z):¬mine r∧∃c e z0,w.heap[r]? =some (.cells c e z0)∧z=(0,max (max c.size z0.2) ((F r).getD (0,0)).2):=by
 unfold FU at h
 split at h
 ·cases h
 ·rename_i hm
  split at h
  ·rename_i c e z0 ho
   cases h
   exact⟨hm,c,e,z0,ho,rfl⟩
  ·cases h
theorem fu_wf:Wf (FU F mine w) w:=by
 constructor
 intro r z h
 obtain⟨_,c,e,z0,ho,rfl⟩:=fu_some h
 exact⟨c,e,z0,ho,fun k h1 h2=>by simp only;omega⟩
theorem fu_under:Under (FU F mine w) w.heap.size:=by
 intro r z h
 obtain⟨_,c,e,z0,ho,_⟩:=fu_some h
 exact(alt ho)
theorem fu_held(hw:Wf F w)(hm:∀r,mine r→F r=none){a:Addr}(h:held F a):held (FU F mine w) a:=by
 obtain⟨z,hz,h1,h2⟩:=h
 obtain⟨c,e,z0,ho,_⟩:=hw.own _ _ hz
 have hn:¬mine a.block:=fun h=>by rw[hm _ h]at hz;cases hz
 refine⟨_,fu_cells hn ho,Nat.zero_le _,?_⟩
 rw[hz]
 simp only[Option.getD_some]
 omega
theorem fu_same(hg:Gd (FU F mine w) w w'){r:Nat}(hm:¬mine r)(hr:r<w.heap.size):w'.heap[r]? =w.heap[r]?:=by
 obtain⟨o,ho⟩:∃o,w.heap[r]? =some o:=⟨_,Array.getElem?_eq_getElem hr⟩
 rcases hg.objs r _ ho with⟨c1,e2,z1,c',h1,h2,h3⟩|h2
 ·subst h1
  have:c'=c1:=by
   apply Array.ext h3
   intro j hj1 hj2
   have hh:held (FU F mine w) ⟨r,j,none⟩:=⟨_,fu_cells hm ho,Nat.zero_le _,by simp only;omega⟩
   have:=hg.keep _ hh
   simp only[World.cell?,h2]at this
   have e3:(w.at w'.drawn).heap[r]? =some (.cells c1 e2 z1):=ho
   rw[e3]at this
   simpa [hj1,hj2]using this
  subst this
  rw[h2,ho]
 ·rw[h2,ho]
end
structure AnsV where
 ok:Bool
 n:Int
 la:Option Addr
 ll:Nat
 lc:Nat
def AnsV.v(a:AnsV):Value:=.agg #[.bool a.ok,.int .i64 a.n,.slice a.la a.ll a.lc]
def AnsV.cells(a:AnsV):List Value:=[.bool a.ok,.int .i64 a.n,.slice a.la a.ll a.lc]
structure Lay where
 S:Type
 C:Type
 A:Type
 SU:S→World→Prop
 SR:S→Nat→Prop
 CU:C→World→Prop
 CR:C→Nat→Prop
 AV:A→AnsV
 AU:A→World→Prop
 AR:A→Nat→Prop
 cf:Nat→C→List Frame
 df:FuncId
 first:Array Value
 capt:Array Value
 beg:S→Nat→Op4→S×(C ⊕ A)→Prop
 stp:S→C→S×(C ⊕ A)→Prop
 J:Nat→S→C→Prop
def stepperV(st:Nat):Value:=.iface 173 (.pointer (some ⟨st,0,none⟩))
def Lay.Out(L:Lay)(st:Nat)(s:L.S)(R0:Nat→Prop)(Rel:L.S×(L.C ⊕ L.A)→Prop)(w:World)(cs:List Frame)(a:Goroutine)(w':World):Prop:=
 ∃s' r,Rel (s',r)∧L.SU s' w'∧(∀q,L.SR s' q→L.SR s q∨R0 q∨w.heap.size≤q)∧
  match r with
  | .inl c=>L.J st s' c∧L.CU c w'∧(∀q,L.CR c q→R0 q∨w.heap.size≤q)∧(∀q,L.CR c q→¬L.SR s' q)∧a=G (Frame.enter Try.prog 133 #[.pointer (some ⟨st,0,none⟩)] .normal) (L.cf st c++cs)
  | .inr an=>L.AU an w'∧(∀q,L.AR an q→R0 q∨w.heap.size≤q)∧(∀q,L.AR an q→¬L.SR s' q)∧a=back (L.AV an).v cs
structure Lay.Ok(L:Lay):Prop where
 call:Callable L.df
 jb:∀st s s' c i o r,L.J st s c→L.beg s i o (s',r)→L.J st s' c
 js:∀st s s' c c1 r,L.J st s c→L.stp s c1 (s',r)→L.J st s' c
 plain:∀st c,L.cf st c≠[]∧∀u∈L.cf st c,Plain u
 sS:∀s w w',L.SU s w→w.heap.size≤w'.heap.size→(∀r,L.SR s r→w'.heap[r]? =w.heap[r]?)→L.SU s w'
 sC:∀c w w',L.CU c w→w.heap.size≤w'.heap.size→(∀r,L.CR c r→w'.heap[r]? =w.heap[r]?)→L.CU c w'
 sA:∀a w w',L.AU a w→w.heap.size≤w'.heap.size→(∀r,L.AR a r→w'.heap[r]? =w.heap[r]?)→L.AU a w'
 lS:∀s w r,L.SU s w→L.SR s r→r<w.heap.size
 lC:∀c w r,L.CU c w→L.CR c r→r<w.heap.size
 lA:∀a w r,L.AU a w→L.AR a r→r<w.heap.size
 beg:∀s i o st (F:Fz) (w:World) (c:Frame) (cs:List Frame),L.SU s w→Wf F w→(∀r,L.SR s r→F r=none)→
  Own Try.prog false F (L.Out st s (fun _=>False) (L.beg s i o) w (c::cs)) (G (Frame.enter Try.prog L.df (L.first++ #[stepperV st,.int .i64 i,o.v]++L.capt) .normal) (c::cs)) w
 stp:∀s c st (F:Fz) (w:World) (b:Frame) (cs:List Frame),L.J st s c→L.SU s w→L.CU c w→(∀q,L.CR c q→¬L.SR s q)→Wf F w→(∀r,L.SR s r∨L.CR c r→F r=none)→
  Own Try.prog false F (L.Out st s (L.CR c) (L.stp s c) w (b::cs)) (back (.tuple #[]) (L.cf st c++b::cs)) w
structure Thr(L:Lay)where
 k:Nat
 call:Option (L.C×Array Value×Nat)
 ans:List L.A
 row:Value
structure OX(L:Lay)where
 s:L.S
 th:Nat→Thr L
structure Par where
 n:Nat
 aa:Nat
 av:Nat
 db:Nat
 ib:Nat→Nat
 ob:Nat→Nat
 ops:Nat→List Op4
 oa:Nat→Option Addr
 oc:Nat→Nat
 I:Nat→Option Obj
def Fixed(I:Nat→Option Obj)(w:World):Prop:=∀r o,I r=some o→w.heap[r]? =some o
structure Par.Ok(p:Par)(L:Lay):Prop where
 cells:∀r o,p.I r=some o→∃c e z,o= .cells c e z
 len:∀i,i<p.n→(p.ops i).length≤65536
 inI:p.I p.av≠none∧∀i,i<p.n→p.I (p.ib i)≠none
 av:∀w,Fixed p.I w→Lies w ⟨p.av,0,none⟩ (.slice (some ⟨p.aa,0,none⟩) p.n p.n)
 db:∀w,Fixed p.I w→Lies w ⟨p.db,0,none⟩ (.func (.func L.df) L.first L.capt)
 ib:∀w,Fixed p.I w→∀i,i<p.n→Lies w ⟨p.ib i,0,none⟩ (.int .i64 i)
 ob:∀w,Fixed p.I w→∀i,i<p.n→Lies w ⟨p.ob i,0,none⟩ (.slice (p.oa i) (p.ops i).length (p.oc i))
 op:∀w,Fixed p.I w→∀i,i<p.n→∀k o,(p.ops i)[k]? =some o→∃opb oo,p.oa i=some ⟨opb,oo,none⟩∧
  w.cell? ⟨opb,oo+k*4,none⟩=some (.int .i64 o.kd)∧w.cell? ⟨opb,oo+k*4+1,none⟩=some (.int .i64 o.a)∧w.cell? ⟨opb,oo+k*4+2,none⟩=some (.int .i64 o.b)∧w.cell? ⟨opb,oo+k*4+3,none⟩=some (.int .i64 o.c)∧
  w.frozen? ⟨opb,oo+k*4,none⟩=false∧w.frozen? ⟨opb,oo+k*4+1,none⟩=false∧w.frozen? ⟨opb,oo+k*4+2,none⟩=false∧w.frozen? ⟨opb,oo+k*4+3,none⟩=false
variable{L:Lay}{p:Par}{g:Gate}
def TR(t:Thr L)(r:Nat):Prop:=Value.ownBlock t.row=some r∨(∃a∈t.ans,L.AR a r)∨∃c A ab,t.call=some (c,A,ab)∧(r=ab∨L.CR c r)
def dgS(p:Par)(st i k:Nat):List (Nat×Value):=[(0,stepperV st),(1,.pointer (some ⟨p.ob i,0,none⟩)),(2,.pointer (some ⟨p.db,0,none⟩)),(3,.pointer (some ⟨p.ib i,0,none⟩)),(4,.pointer (some ⟨p.av,0,none⟩)),(9,.slice (p.oa i) (p.ops i).length (p.oc i)),(10,.int .i64 (p.ops i).length),(11,.int .i64 k)]
def dgS8(p:Par)(st i k ab:Nat):List (Nat×Value):=[(0,stepperV st),(1,.pointer (some ⟨p.ob i,0,none⟩)),(2,.pointer (some ⟨p.db,0,none⟩)),(3,.pointer (some ⟨p.ib i,0,none⟩)),(4,.pointer (some ⟨p.av,0,none⟩)),(8,.pointer (some ⟨ab,0,none⟩)),(9,.slice (p.oa i) (p.ops i).length (p.oc i)),(10,.int .i64 (p.ops i).length),(11,.int .i64 k)]
structure ThrU(L:Lay)(p:Par)(st i:Nat)(t:Thr L)(w:World):Prop where
 row:w.ownsRow 0 44 3 t.row t.ans.length ((t.ans.map fun a=>(L.AV a).cells).flatten)
 au:∀a∈t.ans,L.AU a w
 al:t.ans.length=t.k
 kl:t.k≤(p.ops i).length
 ar:∀a∈t.ans,∀r,L.AR a r→some r≠Value.ownBlock t.row
 call:∀c A ab,t.call=some (c,A,ab)→Slots 33 A (dgS8 p st i t.k ab)∧Ans w ab∧L.CU c w∧¬L.CR c ab∧some ab≠Value.ownBlock t.row∧(∀r,L.CR c r→some r≠Value.ownBlock t.row)∧(∀a∈t.ans,∀r,L.AR a r→r≠ab∧¬L.CR c r)∧t.k<(p.ops i).length
structure OU(L:Lay)(p:Par)(g:Gate)(x:OX L)(w:World):Prop where
 fix:Fixed p.I w
 su:L.SU x.s w
 arr:∃c,w.heap[p.aa]? =some (.cells c 42 (0,0))∧c.size=p.n∧∀i,i<p.n→c[i]? =some (x.th i).row
 thr:∀i,i<p.n→ThrU L p (g.st i) i (x.th i) w
 ts:∀i,i<p.n→∀r,TR (x.th i) r→¬L.SR x.s r∧r≠p.aa
 sa:¬L.SR x.s p.aa
 jj:∀i,i<p.n→∀c A ab,(x.th i).call=some (c,A,ab)→L.J (g.st i) x.s c
 tt:∀i j,i<p.n→j<p.n→i≠j→∀r,TR (x.th i) r→¬TR (x.th j) r
 inone:∀r,(L.SR x.s r∨r=p.aa∨∃i,i<p.n∧TR (x.th i) r)→p.I r=none
def OR(L:Lay)(p:Par)(x:OX L)(r:Nat):Prop:=L.SR x.s r∨r=p.aa∨∃i,i<p.n∧TR (x.th i) r
def dgFr(A:Array Value):Frame:=(Go.Conc.base 99).at ⟨A,[]⟩ [.inRegion (oC dgr5) [4,5],.code dgr6,.inBlock 1,.code dgr7,.inLoop dgs2,.inBlock 0]
inductive Adv(L:Lay)(p:Par)(i:Nat):L.S×Thr L→L.S×Thr L→Prop
 | done {s:L.S} {t:Thr L}:t.call=none→t.k=(p.ops i).length→Adv L p i (s,t) (s,t)
 | live {s s':L.S} {t:Thr L} {o:Op4} {c:L.C} {A:Array Value} {ab:Nat}:(p.ops i)[t.k]? =some o→L.beg s i o (s',.inl c)→Adv L p i (s,t) (s',{t with call:=some (c,A,ab)})
 | imm {s s':L.S} {t:Thr L} {o:Op4} {an:L.A} {row:Value} {y:L.S×Thr L}:(p.ops i)[t.k]? =some o→L.beg s i o (s',.inr an)→Adv L p i (s',⟨t.k+1,none,t.ans++[an],row⟩) y→Adv L p i (s,t) y
inductive Stp(L:Lay)(p:Par)(i:Nat):L.S×Thr L→L.S×Thr L→Prop
 | live {s s':L.S} {t:Thr L} {c c':L.C} {A:Array Value} {ab:Nat}:t.call=some (c,A,ab)→L.stp s c (s',.inl c')→Stp L p i (s,t) (s',{t with call:=some (c',A,ab)})
 | ans {s s':L.S} {t:Thr L} {c:L.C} {A:Array Value} {ab:Nat} {an:L.A} {row:Value} {y:L.S×Thr L}:t.call=some (c,A,ab)→L.stp s c (s',.inr an)→Adv L p i (s',⟨t.k+1,none,t.ans++[an],row⟩) y→Stp L p i (s,t) y
def opsUsers(L:Lay)(p:Par)(g:Gate):Users where
 X:=OX L
 U:=OU L p g
 R:=OR L p
 I:=p.I
 fr:=fun x i=>match(x.th i).call with
  | some (c,A,_)=>L.cf (g.st i) c++[dgFr A]
  | none=>[]
 liv:=fun x i=>(x.th i).call.isSome
 stp:=fun x i y=>Stp L p i (x.s,x.th i) (y.s,y.th i)∧∀j,j≠i→y.th j=x.th j
 bor:=fun x i y=>Adv L p i (x.s,x.th i) (y.s,y.th i)∧∀j,j≠i→y.th j=x.th j
 nw:=fun x i=>(x.th i).call=none∧(x.th i).k=0
 fid:=99
 cap:=fun i=> #[.pointer (some ⟨p.ob i,0,none⟩),.pointer (some ⟨p.db,0,none⟩),.pointer (some ⟨p.ib i,0,none⟩),.pointer (some ⟨p.av,0,none⟩)]
end
section
variable{F:Fz}{w w':World}{L:Lay}{p:Par}{g:Gate}{x y:OX L}{i:Nat}
def upd(x:OX L)(i:Nat)(s:L.S)(t:Thr L):OX L:=⟨s,fun j=>if j=i then t else x.th j⟩
theorem upd_self{s:L.S}{t:Thr L}:(upd x i s t).th i=t:=if_pos rfl
theorem upd_ne{s:L.S}{t:Thr L}{j:Nat}(h:j≠i):(upd x i s t).th j=x.th j:=if_neg h
def NF(L:Lay)(p:Par)(x:OX L)(r:Nat):Prop:=¬OR L p x r∧p.I r=none
theorem fixed_lt(h:Fixed p.I w){r:Nat}(hr:p.I r≠none):r<w.heap.size:=by
 cases e:p.I r with
 | none=>exact absurd e hr
 | some o=>exact(Array.getElem?_eq_some_iff.1 (h r o e)).1
theorem fixed_stable(h:Fixed p.I w)(hs:∀r,p.I r≠none→w'.heap[r]? =w.heap[r]?):Fixed p.I w':=by
 intro r o e
 rw[hs r (by rw[e];simp)]
 exact h r o e
theorem ans_same{ab:Nat}(h:Ans w ab)(hs:w'.heap[ab]? =w.heap[ab]?):Ans w' ab:=by
 obtain⟨x,y,z,h⟩:=h.o
 exact⟨⟨x,y,z,hs.trans h⟩⟩
theorem ThrU.low{st:Nat}{t:Thr L}(hL:L.Ok)(h:ThrU L p st i t w){r:Nat}(hr:TR t r):r<w.heap.size:=by
 rcases hr with h1|⟨a,ha,h1⟩|⟨c,A,ab,h1,h2⟩
 ·rcases h.row.2 with h2|⟨b,cap,cur,h2,h3,h4,_⟩
  ·rw[h2.1]at h1;simp[Value.ownBlock]at h1
  ·rw[h2]at h1
   simp only[Value.ownBlock,Option.some.injEq]at h1
   subst h1
   exact(alt h4)
 ·exact hL.lA a w r (h.au a ha) h1
 ·obtain⟨_,h3,h4,_⟩:=h.call c A ab h1
  rcases h2 with rfl|h2
  ·obtain⟨_,_,_,h5⟩:=h3.o
   exact(alt h5)
  ·exact hL.lC c w r h4 h2
theorem ThrU.stable{st:Nat}{t:Thr L}(hL:L.Ok)(h:ThrU L p st i t w)(hsz:w.heap.size≤w'.heap.size)(hs:∀r,TR t r→w'.heap[r]? =w.heap[r]?):ThrU L p st i t w':=by
 refine⟨ownsRow_same2 h.row fun b hb _=>hs b (.inl hb),fun a ha=>hL.sA a w w' (h.au a ha) hsz fun r hr=>hs r (.inr (.inl ⟨a,ha,hr⟩)),h.al,h.kl,h.ar,?_⟩
 intro c A ab hc
 obtain⟨h1,h2,h3,h4⟩:=h.call c A ab hc
 exact⟨h1,ans_same h2 (hs _ (.inr (.inr ⟨c,A,ab,hc,.inl rfl⟩))),hL.sC c w w' h3 hsz fun r hr=>hs r (.inr (.inr ⟨c,A,ab,hc,.inr hr⟩)),h4⟩
theorem OU.aalt(h:OU L p g x w):p.aa<w.heap.size:=by
 obtain⟨c,h1,_⟩:=h.arr
 exact(alt h1)
theorem OU.low(hL:L.Ok)(h:OU L p g x w){r:Nat}(hr:OR L p x r):r<w.heap.size:=by
 rcases hr with h1|rfl|⟨i,hi,h1⟩
 ·exact hL.lS _ _ _ h.su h1
 ·exact h.aalt
 ·exact(h.thr i hi).low hL h1
theorem OU.stable(hL:L.Ok)(h:OU L p g x w)(hsz:w.heap.size≤w'.heap.size)(hs:∀r,OR L p x r∨p.I r≠none→w'.heap[r]? =w.heap[r]?):OU L p g x w':=by
 refine⟨fixed_stable h.fix fun r hr=>hs r (.inr hr),hL.sS _ w w' h.su hsz fun r hr=>hs r (.inl (.inl hr)),?_,fun i hi=>(h.thr i hi).stable hL hsz fun r hr=>hs r (.inl (.inr (.inr ⟨i,hi,hr⟩))),h.ts,h.sa,h.jj,h.tt,h.inone⟩
 obtain⟨c,h1,h2⟩:=h.arr
 exact⟨c,(hs _ (.inl (.inr (.inl rfl)))).trans h1,h2⟩
theorem OU.inone'(h:OU L p g x w){r:Nat}(hr:OR L p x r∨w.heap.size≤r):p.I r=none:=by
 rcases hr with h1|h1
 ·exact h.inone r h1
 ·cases e:p.I r with
  | none=>rfl
  | some o=>exact absurd (fixed_lt (r:=r) h.fix (by rw[e];simp)) (by omega)
def MineC(L:Lay)(x:OX L)(i:Nat)(r:Nat):Prop:=L.SR x.s r∨∃c A ab,(x.th i).call=some (c,A,ab)∧L.CR c r
theorem mine_or(hi:i<p.n){r:Nat}(h:MineC L x i r):OR L p x r:=by
 rcases h with h|⟨c,A,ab,h1,h2⟩
 ·exact .inl h
 ·exact .inr (.inr ⟨i,hi,.inr (.inr ⟨c,A,ab,h1,.inr h2⟩)⟩)
theorem OU.other(h:OU L p g x w)(hi:i<p.n){j r:Nat}(hj:j<p.n)(hne:j≠i)(hr:TR (x.th j) r):¬MineC L x i r:=by
 rintro(h1|⟨c,A,ab,h1,h2⟩)
 ·exact(h.ts j hj r hr).1 h1
 ·exact h.tt j i hj hi hne r hr (.inr (.inr ⟨c,A,ab,h1,.inr h2⟩))
theorem OU.aaM(h:OU L p g x w)(hi:i<p.n):¬MineC L x i p.aa:=by
 rintro(h1|⟨c,A,ab,h1,h2⟩)
 ·exact h.sa h1
 ·exact(h.ts i hi _ (.inr (.inr ⟨c,A,ab,h1,.inr h2⟩))).2 rfl
theorem OU.rowM(h:OU L p g x w)(hi:i<p.n){r:Nat}(hr:Value.ownBlock (x.th i).row=some r):¬MineC L x i r:=by
 rintro(h1|⟨c,A,ab,h1,h2⟩)
 ·exact(h.ts i hi r (.inl hr)).1 h1
 ·exact((h.thr i hi).call c A ab h1).2.2.2.2.2.1 r h2 hr.symm
theorem OU.ansM(h:OU L p g x w)(hi:i<p.n){a:L.A}{r:Nat}(ha:a∈(x.th i).ans)(hr:L.AR a r):¬MineC L x i r:=by
 rintro(h1|⟨c,A,ab,h1,h2⟩)
 ·exact(h.ts i hi r (.inr (.inl ⟨a,ha,hr⟩))).1 h1
 ·exact(((h.thr i hi).call c A ab h1).2.2.2.2.2.2.1 a ha r hr).2 h2
theorem OU.abM(h:OU L p g x w)(hi:i<p.n){c:L.C}{A:Array Value}{ab:Nat}(hc:(x.th i).call=some (c,A,ab)):¬MineC L x i ab:=by
 rintro(h1|⟨c1,A1,ab1,h1,h2⟩)
 ·exact(h.ts i hi ab (.inr (.inr ⟨c,A,ab,hc,.inl rfl⟩))).1 h1
 ·rw[hc]at h1
  cases h1
  exact((h.thr i hi).call c A ab hc).2.2.2.1 h2
theorem ou_next(hL:L.Ok)(h:OU L p g x w)(hi:i<p.n)(hsz:w.heap.size≤w'.heap.size)(hsame:∀r,r<w.heap.size→¬MineC L x i r→w'.heap[r]? =w.heap[r]?){s':L.S}(hs:L.SU s' w')(hsr:∀q,L.SR s' q→MineC L x i q∨w.heap.size≤q){call':Option (L.C×Array Value×Nat)}
 (hJ:∀st c,L.J st x.s c→L.J st s' c)
 (hcall:∀c A ab,call'=some (c,A,ab)→L.J (g.st i) s' c∧Slots 33 A (dgS8 p (g.st i) i (x.th i).k ab)∧L.CU c w'∧(∀q,L.CR c q→MineC L x i q∨w.heap.size≤q)∧(∀q,L.CR c q→¬L.SR s' q)∧(x.th i).k<(p.ops i).length∧((∃c0 A0,(x.th i).call=some (c0,A0,ab))∨(Ans w ab∧NF L p x ab))):
 OU L p g (upd x i s' {x.th i with call:=call'}) w'∧∀r,OR L p (upd x i s' {x.th i with call:=call'}) r→OR L p x r∨w.heap.size≤r∨∃c A,call'=some (c,A,r):=by
 have hab:∀c A ab,call'=some (c,A,ab)→¬MineC L x i ab∧Ans w ab∧ab<w.heap.size∧some ab≠Value.ownBlock (x.th i).row∧(∀a∈(x.th i).ans,∀r,L.AR a r→r≠ab)∧ab≠p.aa∧(∀j,j<p.n→j≠i→¬TR (x.th j) ab)∧p.I ab=none:=by
  intro c A ab hc
  obtain⟨_,_,_,_,_,_,h6⟩:=hcall c A ab hc
  rcases h6 with⟨c0,A0,h6⟩|⟨h6,h7⟩
  ·obtain⟨_,k2,_,k4,k5,_,k7,_⟩:=(h.thr i hi).call c0 A0 ab h6
   have hT:TR (x.th i) ab:=.inr (.inr ⟨c0,A0,ab,h6,.inl rfl⟩)
   exact⟨h.abM hi h6,k2,(h.thr i hi).low hL hT,k5,fun a ha r hr=>(k7 a ha r hr).1,(h.ts i hi ab hT).2,fun j hj hne hh=>h.tt j i hj hi hne ab hh hT,h.inone ab (.inr (.inr ⟨i,hi,hT⟩))⟩
  ·refine⟨fun hm=>h7.1 (mine_or hi hm),h6,?_,?_,?_,?_,?_,h7.2⟩
   ·obtain⟨_,_,_,h8⟩:=h6.o
    exact(alt h8)
   ·intro e
    exact h7.1 (.inr (.inr ⟨i,hi,.inl e.symm⟩))
   ·rintro a ha r hr rfl
    exact h7.1 (.inr (.inr ⟨i,hi,.inr (.inl ⟨a,ha,hr⟩)⟩))
   ·rintro rfl
    exact h7.1 (.inr (.inl rfl))
   ·intro j hj _ hh
    exact h7.1 (.inr (.inr ⟨j,hj,hh⟩))
 have hT:∀r,TR {x.th i with call:=call'} r→(TR (x.th i) r∧¬MineC L x i r)∨(∃c A,call'=some (c,A,r))∨∃c A ab,call'=some (c,A,ab)∧L.CR c r:=by
  rintro r (h1|⟨a,ha,h1⟩|⟨c,A,ab,h1,h2⟩)
  ·exact .inl ⟨.inl h1,h.rowM hi h1⟩
  ·exact .inl ⟨.inr (.inl ⟨a,ha,h1⟩),h.ansM hi ha h1⟩
  ·rcases h2 with rfl|h2
   ·exact .inr (.inl ⟨c,A,h1⟩)
   ·exact .inr (.inr ⟨c,A,ab,h1,h2⟩)
 have hO:∀r,OR L p (upd x i s' {x.th i with call:=call'}) r→OR L p x r∨w.heap.size≤r∨∃c A,call'=some (c,A,r):=by
  rintro r (h1|rfl|⟨j,hj,h1⟩)
  ·rcases hsr r h1 with h2|h2
   ·exact .inl (mine_or hi h2)
   ·exact .inr (.inl h2)
  ·exact .inl (.inr (.inl rfl))
  ·by_cases e:j=i
   ·subst e
    rw[upd_self]at h1
    rcases hT r h1 with h2|h2|⟨c,A,ab,h2,h3⟩
    ·exact .inl (.inr (.inr ⟨j,hj,h2.1⟩))
    ·exact .inr (.inr h2)
    ·rcases(hcall c A ab h2).2.2.2.1 r h3 with h4|h4
     ·exact .inl (mine_or hj h4)
     ·exact .inr (.inl h4)
   ·rw[upd_ne e]at h1
    exact .inl (.inr (.inr ⟨j,hj,h1⟩))
 have hAA:¬L.SR s' p.aa:=by
  intro h1
  rcases hsr _ h1 with h2|h2
  ·exact h.aaM hi h2
  ·have:=h.aalt;omega
 have hX:∀r,TR {x.th i with call:=call'} r→∀j,j<p.n→j≠i→¬TR (x.th j) r:=by
  intro r hr j hj hne hh
  rcases hT r hr with h2|⟨c,A,h2⟩|⟨c,A,ab,h2,h3⟩
  ·exact h.tt j i hj hi hne r hh h2.1
  ·exact(hab c A r h2).2.2.2.2.2.2.1 j hj hne hh
  ·rcases(hcall c A ab h2).2.2.2.1 r h3 with h4|h4
   ·exact h.other hi hj hne hh h4
   ·have:=(h.thr j hj).low hL hh;omega
 have hJJ:∀j,j<p.n→∀c A ab,((upd x i s' {x.th i with call:=call'}).th j).call=some (c,A,ab)→L.J (g.st j) s' c:=by
  intro j hj c A ab hc
  by_cases e:j=i
  ·subst e
   rw[upd_self]at hc
   exact(hcall c A ab hc).1
  ·rw[upd_ne e]at hc
   exact hJ _ c (h.jj j hj c A ab hc)
 refine⟨⟨?_,hs,?_,?_,?_,hAA,hJJ,?_,?_⟩,hO⟩
 ·refine fixed_stable h.fix fun r hr=>hsame r (fixed_lt h.fix hr) fun hm=>hr (h.inone r (mine_or hi hm))
 ·obtain⟨c,h1,h2,h3⟩:=h.arr
  refine⟨c,(hsame _ h.aalt (h.aaM hi)).trans h1,h2,fun j hj=>?_⟩
  by_cases e:j=i
  ·subst e;rw[upd_self];exact h3 j hj
  ·rw[upd_ne e];exact h3 j hj
 ·intro j hj
  by_cases e:j=i
  ·subst e
   rw[upd_self]
   have ht:=h.thr j hj
   refine⟨ownsRow_same2 ht.row fun b hb _=>hsame b (ht.low hL (.inl hb)) (h.rowM hj hb),fun a ha=>hL.sA a w w' (ht.au a ha) hsz fun r hr=>hsame r (ht.low hL (.inr (.inl ⟨a,ha,hr⟩))) (h.ansM hj ha hr),ht.al,ht.kl,ht.ar,?_⟩
   intro c A ab hc
   obtain⟨_,k1,k2,k3,k4,k5,k6⟩:=hcall c A ab hc
   obtain⟨m1,m2,m3,m4,m5,m6,m7,m8⟩:=hab c A ab hc
   refine⟨k1,ans_same m2 (hsame ab m3 m1),k2,?_,m4,?_,?_,k5⟩
   ·intro hh
    rcases k3 ab hh with h4|h4
    ·exact m1 h4
    ·omega
   ·intro r hr e
    rcases k3 r hr with h4|h4
    ·exact h.rowM hj e.symm h4
    ·have:=ht.low hL (.inl e.symm);omega
   ·intro a ha r hr
    refine⟨m5 a ha r hr,fun hh=>?_⟩
    rcases k3 r hh with h4|h4
    ·exact h.ansM hj ha hr h4
    ·have:=ht.low hL (.inr (.inl ⟨a,ha,hr⟩));omega
  ·rw[upd_ne e]
   exact(h.thr j hj).stable hL hsz fun r hr=>hsame r ((h.thr j hj).low hL hr) (h.other hi hj e hr)
 ·intro j hj r hr
  by_cases e:j=i
  ·subst e
   rw[upd_self]at hr
   rcases hT r hr with⟨h2,h3⟩|⟨c,A,h2⟩|⟨c,A,ab,h2,h3⟩
   ·refine⟨fun hh=>?_,(h.ts j hj r h2).2⟩
    rcases hsr r hh with h4|h4
    ·exact h3 h4
    ·have:=(h.thr j hj).low hL h2;omega
   ·obtain⟨m1,m2,m3,m4,m5,m6,m7,m8⟩:=hab c A r h2
    refine⟨fun hh=>?_,m6⟩
    rcases hsr r hh with h4|h4
    ·exact m1 h4
    ·omega
   ·obtain⟨_,k1,k2,k3,k4,k5,k6⟩:=hcall c A ab h2
    refine⟨k4 r h3,?_⟩
    rintro rfl
    rcases k3 _ h3 with h4|h4
    ·exact h.aaM hj h4
    ·have:=h.aalt;omega
  ·rw[upd_ne e]at hr
   refine⟨fun hh=>?_,(h.ts j hj r hr).2⟩
   rcases hsr r hh with h4|h4
   ·exact h.other hi hj e hr h4
   ·have:=(h.thr j hj).low hL hr;omega
 ·intro j k hj hk hne r h1 h2
  by_cases e:j=i
  ·subst e
   rw[upd_self]at h1
   rw[upd_ne (fun e=>hne e.symm)]at h2
   exact hX r h1 k hk (fun e=>hne e.symm) h2
  ·rw[upd_ne e]at h1
   by_cases e2:k=i
   ·subst e2
    rw[upd_self]at h2
    exact hX r h2 j hj e h1
   ·rw[upd_ne e2]at h2
    exact h.tt j k hj hk hne r h1 h2
 ·intro r hr
  rcases hO r hr with h1|h1|⟨c,A,h1⟩
  ·exact h.inone r h1
  ·exact h.inone' (.inr h1)
  ·exact(hab c A r h1).2.2.2.2.2.2.2
end
section
variable{F:Fz}{w w':World}{L:Lay}{p:Par}{g:Gate}{x y:OX L}{i:Nat}
theorem NotedA.at{aa ab i m:Nat}{v a b c:Value}{xs:List Value}{v':Value}(h:NotedA F aa ab i m v a b c xs w w' v')(d:Nat):NotedA F aa ab i m v a b c xs w (w'.at d) v':=
 ⟨⟨h.wf.own⟩,h.row,h.arr,h.size,h.own,h.old⟩
theorem ou_noted(hL:L.Ok)(hP:p.Ok L)(hi:i<p.n){an:L.A}{ab:Nat}(h:OU L p g x w)(hc:(x.th i).call=none)(hk:(x.th i).k<(p.ops i).length)(hau:L.AU an w)(hna:∀r,L.AR an r→NF L p x r∧r≠ab){F2:Fz}{a b c:Value}(hac:(L.AV an).cells=[a,b,c]){v':Value}
 (hn:NotedA F2 p.aa ab i (x.th i).k (x.th i).row a b c (((x.th i).ans.map fun a=>(L.AV a).cells).flatten) w w' v'):
 OU L p g (upd x i x.s ⟨(x.th i).k+1,none,(x.th i).ans++[an],v'⟩) w'∧(∀r,OR L p (upd x i x.s ⟨(x.th i).k+1,none,(x.th i).ans++[an],v'⟩) r→OR L p x r∨L.AR an r∨w.heap.size≤r):=by
 have ht:=h.thr i hi
 have hsame:∀r,r<w.heap.size→r≠p.aa→some r≠Value.ownBlock (x.th i).row→w'.heap[r]? =w.heap[r]?:=hn.old
 have hT:∀r,TR (⟨(x.th i).k+1,none,(x.th i).ans++[an],v'⟩:Thr L) r→TR (x.th i) r∨L.AR an r∨w.heap.size≤r:=by
  rintro r (h1|⟨a,ha,h1⟩|⟨c,A,ab,h1,h2⟩)
  ·rcases hn.own r h1 with h2|h2
   ·exact .inl (.inl h2.symm)
   ·exact .inr (.inr h2)
  ·rcases List.mem_append.1 ha with ha|ha
   ·exact .inl (.inr (.inl ⟨a,ha,h1⟩))
   ·rw[List.mem_singleton]at ha
    subst ha
    exact .inr (.inl h1)
  ·cases h1
 have hO:∀r,OR L p (upd x i x.s ⟨(x.th i).k+1,none,(x.th i).ans++[an],v'⟩) r→OR L p x r∨L.AR an r∨w.heap.size≤r:=by
  rintro r (h1|rfl|⟨j,hj,h1⟩)
  ·exact .inl (.inl h1)
  ·exact .inl (.inr (.inl rfl))
  ·by_cases e:j=i
   ·subst e
    rw[upd_self]at h1
    rcases hT r h1 with h2|h2|h2
    ·exact .inl (.inr (.inr ⟨j,hj,h2⟩))
    ·exact .inr (.inl h2)
    ·exact .inr (.inr h2)
   ·rw[upd_ne e]at h1
    exact .inl (.inr (.inr ⟨j,hj,h1⟩))
 have hrow:∀r,some r=Value.ownBlock (x.th i).row→TR (x.th i) r:=fun r hr=>.inl hr.symm
 have hrowI:∀r,p.I r≠none→some r≠Value.ownBlock (x.th i).row:=fun r hr e=>hr (h.inone r (.inr (.inr ⟨i,hi,hrow r e⟩)))
 have haaI:∀r,p.I r≠none→r≠p.aa:=fun r hr e=>hr (h.inone r (.inr (.inl e)))
 have hX:∀r,TR (⟨(x.th i).k+1,none,(x.th i).ans++[an],v'⟩:Thr L) r→∀j,j<p.n→j≠i→¬TR (x.th j) r:=by
  intro r hr j hj hne hh
  rcases hT r hr with h2|h2|h2
  ·exact h.tt j i hj hi hne r hh h2
  ·exact(hna r h2).1.1 (.inr (.inr ⟨j,hj,hh⟩))
  ·have:=(h.thr j hj).low hL hh;omega
 refine⟨⟨fixed_stable h.fix fun r hr=>hsame r (fixed_lt h.fix hr) (haaI r hr) (hrowI r hr),hL.sS _ w w' h.su hn.size fun r hr=>hsame r (hL.lS _ _ _ h.su hr) (by rintro rfl;exact h.sa hr) fun e=>(h.ts i hi r (hrow r e)).1 hr,?_,?_,?_,h.sa,?_,?_,?_⟩,hO⟩
 ·obtain⟨c,h1,h2,h3⟩:=h.arr
  refine⟨_,hn.arr c h1,by simpa using h2,fun j hj=>?_⟩
  by_cases e:j=i
  ·subst e
   rw[upd_self,Array.getElem?_setIfInBounds_self_of_lt (by omega)]
  ·rw[upd_ne e,Array.getElem?_setIfInBounds_ne (fun e1=>e e1.symm)]
   exact h3 j hj
 ·intro j hj
  by_cases e:j=i
  ·subst e
   rw[upd_self]
   refine⟨?_,?_,?_,?_,?_,fun c A ab h1=>by cases h1⟩
   ·have:=hn.row
    simp only[List.map_append,List.map_cons,List.map_nil,List.flatten_append,List.flatten_cons,List.flatten_nil,List.append_nil,List.length_append,List.length_cons,List.length_nil,hac,ht.al]
    exact this
   ·intro a ha
    rcases List.mem_append.1 ha with ha|ha
    ·exact hL.sA a w w' (ht.au a ha) hn.size fun r hr=>hsame r (ht.low hL (.inr (.inl ⟨a,ha,hr⟩))) (h.ts j hj r (.inr (.inl ⟨a,ha,hr⟩))).2 (ht.ar a ha r hr)
    ·rw[List.mem_singleton]at ha
     subst ha
     exact hL.sA a w w' hau hn.size fun r hr=>hsame r (hL.lA a w r hau hr) (fun e=>(hna r hr).1.1 (.inr (.inl e))) (fun e=>(hna r hr).1.1 (.inr (.inr ⟨j,hj,hrow r e⟩)))
   ·simp[ht.al]
   ·exact hk
   ·intro a ha r hr e
    rcases hn.own r e.symm with h2|h2
    ·rcases List.mem_append.1 ha with ha|ha
     ·exact ht.ar a ha r hr h2
     ·rw[List.mem_singleton]at ha
      subst ha
      exact(hna r hr).1.1 (.inr (.inr ⟨j,hj,hrow r h2⟩))
    ·rcases List.mem_append.1 ha with ha|ha
     ·have:=ht.low hL (.inr (.inl ⟨a,ha,hr⟩));omega
     ·rw[List.mem_singleton]at ha
      subst ha
      have:=hL.lA a w r hau hr;omega
  ·rw[upd_ne e]
   exact(h.thr j hj).stable hL hn.size fun r hr=>hsame r ((h.thr j hj).low hL hr) (h.ts j hj r hr).2 fun e1=>h.tt j i hj hi e r hr (hrow r e1)
 ·intro j hj r hr
  by_cases e:j=i
  ·subst e
   rw[upd_self]at hr
   rcases hT r hr with h2|h2|h2
   ·exact h.ts j hj r h2
   ·exact⟨fun hh=>(hna r h2).1.1 (.inl hh),fun e=>(hna r h2).1.1 (.inr (.inl e))⟩
   ·refine⟨fun hh=>?_,?_⟩
    ·have:=hL.lS _ _ _ h.su hh;omega
    ·rintro rfl
     have:=h.aalt;omega
  ·rw[upd_ne e]at hr
   exact h.ts j hj r hr
 ·intro j hj c A ab hc
  by_cases e:j=i
  ·subst e
   rw[upd_self]at hc
   cases hc
  ·rw[upd_ne e]at hc
   exact h.jj j hj c A ab hc
 ·intro j k hj hk2 hne r h1 h2
  by_cases e:j=i
  ·subst e
   rw[upd_self]at h1
   rw[upd_ne (fun e=>hne e.symm)]at h2
   exact hX r h1 k hk2 (fun e=>hne e.symm) h2
  ·rw[upd_ne e]at h1
   by_cases e2:k=i
   ·subst e2
    rw[upd_self]at h2
    exact hX r h2 j hj e h1
   ·rw[upd_ne e2]at h2
    exact h.tt j k hj hk2 hne r h1 h2
 ·intro r hr
  rcases hO r hr with h1|h1|h1
  ·exact h.inone r h1
  ·exact(hna r h1).1.2
  ·exact h.inone' (.inr h1)
theorem own_note(hL:L.Ok)(hP:p.Ok L)(hi:i<p.n){an:L.A}{ab:Nat}{A0:Array Value}(h:OU L p g x w)(hc:(x.th i).call=none)(hk:(x.th i).k<(p.ops i).length)(hau:L.AU an w)(hna:∀r,L.AR an r→NF L p x r∧r≠ab)(ha:Ans w ab)(hnb:NF L p x ab)(hwf:Wf F w)(hF:∀r,OR L p x r∨r=ab→F r=none)(hA:Slots 33 A0 (dgS8 p (g.st i) i (x.th i).k ab)){cs:List Frame}{Stop:Goroutine→World→Prop}
 (K:∀w' A v',OU L p g (upd x i x.s ⟨(x.th i).k+1,none,(x.th i).ans++[an],v'⟩) w'→(∀r,OR L p (upd x i x.s ⟨(x.th i).k+1,none,(x.th i).ans++[an],v'⟩) r→OR L p x r∨L.AR an r∨w.heap.size≤r)→w.heap.size≤w'.heap.size→Wf F w'→Slots 33 A (dgS p (g.st i) i ((x.th i).k+1))→
   Own Try.prog false F Stop (G ((Go.Conc.base 99).at ⟨A,[]⟩ [.code dgs2,.inLoop dgs2,.inBlock 0]) cs) w'):
 Own Try.prog false F Stop (back (L.AV an).v (dgFr A0::cs)) w:=by
 have hkl:=hP.len i hi
 refine dg_2a (lc:=(L.AV an).lc) ha (fun k hh=>?_) hA fun A1 hA1=>?_
 ·obtain⟨z,hz,_⟩:=hh
  rw[hF ab (.inr rfl)]at hz
  cases hz
 have hsz:((((w.setCell ⟨ab,0,none⟩ (.bool (L.AV an).ok)).setCell ⟨ab,1,none⟩ (.int .i64 (L.AV an).n)).setCell ⟨ab,2,none⟩ (.slice (L.AV an).la (L.AV an).ll (L.AV an).lc))).heap.size=w.heap.size:=by simp
 have hne:∀r,r≠ab→((((w.setCell ⟨ab,0,none⟩ (.bool (L.AV an).ok)).setCell ⟨ab,1,none⟩ (.int .i64 (L.AV an).n)).setCell ⟨ab,2,none⟩ (.slice (L.AV an).la (L.AV an).ll (L.AV an).lc))).heap[r]? =w.heap[r]?:=by
  intro r hr
  rw[heap_setCell_ne _ _ _ hr,heap_setCell_ne _ _ _ hr,heap_setCell_ne _ _ _ hr]
 have hab:((((w.setCell ⟨ab,0,none⟩ (.bool (L.AV an).ok)).setCell ⟨ab,1,none⟩ (.int .i64 (L.AV an).n)).setCell ⟨ab,2,none⟩ (.slice (L.AV an).la (L.AV an).ll (L.AV an).lc))).heap[ab]? =some (.cells #[.bool (L.AV an).ok,.int .i64 (L.AV an).n,.slice (L.AV an).la (L.AV an).ll (L.AV an).lc] 44 (0,0)):=by
  obtain⟨a,b,c,h1⟩:=ha.o
  rw[heap_setCell_eq (heap_setCell_eq (heap_setCell_eq h1 _) _) _]
  rfl
 generalize (((w.setCell ⟨ab,0,none⟩ (.bool (L.AV an).ok)).setCell ⟨ab,1,none⟩ (.int .i64 (L.AV an).n)).setCell ⟨ab,2,none⟩ (.slice (L.AV an).la (L.AV an).ll (L.AV an).lc))=W at hsz hne hab ⊢
 have hU:OU L p g x W:=h.stable hL (by omega) fun r hr=>hne r (by
  rintro rfl
  rcases hr with hr|hr
  ·exact hnb.1 hr
  ·exact hr hnb.2)
 have hauW:L.AU an W:=hL.sA an w W hau (by omega) fun r hr=>hne r (hna r hr).2
 have hwfW:Wf F W:=by
  constructor
  intro r z hz
  obtain⟨c,e,z0,h1,h2⟩:=hwf.own r z hz
  refine⟨c,e,z0,(hne r ?_).trans h1,h2⟩
  rintro rfl
  rw[hF r (.inr rfl)]at hz
  cases hz
 have ht:=hU.thr i hi
 have hmF:∀r,(r=p.aa∨some r=Value.ownBlock (x.th i).row)→F r=none:=by
  rintro r (rfl|hr)
  ·exact hF _ (.inl (.inr (.inl rfl)))
  ·exact hF _ (.inl (.inr (.inr ⟨i,hi,.inl hr.symm⟩)))
 obtain⟨c0,harr,hcs,hci⟩:=hU.arr
 have hrI:∀r,p.I r≠none→some r≠Value.ownBlock (x.th i).row:=fun r hr e=>hr (h.inone r (.inr (.inr ⟨i,hi,.inl e.symm⟩)))
 have key:=dg_2b (F:=FU F (fun r=>r=p.aa∨some r=Value.ownBlock (x.th i).row) W) (w:=W) (nn:=W.heap.size) (main:=false) (cs:=cs) (kk:=[.inBlock 1,.code dgr7,.inLoop dgs2,.inBlock 0]) (Stop:=fun a u=>∃v' A,a=G ((Go.Conc.base 99).at ⟨A,[]⟩ [.inBlock 1,.code dgr7,.inLoop dgs2,.inBlock 0]) cs∧NotedA (FU F (fun r=>r=p.aa∨some r=Value.ownBlock (x.th i).row) W) p.aa ab i (x.th i).k (x.th i).row (.bool (L.AV an).ok) (.int .i64 (L.AV an).n) (.slice (L.AV an).la (L.AV an).ll (L.AV an).lc) (((x.th i).ans.map fun a=>(L.AV a).cells).flatten) W u v'∧Slots 33 A (dgS8 p (g.st i) i (x.th i).k ab))
  fu_under (Nat.le_refl _) ⟨rfl,rfl,rfl⟩ hi (by omega) ⟨fu_wf,hP.av W hU.fix,hP.ib W hU.fix i hi,⟨c0,harr,hci i hi⟩,hab⟩ (by rw[← ht.al];exact ht.row) (fu_mine (.inl rfl)) (fun b hb=>fu_mine (.inr hb.symm)) ⟨fun e=>(h.ts i hi _ (.inl e.symm)).2 rfl,fun e=>hnb.1 (.inr (.inr ⟨i,hi,.inl e.symm⟩)),hrI _ hP.inI.1,hrI _ (hP.inI.2 i hi)⟩
  (fun r c e z0 h1 h2 h3 h4=>⟨_,fu_cells (fun hm=>hm.elim h2 h3) h1,fun e=>by simp only[Prod.mk.injEq]at e;omega⟩) hA1 fun w2 v' A2 hn hA2=>.stop fun d=>⟨v',A2,rfl,hn.at d,hA2⟩
 refine(own_weaken (fun a ha=>fu_held hwfW hmF ha) key).bind fun a u hs=>?_
 obtain⟨v',A2,rfl,hn,hA2⟩:=hs u.drawn
 have hn:NotedA _ p.aa ab i (x.th i).k (x.th i).row (.bool (L.AV an).ok) (.int .i64 (L.AV an).n) (.slice (L.AV an).la (L.AV an).ll (L.AV an).lc) (((x.th i).ans.map fun a=>(L.AV a).cells).flatten) W u v':=hn
 refine dg_2c (by omega) hA2 fun A3 hA3=>?_
 obtain⟨q1,q2⟩:=ou_noted hL hP hi hU hc hk hauW hna rfl hn
 refine K u A3 v' q1 (fun r hr=>?_) (by have:=hn.size;omega) ?_ hA3
 ·rcases q2 r hr with h1|h1|h1
  ·exact .inl h1
  ·exact .inr (.inl h1)
  ·exact .inr (.inr (by omega))
 ·constructor
  intro r z hz
  obtain⟨c,e,z0,h1,h2⟩:=hwfW.own r z hz
  refine⟨c,e,z0,(hn.old r (alt h1) ?_ ?_).trans h1,h2⟩
  ·rintro rfl
   rw[hmF _ (.inl rfl)]at hz
   cases hz
  ·intro e
   rw[hmF _ (.inr e)]at hz
   cases hz
end
section
variable{F:Fz}{w w' w0:World}{L:Lay}{p:Par}{g:Gate}{x y x0:OX L}{i:Nat}
theorem OU.at(hL:L.Ok)(h:OU L p g x w)(d:Nat):OU L p g x (w.at d):=h.stable hL (Nat.le_refl _) fun _ _=>rfl
theorem wf_none(hw0:Wf F w0){r:Nat}(h:w0.heap.size≤r):F r=none:=by
 cases e:F r with
 | none=>rfl
 | some z=>
   obtain⟨c,e1,z0,h1,_⟩:=hw0.own r z e
   have:=(alt h1)
   omega
theorem wf_under(hw0:Wf F w0):Under F w0.heap.size:=by
 intro r z h
 obtain⟨c,e1,z0,h1,_⟩:=hw0.own r z h
 exact(alt h1)
theorem nf_after(hL:L.Ok)(h:OU L p g x w)(hi:i<p.n){s':L.S}{r:Nat}(hr:(∃c A ab,(x.th i).call=some (c,A,ab)∧L.CR c r)∨w.heap.size≤r)(hs:¬L.SR s' r):NF L p (upd x i s' {x.th i with call:=none}) r:=by
 have hM:∀q,(∃c A ab,(x.th i).call=some (c,A,ab)∧L.CR c q)→MineC L x i q:=fun q h=>.inr h
 refine⟨?_,?_⟩
 ·rintro(h1|rfl|⟨j,hj,h1⟩)
  ·exact hs h1
  ·rcases hr with hr|hr
   ·exact h.aaM hi (hM _ hr)
   ·have:=h.aalt;omega
  ·by_cases e:j=i
   ·subst e
    rw[upd_self]at h1
    rcases h1 with h1|⟨a,ha,h1⟩|⟨c,A,ab,h1,_⟩
    ·rcases hr with hr|hr
     ·exact h.rowM hj h1 (hM _ hr)
     ·have:=(h.thr j hj).low hL (.inl h1);omega
    ·rcases hr with hr|hr
     ·exact h.ansM hj ha h1 (hM _ hr)
     ·have:=(h.thr j hj).low hL (.inr (.inl ⟨a,ha,h1⟩));omega
    ·cases h1
   ·rw[upd_ne e]at h1
    rcases hr with hr|hr
    ·exact h.other hi hj e h1 (hM _ hr)
    ·have:=(h.thr j hj).low hL h1;omega
 ·rcases hr with hr|hr
  ·exact h.inone r (mine_or hi (hM _ hr))
  ·exact h.inone' (.inr hr)
theorem nf_ab(hL:L.Ok)(h:OU L p g x w)(hi:i<p.n){s':L.S}(hsr:∀q,L.SR s' q→MineC L x i q∨w.heap.size≤q){c0:L.C}{A0:Array Value}{ab:Nat}(hc:(x.th i).call=some (c0,A0,ab)):NF L p (upd x i s' {x.th i with call:=none}) ab:=by
 have hT:TR (x.th i) ab:=.inr (.inr ⟨c0,A0,ab,hc,.inl rfl⟩)
 obtain⟨_,k2,_,k4,k5,_,k7,_⟩:=(h.thr i hi).call c0 A0 ab hc
 refine⟨?_,h.inone ab (.inr (.inr ⟨i,hi,hT⟩))⟩
 rintro(h1|e1|⟨j,hj,h1⟩)
 ·rcases hsr ab h1 with h2|h2
  ·exact h.abM hi hc h2
  ·have:=(h.thr i hi).low hL hT;omega
 ·exact(h.ts i hi ab hT).2 e1
 ·by_cases e:j=i
  ·subst e
   rw[upd_self]at h1
   rcases h1 with h1|⟨a,ha,h1⟩|⟨c,A,ab,h1,_⟩
   ·exact k5 h1.symm
   ·exact(k7 a ha ab h1).1 rfl
   ·cases h1
  ·rw[upd_ne e]at h1
   exact h.tt j i hj hi e ab h1 hT
theorem nf_fresh(hL:L.Ok)(h:OU L p g x w)(hi:i<p.n){s':L.S}(hsr:∀q,L.SR s' q→MineC L x i q∨w.heap.size≤q){ab:Nat}(hlt:ab<w.heap.size)(hn:NF L p x ab)(hc:(x.th i).call=none):NF L p (upd x i s' {x.th i with call:=none}) ab:=by
 refine⟨?_,hn.2⟩
 rintro(h1|e1|⟨j,hj,h1⟩)
 ·rcases hsr ab h1 with h2|h2
  ·exact hn.1 (mine_or hi h2)
  ·omega
 ·exact hn.1 (.inr (.inl e1))
 ·by_cases e:j=i
  ·subst e
   rw[upd_self]at h1
   have h2:TR (x.th j) ab:=by
    rcases h1 with h1|h1|⟨c,A,ab,h1,_⟩
    ·exact .inl h1
    ·exact .inr (.inl h1)
    ·cases h1
   exact hn.1 (.inr (.inr ⟨j,hj,h2⟩))
  ·rw[upd_ne e]at h1
   exact hn.1 (.inr (.inr ⟨j,hj,h1⟩))
def TEnd(L:Lay)(p:Par)(g:Gate)(i:Nat)(y:OX L)(cs:List Frame)(a:Goroutine):Prop:=
 ((opsUsers L p g).liv y i=true∧a=G (Frame.enter Try.prog 133 #[.pointer (some ⟨g.st i,0,none⟩)] .normal) ((opsUsers L p g).fr y i++cs))∨((opsUsers L p g).liv y i=false∧∃v,a=back v cs)
def AdvTo(L:Lay)(p:Par)(g:Gate)(i:Nat)(x0:OX L)(w0:World)(S:OX L→Prop)(x:OX L)(cs:List Frame)(a:Goroutine)(u:World):Prop:=
 ∃y,S y∧(∀j,j≠i→y.th j=x.th j)∧OU L p g y u∧(∀r,OR L p y r→OR L p x0 r∨w0.heap.size≤r)∧TEnd L p g i y cs a
theorem own_adv(hL:L.Ok)(hP:p.Ok L)(hi:i<p.n)(hF0:∀r,OR L p x0 r→F r=none)(hw0:Wf F w0)(c:Frame)(cs:List Frame):∀(m:Nat) (x:OX L) (w:World) (A:Array Value),(p.ops i).length - (x.th i).k=m→OU L p g x w→(x.th i).call=none→Wf F w→w0.heap.size≤w.heap.size→(∀r,OR L p x r→OR L p x0 r∨w0.heap.size≤r)→Slots 33 A (dgS p (g.st i) i (x.th i).k)→
 Own Try.prog false F (AdvTo L p g i x0 w0 (fun y=>Adv L p i (x.s,x.th i) (y.s,y.th i)) x (c::cs)) (G ((Go.Conc.base 99).at ⟨A,[]⟩ [.code dgs2,.inLoop dgs2,.inBlock 0]) (c::cs)) w:=by
 have hFn:∀r,OR L p x0 r∨w0.heap.size≤r→F r=none:=fun r h=>h.elim (hF0 r) (wf_none hw0)
 intro m
 induction m with
 | zero=>
   intro x w A hm h hc hwf hsz hO hA
   have hk:(x.th i).k=(p.ops i).length:=by have:=(h.thr i hi).kl;omega
   rw[hk]at hA
   refine dg_3 hA (.stop fun d=>⟨x,.done hc hk,fun j _=>rfl,h.at hL d,hO,.inr ⟨?_,_,rfl⟩⟩)
   show(x.th i).call.isSome=false
   rw[hc]
   rfl
 | succ m ih=>
   intro x w A hm h hc hwf hsz hO hA
   have hk:(x.th i).k<(p.ops i).length:=by omega
   obtain⟨o,ho⟩:∃o,(p.ops i)[(x.th i).k]? =some o:=⟨_,List.getElem?_eq_getElem hk⟩
   obtain⟨opb,oo,hoa,f0,f1,f2,f3,g0,g1,g2,g3⟩:=hP.op w h.fix i hi _ o ho
   have hdb:=hP.db w h.fix
   have hib:=hP.ib w h.fix i hi
   have hA':=hA
   unfold dgS at hA'
   rw[hoa]at hA'
   refine dg_1 (wf_under hwf) (Nat.le_refl _) hL.call hk (hP.len i hi) hdb.c hdb.z hib.c hib.z hdb.lt hib.lt f0 f1 f2 f3 g0 g1 g2 g3 hA' fun A1 hA1=>?_
   have hA1':Slots 33 A1 (dgS8 p (g.st i) i (x.th i).k (w.heap.size+1)):=by
    unfold dgS8
    rw[hoa]
    obtain⟨b0,b1,b2,b3,b4,b5,b6,b7,b8⟩:=hA1
    exact⟨b0,b1,b2,b3,b4,b5,b7,b8⟩
   have e1:∀r,r<w.heap.size→((w.alloc (.cells #[.int .i64 o.kd,.int .i64 o.a,.int .i64 o.b,.int .i64 o.c] 47)).alloc (.cells #[.bool false,.int .i64 0,.slice none 0 0] 44)).heap[r]? =w.heap[r]?:=fun r hr=>by
    rw[heap_alloc_lt _ _ (by simp;omega),heap_alloc_lt _ _ hr]
   have e2:((w.alloc (.cells #[.int .i64 o.kd,.int .i64 o.a,.int .i64 o.b,.int .i64 o.c] 47)).alloc (.cells #[.bool false,.int .i64 0,.slice none 0 0] 44)).heap[w.heap.size+1]? =some (.cells #[.bool false,.int .i64 0,.slice none 0 0] 44 (0,0)):=by
    have:=heap_alloc_new (w.alloc (.cells #[.int .i64 o.kd,.int .i64 o.a,.int .i64 o.b,.int .i64 o.c] 47)) (.cells #[.bool false,.int .i64 0,.slice none 0 0] 44)
    simpa using this
   have e3:((w.alloc (.cells #[.int .i64 o.kd,.int .i64 o.a,.int .i64 o.b,.int .i64 o.c] 47)).alloc (.cells #[.bool false,.int .i64 0,.slice none 0 0] 44)).heap.size=w.heap.size+2:=by simp
   generalize (w.alloc (.cells #[.int .i64 o.kd,.int .i64 o.a,.int .i64 o.b,.int .i64 o.c] 47)).alloc (.cells #[.bool false,.int .i64 0,.slice none 0 0] 44)=W at e1 e2 e3 ⊢
   have hx:OU L p g x W:=h.stable hL (by omega) fun r hr=>e1 r (hr.elim (h.low hL) (fixed_lt h.fix))
   have hans:Ans W (w.heap.size+1):=⟨⟨_,_,_,e2⟩⟩
   have hnf:NF L p x (w.heap.size+1):=⟨fun hh=>by have:=h.low hL hh;omega,h.inone' (.inr (by omega))⟩
   have hwf1:Wf F W:=by
    constructor
    intro r z hz
    obtain⟨c,e,z0,h1,h2⟩:=hwf.own r z hz
    exact⟨c,e,z0,(e1 r (alt h1)).trans h1,h2⟩
   have hSF:∀r,L.SR x.s r→F r=none:=fun r hr=>hFn r (hO r (.inl hr))
   have key:=own_gd (hL.beg x.s i o (g.st i) (FU F (fun r=>L.SR x.s r) W) W (dgFr A1) (c::cs) hx.su fu_wf fun r hr=>fu_mine hr)
   refine(own_weaken (fun a ha=>fu_held hwf1 hSF ha) key).bind fun a u hs=>?_
   obtain⟨hgd,s',res,hrel,hsu,hsr,hres⟩:=hs u.drawn
   have hgd:Gd (FU F (fun r=>L.SR x.s r) W) W u:=hgd
   have hsu:L.SU s' u:=hsu
   have hus:W.heap.size≤u.heap.size:=hgd.size
   have hsame:∀r,r<W.heap.size→¬MineC L x i r→u.heap[r]? =W.heap[r]?:=fun r hr hm=>fu_same hgd (fun hh=>hm (.inl hh)) hr
   have hsr2:∀q,L.SR s' q→MineC L x i q∨W.heap.size≤q:=by
    intro q hq
    rcases hsr q hq with h1|h1|h1
    ·exact .inl (.inl h1)
    ·exact h1.elim
    ·exact .inr h1
   have hwf2:Wf F u:=by
    constructor
    intro r z hz
    obtain⟨c,e,z0,h1,h2⟩:=hwf1.own r z hz
    refine⟨c,e,z0,(fu_same hgd (fun hh=>?_) (alt h1)).trans h1,h2⟩
    rw[hSF r hh]at hz
    cases hz
   cases res with
   | inl c1=>
     obtain⟨hjj,hcu,hcr,hcs,rfl⟩:=hres
     have hcu:L.CU c1 u:=hcu
     obtain⟨q1,q2⟩:=ou_next hL hx hi hus hsame hsu hsr2 (call':=some (c1,A1,w.heap.size+1)) (fun _ c2 h2=>hL.jb _ _ _ _ _ _ _ h2 hrel) (by
      intro c A ab e
      cases e
      exact⟨hjj,hA1',hcu,fun q hq=>(hcr q hq).elim False.elim .inr,hcs,hk,.inr ⟨hans,hnf⟩⟩)
     refine .stop fun d=>⟨_,?_,fun j hj=>upd_ne hj,q1.at hL d,fun r hr=>?_,.inl ⟨?_,?_⟩⟩
     ·show Adv L p i (x.s,x.th i) (s',(upd x i s' {x.th i with call:=some (c1,A1,w.heap.size+1)}).th i)
      rw[upd_self]
      exact .live ho hrel
     ·rcases q2 r hr with h1|h1|⟨c2,A2,h1⟩
      ·exact hO r h1
      ·exact .inr (by omega)
      ·cases h1
       exact .inr (by omega)
     ·show((upd x i s' {x.th i with call:=some (c1,A1,w.heap.size+1)}).th i).call.isSome=true
      rw[upd_self]
      rfl
     ·simp only[opsUsers,upd_self,List.append_assoc,List.cons_append,List.nil_append]
   | inr an=>
     obtain⟨hau,har,has,rfl⟩:=hres
     have hau:L.AU an u:=hau
     obtain⟨q1,q2⟩:=ou_next hL hx hi hus hsame hsu hsr2 (call':=none) (fun _ c2 h2=>hL.jb _ _ _ _ _ _ _ h2 hrel) (by intro c A ab e;cases e)
     have hq2:∀r,OR L p (upd x i s' {x.th i with call:=none}) r→OR L p x0 r∨w0.heap.size≤r:=by
      intro r hr
      rcases q2 r hr with h1|h1|⟨c2,A2,h1⟩
      ·exact hO r h1
      ·exact .inr (by omega)
      ·cases h1
     have hti:(upd x i s' {x.th i with call:=none}).th i={x.th i with call:=none}:=upd_self
     have hAn:∀q,L.AR an q→W.heap.size≤q:=fun q hq=>(har q hq).elim False.elim id
     refine own_note hL hP hi (ab:=w.heap.size+1) q1 (by rw[hti]) (by rw[hti];exact hk) hau (fun r hr=>⟨nf_after hL hx hi (.inr (hAn r hr)) (has r hr),fun e=>by have:=hAn r hr;omega⟩) (ans_same hans (hsame _ (by omega) fun hm=>hnf.1 (mine_or hi hm))) (nf_fresh hL hx hi hsr2 (by omega) hnf hc) hwf2 ?_ (by rw[hti];exact hA1') ?_
     ·rintro r (h1|rfl)
      ·exact hFn r (hq2 r h1)
      ·exact hFn _ (.inr (by omega))
     ·intro w' A2 v' r1 r2 r3 r4 r5
      rw[hti]at r1 r2 r5
      have hti2:∀t:Thr L,(upd (upd x i s' {x.th i with call:=none}) i (upd x i s' {x.th i with call:=none}).s t).th i=t:=fun t=>upd_self
      refine(ih _ w' A2 (by rw[hti2];simp only;omega) r1 (by rw[hti2]) r4 (by omega) ?_ (by rw[hti2];exact r5)).bind fun a u hs=>.stop fun d=>?_
      ·intro r hr
       rcases r2 r hr with h1|h1|h1
       ·exact hq2 r h1
       ·exact .inr (by have:=hAn r h1;omega)
       ·exact .inr (by omega)
      ·obtain⟨y,k1,k2,k3,k4,k5⟩:=hs d
       refine⟨y,?_,fun j hj=>?_,k3,k4,k5⟩
       ·rw[hti2]at k1
        exact .imm ho hrel k1
       ·rw[k2 j hj,upd_ne hj,upd_ne hj]
end
section
variable{F:Fz}{w w' w0:World}{L:Lay}{p:Par}{g:Gate}{x y x0:OX L}{i:Nat}
theorem plain_dg(A:Array Value):Plain (dgFr A):=⟨rfl,rfl,⟨_,Try.func99⟩⟩
theorem own_stp(hL:L.Ok)(hP:p.Ok L)(hi:i<p.n)(h:OU L p g x w){c0:L.C}{A:Array Value}{ab:Nat}(hc:(x.th i).call=some (c0,A,ab))(hwf:Wf F w)(hF:∀r,OR L p x r→F r=none)(c:Frame)(cs:List Frame):
 Own Try.prog false F (AdvTo L p g i x w (fun y=>Stp L p i (x.s,x.th i) (y.s,y.th i)) x (c::cs)) (back (.tuple #[]) (L.cf (g.st i) c0++dgFr A::c::cs)) w:=by
 obtain⟨hA,hans,hcu0,k4,k5,k6,k7,hk⟩:=(h.thr i hi).call c0 A ab hc
 have hT:TR (x.th i) ab:=.inr (.inr ⟨c0,A,ab,hc,.inl rfl⟩)
 have hablt:ab<w.heap.size:=(h.thr i hi).low hL hT
 have hdis:∀q,L.CR c0 q→¬L.SR x.s q:=fun q hq=>(h.ts i hi q (.inr (.inr ⟨c0,A,ab,hc,.inr hq⟩))).1
 have hMF:∀r,(L.SR x.s r∨L.CR c0 r)→F r=none:=fun r hr=>hF r (hr.elim .inl fun hr=>.inr (.inr ⟨i,hi,.inr (.inr ⟨c0,A,ab,hc,.inr hr⟩)⟩))
 have key:=own_gd (hL.stp x.s c0 (g.st i) (FU F (fun r=>L.SR x.s r∨L.CR c0 r) w) w (dgFr A) (c::cs) (h.jj i hi c0 A ab hc) h.su hcu0 hdis fu_wf fun r hr=>fu_mine hr)
 refine(own_weaken (fun a ha=>fu_held hwf hMF ha) key).bind fun a u hs=>?_
 obtain⟨hgd,s',res,hrel,hsu,hsr,hres⟩:=hs u.drawn
 have hgd:Gd (FU F (fun r=>L.SR x.s r∨L.CR c0 r) w) w u:=hgd
 have hsu:L.SU s' u:=hsu
 have hus:w.heap.size≤u.heap.size:=hgd.size
 have hCM:∀q,L.CR c0 q→MineC L x i q:=fun q hq=>.inr ⟨c0,A,ab,hc,hq⟩
 have hsame:∀r,r<w.heap.size→¬MineC L x i r→u.heap[r]? =w.heap[r]?:=fun r hr hm=>fu_same hgd (fun hh=>hm (hh.elim .inl (hCM r))) hr
 have hsr2:∀q,L.SR s' q→MineC L x i q∨w.heap.size≤q:=by
  intro q hq
  rcases hsr q hq with h1|h1|h1
  ·exact .inl (.inl h1)
  ·exact .inl (hCM q h1)
  ·exact .inr h1
 have hwf2:Wf F u:=by
  constructor
  intro r z hz
  obtain⟨c,e,z0,h1,h2⟩:=hwf.own r z hz
  refine⟨c,e,z0,(fu_same hgd (fun hh=>?_) (alt h1)).trans h1,h2⟩
  rw[hMF r hh]at hz
  cases hz
 cases res with
 | inl c1=>
   obtain⟨hjj,hcu,hcr,hcs,rfl⟩:=hres
   have hcu:L.CU c1 u:=hcu
   obtain⟨q1,q2⟩:=ou_next hL h hi hus hsame hsu hsr2 (call':=some (c1,A,ab)) (fun _ c2 h2=>hL.js _ _ _ _ _ _ h2 hrel) (by
    intro c A1 ab1 e
    cases e
    exact⟨hjj,hA,hcu,fun q hq=>(hcr q hq).elim (fun h1=>.inl (hCM q h1)) .inr,hcs,hk,.inl ⟨c0,A,hc⟩⟩)
   refine .stop fun d=>⟨_,?_,fun j hj=>upd_ne hj,q1.at hL d,fun r hr=>?_,.inl ⟨?_,?_⟩⟩
   ·show Stp L p i (x.s,x.th i) (s',(upd x i s' {x.th i with call:=some (c1,A,ab)}).th i)
    rw[upd_self]
    exact .live hc hrel
   ·rcases q2 r hr with h1|h1|⟨c2,A2,h1⟩
    ·exact .inl h1
    ·exact .inr h1
    ·cases h1
     exact .inl (.inr (.inr ⟨i,hi,hT⟩))
   ·show((upd x i s' {x.th i with call:=some (c1,A,ab)}).th i).call.isSome=true
    rw[upd_self]
    rfl
   ·simp only[opsUsers,upd_self,List.append_assoc,List.cons_append,List.nil_append]
 | inr an=>
   obtain⟨hau,har,has,rfl⟩:=hres
   have hau:L.AU an u:=hau
   obtain⟨q1,q2⟩:=ou_next hL h hi hus hsame hsu hsr2 (call':=none) (fun _ c2 h2=>hL.js _ _ _ _ _ _ h2 hrel) (by intro c A ab e;cases e)
   have hFn:∀r,OR L p x r∨w.heap.size≤r→F r=none:=fun r h=>h.elim (hF r) (wf_none hwf)
   have hq2:∀r,OR L p (upd x i s' {x.th i with call:=none}) r→OR L p x r∨w.heap.size≤r:=by
    intro r hr
    rcases q2 r hr with h1|h1|⟨c2,A2,h1⟩
    ·exact .inl h1
    ·exact .inr h1
    ·cases h1
   have hti:(upd x i s' {x.th i with call:=none}).th i={x.th i with call:=none}:=upd_self
   have hOA:∀q,L.AR an q→OR L p x q∨w.heap.size≤q:=fun q hq=>(har q hq).elim (fun h1=>.inl (mine_or hi (hCM q h1))) .inr
   refine own_note hL hP hi (ab:=ab) q1 (by rw[hti]) (by rw[hti];exact hk) hau (fun r hr=>⟨nf_after hL h hi ((har r hr).elim (fun h1=>.inl ⟨c0,A,ab,hc,h1⟩) .inr) (has r hr),?_⟩) (ans_same hans (hsame _ hablt (h.abM hi hc))) (nf_ab hL h hi hsr2 hc) hwf2 ?_ (by rw[hti];exact hA) ?_
   ·rintro rfl
    rcases har _ hr with h1|h1
    ·exact k4 h1
    ·omega
   ·rintro r (h1|rfl)
    ·exact hFn r (hq2 r h1)
    ·exact hFn _ (.inl (.inr (.inr ⟨i,hi,hT⟩)))
   ·intro w' A2 v' r1 r2 r3 r4 r5
    rw[hti]at r1 r2 r5
    have hti2:∀t:Thr L,(upd (upd x i s' {x.th i with call:=none}) i (upd x i s' {x.th i with call:=none}).s t).th i=t:=fun t=>upd_self
    refine(own_adv hL hP hi hF hwf c cs _ _ w' A2 rfl r1 (by rw[hti2]) r4 (by omega) ?_ (by rw[hti2];exact r5)).bind fun a u hs=>.stop fun d=>?_
    ·intro r hr
     rcases r2 r hr with h1|h1|h1
     ·exact hq2 r h1
     ·exact hOA r h1
     ·exact .inr (by omega)
    ·obtain⟨y,k1,k2,k3,k4,k5⟩:=hs d
     refine⟨y,?_,fun j hj=>?_,k3,k4,k5⟩
     ·rw[hti2]at k1
      exact .ans hc hrel k1
     ·rw[k2 j hj,upd_ne hj,upd_ne hj]
theorem ops_ok(hL:L.Ok)(hP:p.Ok L)(hn:g.n=p.n):(opsUsers L p g).Ok g where
 call:=callable99
 plain:=by
  intro x i hl
  have hl:(x.th i).call.isSome=true:=hl
  obtain⟨⟨c0,A,ab⟩,hc⟩:=Option.isSome_iff_exists.1 hl
  have e:(opsUsers L p g).fr x i=L.cf (g.st i) c0++[dgFr A]:=by simp only[opsUsers,hc]
  rw[e]
  refine⟨by simp,fun u hu=>?_⟩
  rcases List.mem_append.1 hu with hu|hu
  ·exact(hL.plain _ _).2 u hu
  ·rw[List.mem_singleton]at hu
   subst hu
   exact plain_dg A
 stable:=fun x w w' h hsz hs=>OU.stable hL h hsz hs
 fix:=fun x w r o h hr=>⟨OU.fix h r o hr,hP.cells r o hr⟩
 low:=fun x w r h hr=>OU.low hL h hr
 stpO:=by
  intro x i y j h hj
  have e:=h.2 j hj
  exact⟨by simp only[opsUsers,e],by simp only[opsUsers,e]⟩
 borO:=by
  intro x i y j h hj
  have e:=h.2 j hj
  exact⟨by simp only[opsUsers,e],by simp only[opsUsers,e]⟩
 nwO:=by
  intro x i y j h hj hnw
  have e:=h.2 j hj
  simp only[opsUsers,e]at hnw ⊢
  exact hnw
 go:=by
  intro x i hi hl F w c cs h hwf hF
  have hl:(x.th i).call.isSome=true:=hl
  obtain⟨⟨c0,A,ab⟩,hc⟩:=Option.isSome_iff_exists.1 hl
  have e:(opsUsers L p g).fr x i++c::cs=L.cf (g.st i) c0++dgFr A::c::cs:=by simp only[opsUsers,hc,List.append_assoc,List.cons_append,List.nil_append]
  rw[e]
  refine(own_stp hL hP (by omega) h hc hwf hF c cs).bind fun a u hs=>.stop fun d=>?_
  obtain⟨y,k1,k2,k3,k4,k5⟩:=hs d
  exact⟨y,⟨k1,k2⟩,k3,k4,k5⟩
 born:=by
  intro x i hi hnw F w c cs h hwf hF
  have h:OU L p g x w:=h
  have hob:=hP.ob w h.fix i (by omega)
  have hF:∀r,OR L p x r→F r=none:=hF
  refine dg_0 (sv:=stepperV (g.st i)) (ob:=p.ob i) (db:=p.db) (ib:=p.ib i) (av:=p.av) hob.c hob.z fun A hA=>?_
  refine(own_adv hL hP (by omega) hF hwf c cs _ x w A rfl h hnw.1 hwf (Nat.le_refl _) (fun r hr=>.inl hr) (by rw[hnw.2];exact hA)).bind fun a u hs=>.stop fun d=>?_
  obtain⟨y,k1,k2,k3,k4,k5⟩:=hs d
  exact⟨y,⟨k1,k2⟩,k3,k4,k5⟩
end
noncomputable section
structure Pl where
 S:Type
 C:Type
 A:Type
 beg:S→Op4→S×(C ⊕ A)
 stp:S→C→S×(C ⊕ A)
variable{m:Pl}
structure GT(m:Pl)where
 k:Nat
 call:Option m.C
 ans:List m.A
def advG(m:Pl):List Op4→m.S→GT m→m.S×GT m
 | [],q,t=>(q,t)
 | o::l,q,t=>match m.beg q o with
   | (q',.inl c)=>(q',{t with call:=some c})
   | (q',.inr a)=>advG m l q' ⟨t.k+1,none,t.ans++[a]⟩
def stpG(m:Pl)(ops:List Op4)(q:m.S)(t:GT m):m.S×GT m:=match t.call with
 | none=>(q,t)
 | some c=>match m.stp q c with
   | (q',.inl c')=>(q',{t with call:=some c'})
   | (q',.inr a)=>advG m (ops.drop (t.k+1)) q' ⟨t.k+1,none,t.ans++[a]⟩
structure GS(m:Pl)where
 q:m.S
 th:Nat→GT m
def GS.put(s:GS m)(i:Nat)(r:m.S×GT m):GS m:=⟨r.1,fun j=>if j=i then r.2 else s.th j⟩
def GS.live(s:GS m)(j:Nat):Bool:=(s.th j).call.isSome
def gBorns(m:Pl)(ops:Nat→List Op4):Nat→GS m→GS m
 | 0,s=>s
 | i+1,s=>let y:=gBorns m ops i s;y.put i (advG m (ops i) y.q (y.th i))
def gTurn(ops:Nat→List Op4)(n M:Nat)(s:GS m×List Nat)(i:Int):GS m×List Nat:=
 if 0≤i∧i<n∧s.1.live i.toNat=true∧s.2.length≠M then(s.1.put i.toNat (stpG m (ops i.toNat) s.1.q (s.1.th i.toNat)),s.2++[i.toNat])else s
def gTurns(ops:Nat→List Op4)(n M:Nat):List Int→GS m×List Nat→GS m×List Nat
 | [],s=>s
 | i::l,s=>gTurns ops n M l (gTurn ops n M s i)
def gDone(n M:Nat)(s:GS m×List Nat):Prop:=cnt s.1.live n=0∨M≤s.2.length
instance(n M:Nat)(s:GS m×List Nat):Decidable (gDone n M s):=by unfold gDone;infer_instance
def gRounds(ops:Nat→List Op4)(n M:Nat):Nat→GS m×List Nat→GS m×List Nat
 | 0,s=>s
 | f+1,s=>if gDone n M s then s else gRounds ops n M f (gTurns ops n M ((List.range n).map fun j:Nat=>(j:Int)) s)
theorem gRounds_done{ops:Nat→List Op4}{n M:Nat}{s:GS m×List Nat}(h:gDone n M s)(f:Nat):gRounds ops n M f s=s:=by
 cases f with
 | zero=>rfl
 | succ f=>exact if_pos h
def gOver(ops:Nat→List Op4)(n M:Nat)(S:List Int)(f:Nat)(s:GS m):GS m×List Nat:=gRounds ops n M f (gTurns ops n M S (gBorns m ops n s,[]))
structure Abs(L:Lay)(m:Pl)where
 s:L.S→m.S
 c:L.C→m.C
 a:L.A→m.A
def Abs.r{L:Lay}(ab:Abs L m):L.C ⊕ L.A→m.C ⊕ m.A
 | .inl c=>.inl (ab.c c)
 | .inr a=>.inr (ab.a a)
structure Abs.Ok{L:Lay}(ab:Abs L m):Prop where
 beg:∀s i o y,L.beg s i o y→(ab.s y.1,ab.r y.2)=m.beg (ab.s s) o
 stp:∀s c y,L.stp s c y→(ab.s y.1,ab.r y.2)=m.stp (ab.s s) (ab.c c)
variable{L:Lay}{ab:Abs L m}{p:Par}{g:Gate}
def Abs.t(ab:Abs L m)(t:Thr L):GT m:=⟨t.k,t.call.map fun c=>ab.c c.1,t.ans.map ab.a⟩
def Abs.x(ab:Abs L m)(x:OX L):GS m:=⟨ab.s x.s,fun j=>ab.t (x.th j)⟩
theorem advG_abs(ok:ab.Ok){i:Nat}{a b:L.S×Thr L}(h:Adv L p i a b):a.2.call=none→(ab.s b.1,ab.t b.2)=advG m ((p.ops i).drop a.2.k) (ab.s a.1) (ab.t a.2):=by
 induction h with
 | done h1 h2=>
   intro _
   rw[h2,List.drop_length]
   rfl
 | @live s s' t o c A a2 ho hb=>
   intro hc
   obtain⟨hlt,e⟩:=List.getElem?_eq_some_iff.1 ho
   have hb2:=ok.beg _ _ _ _ hb
   show _=advG m ((p.ops i).drop t.k) (ab.s s) (ab.t t)
   rw[List.drop_eq_getElem_cons hlt,e]
   simp only[advG]
   rw[← hb2]
   rfl
 | @imm s s' t o an row y ho hb _ ih=>
   intro hc
   obtain⟨hlt,e⟩:=List.getElem?_eq_some_iff.1 ho
   have hb2:=ok.beg _ _ _ _ hb
   have ih:=ih rfl
   show _=advG m ((p.ops i).drop t.k) (ab.s s) (ab.t t)
   rw[List.drop_eq_getElem_cons hlt,e]
   simp only[advG]
   rw[← hb2]
   simp only[Abs.r]
   rw[ih]
   simp[Abs.t]
theorem stpG_abs(ok:ab.Ok){i:Nat}{a b:L.S×Thr L}(h:Stp L p i a b):(ab.s b.1,ab.t b.2)=stpG m (p.ops i) (ab.s a.1) (ab.t a.2):=by
 cases h with
 | @live s s' t c c' A a2 hc hb=>
   have hb2:=ok.stp _ _ _ hb
   have e:(ab.t t).call=some (ab.c c):=by simp[Abs.t,hc]
   show _=stpG m (p.ops i) (ab.s s) (ab.t t)
   simp only[stpG,e]
   rw[← hb2]
   rfl
 | @ans s s' t c A a2 an row y hc hb ha=>
   have hb2:=ok.stp _ _ _ hb
   have e:(ab.t t).call=some (ab.c c):=by simp[Abs.t,hc]
   have ih:=advG_abs ok ha rfl
   show _=stpG m (p.ops i) (ab.s s) (ab.t t)
   simp only[stpG,e]
   rw[← hb2]
   simp only[Abs.r]
   rw[ih]
   simp[Abs.t]
abbrev LUs(L:Lay)(p:Par)(g:Gate):Users:=opsUsers L p g
theorem putG_abs{x y:OX L}{i:Nat}{r:m.S×GT m}(hr:(ab.s y.s,ab.t (y.th i))=r)(h:∀j,j≠i→y.th j=x.th j):ab.x y=(ab.x x).put i r:=by
 subst hr
 simp only[Abs.x,GS.put,GS.mk.injEq,true_and]
 funext j
 by_cases e:j=i
 ·rw[if_pos e,e]
 ·rw[if_neg e,h j e]
theorem livG_abs(x:OX L)(j:Nat):(LUs L p g).liv x j=(ab.x x).live j:=by
 show(x.th j).call.isSome=((x.th j).call.map _).isSome
 rw[Option.isSome_map]
theorem bornG_abs(ok:ab.Ok){x y:OX L}{i:Nat}(hn:(LUs L p g).nw x i)(h:(LUs L p g).bor x i y):ab.x y=(ab.x x).put i (advG m (p.ops i) (ab.x x).q ((ab.x x).th i)):=by
 refine putG_abs ?_ h.2
 have h1:=advG_abs ok h.1 hn.1
 have h2:(x.th i).k=0:=hn.2
 rw[show(x.s,x.th i).2.k=0 from h2,List.drop_zero]at h1
 exact h1
theorem bornsG_abs(ok:ab.Ok)(zok:(LUs L p g).Ok g):∀(i:Nat) (x y:OX L),(∀j,j<i→(LUs L p g).nw x j)→Borns (LUs L p g) i x y→ab.x y=gBorns m p.ops i (ab.x x)
 | 0,x,y,_,h=>by
   have h:y=x:=h
   rw[h];rfl
 | i+1,x,z,hn,⟨y,h1,h2⟩=>by
   have e:=bornsG_abs ok zok i x y (fun j hj=>hn j (by omega)) h1
   have hny:(LUs L p g).nw y i:=borns_nw zok i x y h1 i (Nat.le_refl i) (hn i (by omega))
   simp only[gBorns]
   rw[← e]
   exact bornG_abs ok hny h2
theorem turnG_abs(ok:ab.Ok){n M:Nat}{s t:OX L×List Nat}{i:Int}(h:Turn (LUs L p g) n M s i t):(ab.x t.1,t.2)=gTurn p.ops n M (ab.x s.1,s.2) i:=by
 unfold Turn at h
 unfold gTurn
 simp only[← livG_abs (ab:=ab) (p:=p) (g:=g)]
 split at h
 ·rename_i hc
  rw[if_pos hc]
  obtain⟨h1,h2⟩:=h
  refine Prod.ext ?_ h2
  exact putG_abs (stpG_abs ok h1.1) h1.2
 ·rename_i hc
  rw[if_neg hc,h]
theorem turnsG_abs(ok:ab.Ok){n M:Nat}:∀(l:List Int) (s t:OX L×List Nat),Turns (LUs L p g) n M l s t→(ab.x t.1,t.2)=gTurns p.ops n M l (ab.x s.1,s.2)
 | [],s,t,h=>by
   have h:t=s:=h
   rw[h];rfl
 | i::l,s,t,⟨u,h1,h2⟩=>by
   simp only[gTurns]
   rw[← turnG_abs ok h1]
   exact turnsG_abs ok l u t h2
theorem roundsG_gen{Z:Users}{ops:Nat→List Op4}{n M:Nat}(ab:Z.X→GS m)(hl:∀x j,Z.liv x j=(ab x).live j)(ht:∀l s t,Turns Z n M l s t→(ab t.1,t.2)=gTurns ops n M l (ab s.1,s.2)){s t:Z.X×List Nat}(h:Rounds Z n M s t):gDone n M (ab t.1,t.2)∧∃k,∀f,k≤f→gRounds ops n M f (ab s.1,s.2)=(ab t.1,t.2):=by
 have hc:∀x,cnt (Z.liv x) n=cnt (ab x).live n:=fun x=>cnt_congr fun j _=>hl x j
 induction h with
 | done h=>
   rw[hc]at h
   have h:gDone n M (ab _,_):=h
   exact⟨h,0,fun f _=>gRounds_done h f⟩
 | more h1 h2 h3 _ ih=>
   obtain⟨hd,k,hk⟩:=ih
   refine⟨hd,k+1,fun f hf=>?_⟩
   obtain⟨f,rfl⟩:∃e,f=e+1:=⟨f - 1,by omega⟩
   rw[hc]at h1
   simp only[gRounds]
   rw[if_neg (fun h=>h.elim (fun h=>by simp only at h;omega) fun h=>by simp only at h;omega),← ht _ _ _ h3]
   exact hk f (by omega)
theorem roundsG_abs(ok:ab.Ok){n M:Nat}{s t:OX L×List Nat}(h:Rounds (LUs L p g) n M s t):gDone n M (ab.x t.1,t.2)∧∃k,∀f,k≤f→gRounds p.ops n M f (ab.x s.1,s.2)=(ab.x t.1,t.2):=
 roundsG_gen (Z:=LUs L p g) ab.x livG_abs (turnsG_abs ok) h
theorem overG_abs(ok:ab.Ok)(zok:(LUs L p g).Ok g){n M:Nat}{S:List Int}{x0:OX L}(hnw:∀j,j<n→(LUs L p g).nw x0 j){t:OX L×List Nat}(h:OverRel (LUs L p g) n M S x0 t):gDone n M (ab.x t.1,t.2)∧∃k,∀f,k≤f→gOver p.ops n M S f (ab.x x0)=(ab.x t.1,t.2):=by
 obtain⟨x1,h1,s,h2,h3⟩:=h
 obtain⟨hd,k,hk⟩:=roundsG_abs ok h3
 refine⟨hd,k,fun f hf=>?_⟩
 rw[← hk f hf,turnsG_abs ok _ _ _ h2,bornsG_abs ok zok n x0 x1 hnw h1]
 rfl
end
section
structure SSt where
 ver:Int
 ws:List Int
structure SCl where
 kd:Nat
 ph:Nat
 r:Nat
 T:Nat
 v:Int
 i:Nat
 out:List Int
 vs:List Int
 a:Int
abbrev SAn:=Bool×Int×List Int
abbrev SRs:=SCl ⊕ SAn
abbrev w64(x:Int):Int:=IntKind.i64.wrap x
def triesOf(a:Int):Nat:=(min (max a 1) 1024).toNat
def opVals(n:Nat)(b c:Int):List Int:=(List.range n).map fun i:Nat=>w64 (b+w64 (i*c))
def SSt.begin(s:SSt)(o:Op4):SSt×SRs:=
 if o.kd=1 then(s,.inl ⟨1,0,0,triesOf o.a,0,0,[],opVals s.ws.length o.b o.c,0⟩)
 else if o.kd=2 then(s,.inl ⟨2,0,0,triesOf o.a,0,0,[],opVals s.ws.length o.b o.c,0⟩)
 else if o.kd=3 then(s,.inl ⟨3,0,0,triesOf o.a,0,0,[],[],0⟩)
 else if o.kd=4 then(s,.inl ⟨4,1,0,1,0,0,[],[],0⟩)
 else if o.kd=5 then(s,.inl ⟨5,0,0,1,0,0,[],[],o.a⟩)
 else(s,.inr (false,0,[]))
def SSt.again(s:SSt)(c:SCl):SSt×SRs:=if c.r+1<c.T then(s,.inl {c with ph:=0,r:=c.r+1,out:=[]})else(s,.inr (false,0,[]))
def oneW(kd:Nat)(x v:Int):Int:=if kd=1 then v else w64 (x+v)
def SSt.wstep(s:SSt)(c:SCl):SSt×SRs:=
 if c.ph=0 then(if s.ver.tmod 2=0 then(s,.inl {c with v:=s.ver,ph:=1})else s.again c)
 else if c.ph=1 then(if s.ver=c.v then({s with ver:=w64 (c.v+1)},.inl {c with ph:=2,i:=0})else s.again c)
 else if c.ph=2 then({s with ws:=s.ws.set c.i (oneW c.kd (s.ws.getD c.i 0) (c.vs.getD c.i 0))},.inl (if c.i+1<s.ws.length then{c with i:=c.i+1}else{c with ph:=3}))
 else({s with ver:=w64 (c.v+2)},.inr (true,0,[]))
def SSt.rstep(s:SSt)(c:SCl):SSt×SRs:=
 if c.ph=0 then(if s.ver.tmod 2=0 then(s,.inl {c with v:=s.ver,ph:=1,i:=0,out:=[]})else s.again c)
 else if c.ph=1 then(s,.inl (if c.i+1<s.ws.length then{c with i:=c.i+1,out:=c.out++[s.ws.getD c.i 0]}else{c with ph:=2,out:=c.out++[s.ws.getD c.i 0]}))
 else(if s.ver=c.v then(s,.inr (true,0,c.out))else s.again c)
def SSt.step(s:SSt)(c:SCl):SSt×SRs:=
 if c.kd=1∨c.kd=2 then s.wstep c
 else if c.kd=3 then s.rstep c
 else if c.kd=4 then(if c.i+1<s.ws.length then(s,.inl {c with i:=c.i+1,out:=c.out++[s.ws.getD c.i 0]})else(s,.inr (true,0,c.out++[s.ws.getD c.i 0])))
 else(s,.inr (decide (c.a<s.ver),s.ver,[]))
def SPl:Pl:=⟨SSt,SCl,SAn,SSt.begin,SSt.step⟩
def snew(vs:List Int):SSt:=⟨0,(List.range (min (max vs.length 1) 16)).map fun i:Nat=>vs.getD i 0⟩
def SSt.state(s:SSt):List Int:=s.ver::s.ws
structure SWf(s:SSt):Prop where
 n1:0<s.ws.length
 n2:s.ws.length≤16
theorem triesOf_pos(a:Int):0<triesOf a∧triesOf a≤1024:=by unfold triesOf;omega
theorem opVals_len(n:Nat)(b c:Int):(opVals n b c).length=n:=by simp[opVals]
theorem again_len(s:SSt)(c:SCl):(s.again c).1=s:=by unfold SSt.again;split<;>rfl
theorem sstep_len(s:SSt)(c:SCl):(s.step c).1.ws.length=s.ws.length:=by
 unfold SSt.step SSt.wstep SSt.rstep
 repeat' split
 all_goals simp[again_len]
end
noncomputable section
section
variable{P:Program}{F:Fz}{w w':World}{main:Bool}{b:Frame}{a:Act}{kk:List Item}{cs:List Frame}{ops:Array Oper}{i:Nat}{rest:List Nat}{o:Oper}{Stop:Goroutine→World→Prop}{f:FuncId}{fn:Func}{ats:Array TypeId}{k:IntKind}
theorem own_add_int{x y:Operand}(ho:ops[i]? =some o)(hw:Region.wanted o (yielded ops a.tmps)=true)(hk:b.kind≠.early)(hop:o.op= .call {callee:=.value (.func f),args:= #[x,y],argTypes:=ats})
 (hf : P.funcs[f]? = some fn) (hname : (fn.name == "runtime.NumGoroutine") = false) (hb : fn.body.isNone = true) (hn : Extern.findNext fn = none)
 (he:Extern.find fn=some (Extern.Atomic.update (Op.intArith .add) k true)) {ad:Addr} {v n:Int} (hs:ad.spot=none) (hx:a.eval x= .pointer (some ad)) (hy:a.eval y= .int k n) (hc:w.cell? ad=some (.int k v)) (hfz:w.frozen? ad=false) (hnh:¬held F ad)
 (h:Own P main F Stop (G (b.at (a.put o.dst (.int k (k.wrap (v+n)))) (.inRegion ops rest::kk)) cs) (w.setCell ad (.int k (k.wrap (v+n))))):Own P main F Stop (G (b.at a (.inRegion ops (i::rest)::kk)) cs) w:=by
 have e1:execOp a.eval o=callFunc f #[.pointer (some ad),.int k n]:=exec_extern hop (by simp[hx,hy])
 refine own_val (w':=w.setCell ad (.int k (k.wrap (v+n)))) ho hw hk (fun d=>?_) (fun d=>⟨0,by simpa [setCell_at']using grew_setCell (w:=w.at d) hs hnh (.int k (k.wrap (v+n)))⟩) (fun d e hm=>?_) h
 ·have hc':(w.at d).cell? ad=some (.int k v):=hc
  have hz':(w.at d).frozen? ad=false:=hfz
  rw[e1,run_callFunc_extern hf hname hb hn he]
  change(Sem.run P (do
   let a' ← asAddr (.pointer (some ad))
   let old ← Extern.Atomic.read (.int k) a'
   let new ← Op.intArith .add k (← asInt old) (← asInt (.int k n))
   store a' new .atomic
   pure (if true then new else old)) (w.at d)).andThen _=_
  simp[Extern.Atomic.read,Op.intArith,asAddr,asInt,asIntOf,hc',hz',run_store P (w.at d) ad (.int k (k.wrap (v+n))) .atomic rfl,Result.andThen,setCell_at']
 ·have hc':(w.at d).cell? ad=some (.int k v):=hc
  have hz':(w.at d).frozen? ad=false:=hfz
  rw[e1,events_callFunc_extern hf hname hb hn he]at hm
  change e∈Sem.events P (do
   let a' ← asAddr (.pointer (some ad))
   let old ← Extern.Atomic.read (.int k) a'
   let new ← Op.intArith .add k (← asInt old) (← asInt (.int k n))
   store a' new .atomic
   pure (if true then new else old)) (w.at d) _ at hm
  simp[Extern.Atomic.read,Op.intArith,asAddr,asInt,asIntOf,hc',hz',events_load,run_store P (w.at d) ad (.int k (k.wrap (v+n))) .atomic rfl,events_store P (w.at d) _ ad (.int k (k.wrap (v+n))) .atomic rfl]at hm
  rcases hm with rfl|rfl|rfl
  ·exact evT_ext f
  ·exact evT_read _ _
  ·exact evT_write _ _ hnh
end
variable{F:Fz}{w:World}
@[go_sem] theorem neq_nil2E(w:World)(es:Array Event):(binOp .neq 105 .nilIface .nilIface).events Try.prog w es=es:=by kernel_rfl
def sstBody:Code:=Try.f61.body.getD .skip
def ssts0:=pC [] sstBody
def sstr0:=pC [zt] sstBody
def sstc3:=pC [zf] sstBody
def sstr1:=pC [zf,zt] sstBody
theorem ssts0':ssts0= .seq sstr0 sstc3:=by kernel_rfl
theorem sstr0':sstr0= .region 0 (oC sstr0) false:=by kernel_rfl
theorem sstc3':sstc3= .cond (.tmp 3) sstr1 .skip:=by kernel_rfl
theorem sstr1':sstr1= .region 1 (oC sstr1) false:=by kernel_rfl
theorem enter_sst(args:Array Value):Frame.enter Try.prog 61 args .normal=(Go.Conc.base 61).at {tmps:=args++Array.replicate (6 - args.size) undef,defers:=[]} [.code ssts0]:=enter_at args Try.func61 rfl
theorem callable61:Callable 61:=callable Try.func61 rfl rfl
def sicBody:Code:=Try.f108.body.getD .skip
def sics0:=pC [] sicBody
def sicr0:=pC [zt] sicBody
def sics1:=pC [zf] sicBody
def sicr1:=pC [zf,zt] sicBody
theorem sics0':sics0= .seq sicr0 sics1:=by kernel_rfl
theorem sicr0':sicr0= .region 0 (oC sicr0) false:=by kernel_rfl
theorem sics1':sics1= .seq sicr1 .ret:=by kernel_rfl
theorem sicr1':sicr1= .region 1 (oC sicr1) false:=by kernel_rfl
theorem enter_sic(args:Array Value):Frame.enter Try.prog 108 args .normal=(Go.Conc.base 108).at {tmps:=args++Array.replicate (13 - args.size) undef,defers:=[]} [.code sics0]:=enter_at args Try.func108 rfl
theorem callable108:Callable 108:=callable Try.func108 rfl rfl
def siaBody:Code:=Try.f59.body.getD .skip
def sias0:=pC [] siaBody
def siar0:=pC [zt] siaBody
def sias1:=pC [zf] siaBody
def siar1:=pC [zf,zt] siaBody
theorem sias0':sias0= .seq siar0 sias1:=by kernel_rfl
theorem siar0':siar0= .region 0 (oC siar0) false:=by kernel_rfl
theorem sias1':sias1= .seq siar1 .ret:=by kernel_rfl
theorem siar1':siar1= .region 1 (oC siar1) false:=by kernel_rfl
theorem enter_sia(args:Array Value):Frame.enter Try.prog 59 args .normal=(Go.Conc.base 59).at {tmps:=args++Array.replicate (10 - args.size) undef,defers:=[]} [.code sias0]:=enter_at args Try.func59 rfl
theorem callable59:Callable 59:=callable Try.func59 rfl rfl
def sstFr(K:StK)(sa:Addr):Frame:=(Go.Conc.base 61).at ⟨#[.iface K.t (.pointer (some sa)),undef,.iface K.t (.pointer (some sa)),.bool true,.iface K.t (.pointer (some sa)),undef],[]⟩ [.inRegion (oC sstr1) [1]]
theorem own_sst_call{K:StK}{sa:Addr}{cs:List Frame}{main:Bool}{Stop:Goroutine→World→Prop}(h:Own Try.prog main F Stop (G (Frame.enter Try.prog K.f #[.pointer (some sa)] .normal) (sstFr K sa::cs)) w):
 Own Try.prog main F Stop (G (Frame.enter Try.prog 61 #[.iface K.t (.pointer (some sa))] .normal) cs) w:=by
 rw[enter_sst]
 walk_nrm
 refine ogSR ssts0' sstr0' ?_
 simp only[sstr0,sstBody,Try.f61,zz,Nat.reduceAdd]
 iterate 2 (refine oW fun dd K hK=>?_;go_simp;refine qT hK ?_;clear hK K)
 refine ogE ?_
 rw[sstc3']
 refine ogT ?_
 simp only[if_true]
 rw[sstr1']
 refine ogR ?_
 simp only[sstr1,sstBody,Try.f61,zz,Nat.reduceAdd]
 (refine oW fun dd K hK=>?_;go_simp;refine qT hK ?_;clear hK K)
 refine own_call (f:=K.f) (args:= #[.pointer (some sa)]) rfl rfl (by decide) (fun w=>by simp[execOp,Act.eval,resolve,invoke,Deferred.ofValue,K.cb.run,K.run]) (fun w=>by simp[execOp,Act.eval,resolve,invoke,Deferred.ofValue,K.cb.run,K.cb.quiet,K.run,K.ev]) ?_
 exact h
theorem own_sst_back{K:StK}{sa:Addr}{c:Frame}{cs:List Frame}{main:Bool}{Stop:Goroutine→World→Prop}(h:Own Try.prog main F Stop (G (c.finish (.tuple #[])) cs) w):
 Own Try.prog main F Stop (G ((sstFr K sa).finish (.tuple #[])) (c::cs)) w:=by
 unfold sstFr
 rw[Frame.finish_at]
 simp only[sstr1,sstBody,Try.f61,zz,Nat.reduceAdd]
 walk_nrm
 refine ogE ?_
 refine own_go rfl (fun d=>stepG_end) ?_
 refine own_go rfl (fun d=>stepG_leave (fn:=Try.f61) (v:=.tuple #[]) rfl rfl Try.func61 (by simp[results,Try.f61]) (by simp[results,Try.f61,go_sem])) ?_
 exact h
theorem own_sst_nil{c:Frame}{cs:List Frame}{main:Bool}{Stop:Goroutine→World→Prop}(h:Own Try.prog main F Stop (G (c.finish (.tuple #[])) cs) w):
 Own Try.prog main F Stop (G (Frame.enter Try.prog 61 #[.nilIface] .normal) (c::cs)) w:=by
 rw[enter_sst]
 walk_nrm
 refine ogSR ssts0' sstr0' ?_
 simp only[sstr0,sstBody,Try.f61,zz,Nat.reduceAdd]
 iterate 2 (refine oW fun dd K hK=>?_;go_simp;refine qT hK ?_;clear hK K)
 refine ogE ?_
 rw[sstc3']
 refine ogF ?_
 simp only[Bool.false_eq_true,if_false]
 refine ogK ?_
 refine own_go rfl (fun d=>stepG_end) ?_
 refine own_go rfl (fun d=>stepG_leave (fn:=Try.f61) (v:=.tuple #[]) rfl rfl Try.func61 (by simp[results,Try.f61]) (by simp[results,Try.f61,go_sem])) ?_
 exact h
theorem own_casI{ad:Addr}{v u n:Int}{t:Bool}(ht:(v == u)=t)(hc:w.cell? ad=some (.int .i64 v))(hs:ad.spot=none)(hz:w.frozen? ad=false)(hnh:¬held F ad){c:Frame}{cs:List Frame}{main:Bool}{Stop:Goroutine→World→Prop}(h:Own Try.prog main F Stop (G (c.finish (.bool t)) cs) (if t then w.setCell ad (.int .i64 n)else w)):
 Own Try.prog main F Stop (G (Frame.enter Try.prog 108 #[.pointer (some ad),.int .i64 u,.int .i64 n] .normal) (c::cs)) w:=by
 obtain⟨ab,ao,asp⟩:=ad
 simp only at hs
 subst hs
 rw[enter_sic]
 walk_nrm
 refine ogSR sics0' sicr0' ?_
 simp only[sicr0,sicBody,Try.f108,zz,Nat.reduceAdd]
 (refine oW fun dd K hK=>?_;go_simp;refine qT hK ?_;clear hK K)
 refine ogE ?_
 refine ogSR sics1' sicr1' ?_
 simp only[sicr1,sicBody,Try.f108,zz,Nat.reduceAdd]
 iterate 5 (refine oW fun dd K hK=>?_;go_simp;refine qT hK ?_;clear hK K)
 refine own_cas_int (k:=.i64) (f:=113) (fn:=Try.f113) rfl rfl (by decide) rfl Try.func113 rfl rfl rfl rfl ht rfl rfl rfl rfl hc hz hnh ?_
 walk_nrm
 (refine oW fun dd K hK=>?_;go_simp;refine qT hK ?_;clear hK K)
 refine ogE ?_
 refine ogX ?_
 refine own_go rfl (fun d=>stepG_leave (fn:=Try.f108) (v:=.bool t) rfl rfl Try.func108 (by simp[results,Try.f108]) (by simp[results,Try.f108,go_sem])) ?_
 exact h
theorem own_addI{ad:Addr}{v n:Int}(hc:w.cell? ad=some (.int .i64 v))(hs:ad.spot=none)(hz:w.frozen? ad=false)(hnh:¬held F ad){c:Frame}{cs:List Frame}{main:Bool}{Stop:Goroutine→World→Prop}(h:Own Try.prog main F Stop (G (c.finish (.int .i64 (IntKind.i64.wrap (v+n)))) cs) (w.setCell ad (.int .i64 (IntKind.i64.wrap (v+n))))):
 Own Try.prog main F Stop (G (Frame.enter Try.prog 59 #[.pointer (some ad),.int .i64 n] .normal) (c::cs)) w:=by
 obtain⟨ab,ao,asp⟩:=ad
 simp only at hs
 subst hs
 rw[enter_sia]
 walk_nrm
 refine ogSR sias0' siar0' ?_
 simp only[siar0,siaBody,Try.f59,zz,Nat.reduceAdd]
 (refine oW fun dd K hK=>?_;go_simp;refine qT hK ?_;clear hK K)
 refine ogE ?_
 refine ogSR sias1' siar1' ?_
 simp only[siar1,siaBody,Try.f59,zz,Nat.reduceAdd]
 iterate 4 (refine oW fun dd K hK=>?_;go_simp;refine qT hK ?_;clear hK K)
 refine own_add_int (k:=.i64) (f:=90) (fn:=Try.f90) rfl rfl (by decide) rfl Try.func90 rfl rfl rfl rfl rfl rfl rfl hc hz hnh ?_
 walk_nrm
 (refine oW fun dd K hK=>?_;go_simp;refine qT hK ?_;clear hK K)
 refine ogE ?_
 refine ogX ?_
 refine own_go rfl (fun d=>stepG_leave (fn:=Try.f59) (v:=.int .i64 (IntKind.i64.wrap (v+n))) rfl rfl Try.func59 (by simp[results,Try.f59]) (by simp[results,Try.f59,go_sem])) ?_
 exact h
end
noncomputable section
variable{F:Fz}{w:World}
structure SH(lb wb wo n:Nat)(w:World):Prop where
 c2:w.cell? ⟨lb,2,none⟩=some (.slice (some ⟨wb,wo,none⟩) n n)∨(w.cell? ⟨lb,2,none⟩=some (.slice none 0 0)∧wb=lb∧wo=1∧n=1)
 n1:0<n
 n2:n≤16
theorem SH.at{lb wb wo n:Nat}{w:World}(h:SH lb wb wo n w)(d:Nat):SH lb wb wo n (w.at d):=⟨h.c2,h.n1,h.n2⟩
@[go_sem] theorem ev_sl61(a:Addr)(w:World)(es:Array Event):(Instr.sliceAt 61 (.pointer (some a)) none none none).events Try.prog w es=es:=by kernel_rfl
@[go_sem] theorem eql_nilE35(a:Addr)(w:World)(es:Array Event):(binOp .eql 35 (.pointer (some a)) (.pointer none)).events Try.prog w es=es:=by kernel_rfl
@[go_sem] theorem eql_nilE35n(w:World)(es:Array Event):(binOp .eql 35 (.pointer none) (.pointer none)).events Try.prog w es=es:=by kernel_rfl
def swdBody:Code:=Try.f53.body.getD .skip
def swds0:=pC [] swdBody
def swdr0:=pC [zt] swdBody
def swds1:=pC [zf] swdBody
def swdb0:=pC [zf,zt] swdBody
def swds2:=pC [zf,zt,zt] swdBody
def swdr1:=pC [zf,zt,zt,zt] swdBody
def swdc3:=pC [zf,zt,zt,zf] swdBody
def swds3:=pC [zf,zt,zt,zf,zt] swdBody
def swds4:=pC [zf,zt,zt,zf,zf] swdBody
def swdr3:=pC [zf,zt,zt,zf,zf,zt] swdBody
def swdc6:=pC [zf,zt,zt,zf,zf,zf] swdBody
def swds5:=pC [zf,zt,zt,zf,zf,zf,zt] swdBody
def swdr4:=pC [zf,zt,zt,zf,zf,zf,zt,zt] swdBody
def swds6:=pC [zf,zf] swdBody
def swdr5:=pC [zf,zf,zt] swdBody
theorem swds0':swds0= .seq swdr0 swds1:=by kernel_rfl
theorem swdr0':swdr0= .region 0 (oC swdr0) false:=by kernel_rfl
theorem swds1':swds1= .seq swdb0 swds6:=by kernel_rfl
theorem swdb0':swdb0= .block 0 swds2:=by kernel_rfl
theorem swds2':swds2= .seq swdr1 swdc3:=by kernel_rfl
theorem swdr1':swdr1= .region 1 (oC swdr1) false:=by kernel_rfl
theorem swdc3':swdc3= .cond (.tmp 3) swds3 swds4:=by kernel_rfl
theorem swds4':swds4= .seq swdr3 swdc6:=by kernel_rfl
theorem swdr3':swdr3= .region 3 (oC swdr3) false:=by kernel_rfl
theorem swdc6':swdc6= .cond (.tmp 6) swds5 .skip:=by kernel_rfl
theorem swds5':swds5= .seq swdr4 .ret:=by kernel_rfl
theorem swdr4':swdr4= .region 4 (oC swdr4) false:=by kernel_rfl
theorem swds6':swds6= .seq swdr5 .ret:=by kernel_rfl
theorem swdr5':swdr5= .region 5 (oC swdr5) false:=by kernel_rfl
theorem enter_swd(args:Array Value):Frame.enter Try.prog 53 args .normal=(Go.Conc.base 53).at {tmps:=args++Array.replicate (21 - args.size) undef,defers:=[]} [.code swds0]:=enter_at args Try.func53 rfl
theorem callable53:Callable 53:=callable Try.func53 rfl rfl
theorem own_words0{lb wb wo n:Nat}(c2:w.cell? ⟨lb,2,none⟩=some (.slice (some ⟨wb,wo,none⟩) n n))(n1:0<n){c:Frame}{cs:List Frame}{main:Bool}{Stop:Goroutine→World→Prop}
 (h:Own Try.prog main F Stop (G (c.finish (.slice (some ⟨wb,wo,none⟩) n n)) cs) w):
 Own Try.prog main F Stop (G (Frame.enter Try.prog 53 #[.pointer (some ⟨lb,0,none⟩)] .normal) (c::cs)) w:=by
 have hn:((n:Int) == 0)=false:=by simp;omega
 rw[enter_swd]
 walk_nrm
 refine ogSR swds0' swdr0' ?_
 simp only[swdr0,swdBody,Try.f53,zz,Nat.reduceAdd]
 (refine oW fun dd K hK=>?_;go_simp;refine qT hK ?_;clear hK K)
 refine ogE ?_
 refine ogSE swds1' ?_
 rw[swdb0']
 refine ogB ?_
 refine ogSR swds2' swdr1' ?_
 simp only[swdr1,swdBody,Try.f53,zz,Nat.reduceAdd]
 iterate 3 (refine oW fun dd K hK=>?_;go_simp;refine qT hK ?_;clear hK K)
 refine ogE ?_
 rw[swdc3']
 refine ogF ?_
 simp only[Bool.false_eq_true,if_false]
 refine ogSR swds4' swdr3' ?_
 simp only[swdr3,swdBody,Try.f53,zz,Nat.reduceAdd]
 iterate 3 (refine oW fun dd K hK=>?_;go_simp;refine qT hK ?_;clear hK K)
 (refine oW fun dd K hK=>?_;go_simp;refine qL hK ?_;clear hK K)
 iterate 3 (refine oW fun dd K hK=>?_;go_simp;refine qT hK ?_;clear hK K)
 refine ogE ?_
 rw[swdc6']
 refine ogF ?_
 simp only[Bool.false_eq_true,if_false]
 refine ogK ?_
 refine ogI ?_
 refine ogSR swds6' swdr5' ?_
 simp only[swdr5,swdBody,Try.f53,zz,Nat.reduceAdd]
 iterate 3 (refine oW fun dd K hK=>?_;go_simp;refine qT hK ?_;clear hK K)
 (refine oW fun dd K hK=>?_;go_simp;refine qL hK ?_;clear hK K)
 (refine oW fun dd K hK=>?_;go_simp;refine qT hK ?_;clear hK K)
 refine ogE ?_
 refine ogX ?_
 refine own_go rfl (fun d=>stepG_leave (fn:=Try.f53) (v:=.slice (some ⟨wb,wo,none⟩) n n) rfl rfl Try.func53 (by simp[results,Try.f53]) (by simp[results,Try.f53,go_sem])) ?_
 exact h
theorem own_words1{lb:Nat}(c2:w.cell? ⟨lb,2,none⟩=some (.slice none 0 0)){c:Frame}{cs:List Frame}{main:Bool}{Stop:Goroutine→World→Prop}
 (h:Own Try.prog main F Stop (G (c.finish (.slice (some ⟨lb,1,none⟩) 1 1)) cs) w):
 Own Try.prog main F Stop (G (Frame.enter Try.prog 53 #[.pointer (some ⟨lb,0,none⟩)] .normal) (c::cs)) w:=by
 rw[enter_swd]
 walk_nrm
 refine ogSR swds0' swdr0' ?_
 simp only[swdr0,swdBody,Try.f53,zz,Nat.reduceAdd]
 (refine oW fun dd K hK=>?_;go_simp;refine qT hK ?_;clear hK K)
 refine ogE ?_
 refine ogSE swds1' ?_
 rw[swdb0']
 refine ogB ?_
 refine ogSR swds2' swdr1' ?_
 simp only[swdr1,swdBody,Try.f53,zz,Nat.reduceAdd]
 iterate 3 (refine oW fun dd K hK=>?_;go_simp;refine qT hK ?_;clear hK K)
 refine ogE ?_
 rw[swdc3']
 refine ogF ?_
 simp only[Bool.false_eq_true,if_false]
 refine ogSR swds4' swdr3' ?_
 simp only[swdr3,swdBody,Try.f53,zz,Nat.reduceAdd]
 iterate 3 (refine oW fun dd K hK=>?_;go_simp;refine qT hK ?_;clear hK K)
 (refine oW fun dd K hK=>?_;go_simp;refine qL hK ?_;clear hK K)
 iterate 3 (refine oW fun dd K hK=>?_;go_simp;refine qT hK ?_;clear hK K)
 refine ogE ?_
 rw[swdc6']
 refine ogT ?_
 simp only[if_true]
 refine ogSR swds5' swdr4' ?_
 simp only[swdr4,swdBody,Try.f53,zz,Nat.reduceAdd]
 iterate 5 (refine oW fun dd K hK=>?_;go_simp;refine qT hK ?_;clear hK K)
 refine ogE ?_
 refine ogX ?_
 refine own_go rfl (fun d=>stepG_leave (fn:=Try.f53) (v:=.slice (some ⟨lb,1,none⟩) 1 1) rfl rfl Try.func53 (by simp[results,Try.f53]) (by simp[results,Try.f53,go_sem])) ?_
 exact h
theorem own_words{lb wb wo n:Nat}(hs:SH lb wb wo n w){c:Frame}{cs:List Frame}{main:Bool}{Stop:Goroutine→World→Prop}
 (h:Own Try.prog main F Stop (G (c.finish (.slice (some ⟨wb,wo,none⟩) n n)) cs) w):
 Own Try.prog main F Stop (G (Frame.enter Try.prog 53 #[.pointer (some ⟨lb,0,none⟩)] .normal) (c::cs)) w:=by
 rcases hs.c2 with h2|⟨h2,rfl,rfl,rfl⟩
 ·exact own_words0 h2 hs.n1 h
 ·exact own_words1 h2 h
def slnBody:Code:=Try.f18.body.getD .skip
def slns0:=pC [] slnBody
def slnr0:=pC [zt] slnBody
def slns1:=pC [zf] slnBody
def slnr1:=pC [zf,zt] slnBody
theorem slns0':slns0= .seq slnr0 slns1:=by kernel_rfl
theorem slnr0':slnr0= .region 0 (oC slnr0) false:=by kernel_rfl
theorem slns1':slns1= .seq slnr1 .ret:=by kernel_rfl
theorem slnr1':slnr1= .region 1 (oC slnr1) false:=by kernel_rfl
theorem enter_sln(args:Array Value):Frame.enter Try.prog 18 args .normal=(Go.Conc.base 18).at {tmps:=args++Array.replicate (6 - args.size) undef,defers:=[]} [.code slns0]:=enter_at args Try.func18 rfl
theorem callable18:Callable 18:=callable Try.func18 rfl rfl
theorem own_len{lb wb wo n:Nat}(hs:SH lb wb wo n w){c:Frame}{cs:List Frame}{main:Bool}{Stop:Goroutine→World→Prop}
 (h:Own Try.prog main F Stop (G (c.finish (.int .i64 n)) cs) w):
 Own Try.prog main F Stop (G (Frame.enter Try.prog 18 #[.pointer (some ⟨lb,0,none⟩)] .normal) (c::cs)) w:=by
 rw[enter_sln]
 walk_nrm
 refine ogSR slns0' slnr0' ?_
 simp only[slnr0,slnBody,Try.f18,zz,Nat.reduceAdd]
 (refine oW fun dd K hK=>?_;go_simp;refine qT hK ?_;clear hK K)
 refine ogE ?_
 refine ogSR slns1' slnr1' ?_
 simp only[slnr1,slnBody,Try.f18,zz,Nat.reduceAdd]
 (refine oW fun dd K hK=>?_;go_simp;refine qT hK ?_;clear hK K)
 refine oc callable53 #[.pointer (some ⟨lb,0,none⟩)] ?_
 refine own_words hs ?_
 rw[Frame.finish_at]
 walk_nrm
 iterate 2 (refine oW fun dd K hK=>?_;go_simp;refine qT hK ?_;clear hK K)
 refine ogE ?_
 refine ogX ?_
 refine own_go rfl (fun d=>stepG_leave (fn:=Try.f18) (v:=.int .i64 n) rfl rfl Try.func18 (by simp[results,Try.f18]) (by simp[results,Try.f18,go_sem])) ?_
 exact h
def strBody:Code:=Try.f60.body.getD .skip
def strs0:=pC [] strBody
def strr0:=pC [zt] strBody
def strs1:=pC [zf] strBody
def strr1:=pC [zf,zt] strBody
theorem strs0':strs0= .seq strr0 strs1:=by kernel_rfl
theorem strr0':strr0= .region 0 (oC strr0) false:=by kernel_rfl
theorem strs1':strs1= .seq strr1 .ret:=by kernel_rfl
theorem strr1':strr1= .region 1 (oC strr1) false:=by kernel_rfl
theorem enter_str(args:Array Value):Frame.enter Try.prog 60 args .normal=(Go.Conc.base 60).at {tmps:=args++Array.replicate (6 - args.size) undef,defers:=[]} [.code strs0]:=enter_at args Try.func60 rfl
theorem callable60:Callable 60:=callable Try.func60 rfl rfl
theorem own_tried{a:Int}{c:Frame}{cs:List Frame}{main:Bool}{Stop:Goroutine→World→Prop}
 (h:Own Try.prog main F Stop (G (c.finish (.int .i64 (triesOf a))) cs) w):
 Own Try.prog main F Stop (G (Frame.enter Try.prog 60 #[.int .i64 a] .normal) (c::cs)) w:=by
 rw[enter_str]
 walk_nrm
 refine ogSR strs0' strr0' ?_
 simp only[strr0,strBody,Try.f60,zz,Nat.reduceAdd]
 (refine oW fun dd K hK=>?_;go_simp;refine qT hK ?_;clear hK K)
 refine ogE ?_
 refine ogSR strs1' strr1' ?_
 simp only[strr1,strBody,Try.f60,zz,Nat.reduceAdd]
 iterate 4 (refine oW fun dd K hK=>?_;go_simp;refine qT hK ?_;clear hK K)
 refine ogE ?_
 refine ogX ?_
 have e:(if(1024:Int)<if a<1 then 1 else a then 1024 else if a<1 then 1 else a)=(triesOf a:Nat):=by unfold triesOf;split<;>split<;>omega
 refine own_go rfl (fun d=>stepG_leave (fn:=Try.f60) (v:=.int .i64 (triesOf a)) rfl rfl Try.func60 (by simp[results,Try.f60,e]) (by simp[results,Try.f60,go_sem,e])) ?_
 exact h
def sbgBody:Code:=Try.f89.body.getD .skip
def sbgs0:=pC [] sbgBody
def sbgr0:=pC [zt] sbgBody
def sbgs1:=pC [zf] sbgBody
def sbgr1:=pC [zf,zt] sbgBody
def sbgs2:=pC [zf,zf] sbgBody
def sbgr2:=pC [zf,zf,zt] sbgBody
def sbgs3:=pC [zf,zf,zf] sbgBody
def sbgs4:=pC [zf,zf,zf,zt] sbgBody
def sbgr3:=pC [zf,zf,zf,zt,zt] sbgBody
def sbgc15:=pC [zf,zf,zf,zt,zf] sbgBody
def sbgs5:=pC [zf,zf,zf,zt,zf,zt] sbgBody
def sbgr4:=pC [zf,zf,zf,zt,zf,zt,zt] sbgBody
def sbgs6:=pC [zf,zf,zf,zf] sbgBody
def sbgr5:=pC [zf,zf,zf,zf,zt] sbgBody
def sbgs7:=pC [zf,zf,zf,zf,zf] sbgBody
def sbgr6:=pC [zf,zf,zf,zf,zf,zt] sbgBody
theorem sbgs0':sbgs0= .seq sbgr0 sbgs1:=by kernel_rfl
theorem sbgr0':sbgr0= .region 0 (oC sbgr0) false:=by kernel_rfl
theorem sbgs1':sbgs1= .seq sbgr1 sbgs2:=by kernel_rfl
theorem sbgr1':sbgr1= .region 1 (oC sbgr1) false:=by kernel_rfl
theorem sbgs2':sbgs2= .seq sbgr2 sbgs3:=by kernel_rfl
theorem sbgr2':sbgr2= .region 2 (oC sbgr2) false:=by kernel_rfl
theorem sbgs3':sbgs3= .seq sbgs4 sbgs6:=by kernel_rfl
theorem sbgs4':sbgs4= .seq sbgr3 sbgc15:=by kernel_rfl
theorem sbgr3':sbgr3= .region 3 (oC sbgr3) false:=by kernel_rfl
theorem sbgc15':sbgc15= .cond (.tmp 15) sbgs5 .skip:=by kernel_rfl
theorem sbgs5':sbgs5= .seq sbgr4 .ret:=by kernel_rfl
theorem sbgr4':sbgr4= .region 4 (oC sbgr4) false:=by kernel_rfl
theorem sbgs6':sbgs6= .seq sbgr5 sbgs7:=by kernel_rfl
theorem sbgr5':sbgr5= .region 5 (oC sbgr5) false:=by kernel_rfl
theorem sbgs7':sbgs7= .seq sbgr6 .ret:=by kernel_rfl
theorem sbgr6':sbgr6= .region 6 (oC sbgr6) false:=by kernel_rfl
theorem enter_sbg(args:Array Value):Frame.enter Try.prog 89 args .normal=(Go.Conc.base 89).at {tmps:=args++Array.replicate (26 - args.size) undef,defers:=[]} [.code sbgs0]:=enter_at args Try.func89 rfl
theorem callable89:Callable 89:=callable Try.func89 rfl rfl
def sbgT(s:Nat→Value):Array Value:= #[s 0,s 1,s 2,s 3,s 4,s 5,s 6,s 7,s 8,s 9,s 10,s 11,s 12,s 13,s 14,s 15,s 16,s 17,s 18,s 19,s 20,s 21,s 22,s 23,s 24,s 25]
theorem sbgT_of{A:Array Value}(h:A.size=26):∃s,A=sbgT s:=by
 obtain⟨s,hs,_⟩:=arr_lit A h
 exact⟨s,hs⟩
theorem bg_0{sv:Value}{lb:Nat}{cs:List Frame}{main:Bool}{Stop:Goroutine→World→Prop}
 (h:∀A,Slots 26 A [(0,.pointer (some ⟨lb,0,none⟩)),(1,sv)]→Own Try.prog main F Stop (G (Frame.enter Try.prog 61 #[sv] .normal) (((Go.Conc.base 89).at ⟨A,[]⟩ [.inRegion (oC sbgr1) [1],.code sbgs2])::cs)) w):
 Own Try.prog main F Stop (G (Frame.enter Try.prog 89 #[.pointer (some ⟨lb,0,none⟩),sv] .normal) cs) w:=by
 rw[enter_sbg]
 walk_nrm
 refine ogSR sbgs0' sbgr0' ?_
 simp only[sbgr0,sbgBody,Try.f89,zz,Nat.reduceAdd]
 iterate 2 (refine oW fun dd K hK=>?_;go_simp;refine qT hK ?_;clear hK K)
 refine ogE ?_
 refine ogSR sbgs1' sbgr1' ?_
 simp only[sbgr1,sbgBody,Try.f89,zz,Nat.reduceAdd]
 (refine oW fun dd K hK=>?_;go_simp;refine qT hK ?_;clear hK K)
 refine oc callable61 #[sv] ?_
 refine h _ ?_
 exact⟨rfl,rfl,rfl,trivial⟩
theorem bg_1a{sv:Value}{lb:Nat}{v:Int}(hv:(v.tmod 2 != 0)=true)(hc:w.cell? ⟨lb,0,none⟩=some (.int .i64 v)){A:Array Value}(hA:Slots 26 A [(0,.pointer (some ⟨lb,0,none⟩)),(1,sv)]){c:Frame}{cs:List Frame}{main:Bool}{Stop:Goroutine→World→Prop}
 (h:Own Try.prog main F Stop (G (c.finish (.tuple #[.int .i64 0,.bool false])) cs) w):
 Own Try.prog main F Stop (G (((Go.Conc.base 89).at ⟨A,[]⟩ [.inRegion (oC sbgr1) [1],.code sbgs2]).finish (.tuple #[])) (c::cs)) w:=by
 obtain⟨hsz,h0,h1,_⟩:=hA
 obtain⟨s,rfl⟩:=sbgT_of hsz
 change s 0=_ at h0
 change s 1=_ at h1
 clear hsz
 simp only[sbgT,h0,h1]
 clear h0 h1
 rw[Frame.finish_at]
 simp only[sbgr1,sbgBody,Try.f89,zz,Nat.reduceAdd]
 walk_nrm
 refine ogE ?_
 refine ogSR sbgs2' sbgr2' ?_
 simp only[sbgr2,sbgBody,Try.f89,zz,Nat.reduceAdd]
 iterate 3 (refine oW fun dd K hK=>?_;go_simp;refine qT hK ?_;clear hK K)
 refine oc callable54 #[.pointer (some ⟨lb,0,none⟩)] ?_
 refine own_ldI hc rfl ?_
 rw[Frame.finish_at]
 walk_nrm
 (refine oW fun dd K hK=>?_;go_simp;refine qT hK ?_;clear hK K)
 refine ogE ?_
 refine ogSE sbgs3' ?_
 refine ogSR sbgs4' sbgr3' ?_
 simp only[sbgr3,sbgBody,Try.f89,zz,Nat.reduceAdd]
 iterate 3 (refine oW fun dd K hK=>?_;go_simp;refine qT hK ?_;clear hK K)
 refine ogE ?_
 rw[sbgc15']
 refine ogT ?_
 simp only[if_true]
 refine ogSR sbgs5' sbgr4' ?_
 simp only[sbgr4,sbgBody,Try.f89,zz,Nat.reduceAdd]
 iterate 2 (refine oW fun dd K hK=>?_;go_simp;refine qT hK ?_;clear hK K)
 refine ogE ?_
 refine ogX ?_
 refine own_go rfl (fun d=>stepG_leave (fn:=Try.f89) (v:=.tuple #[.int .i64 0,.bool false]) rfl rfl Try.func89 (by simp[results,Try.f89]) (by simp[results,Try.f89,go_sem])) ?_
 exact h
theorem bg_1b{sv:Value}{lb:Nat}{v:Int}(hv:(v.tmod 2 != 0)=false)(hc:w.cell? ⟨lb,0,none⟩=some (.int .i64 v)){A:Array Value}(hA:Slots 26 A [(0,.pointer (some ⟨lb,0,none⟩)),(1,sv)]){cs:List Frame}{main:Bool}{Stop:Goroutine→World→Prop}
 (h:∀A,Slots 26 A [(0,.pointer (some ⟨lb,0,none⟩)),(1,sv),(6,.int .i64 v)]→Own Try.prog main F Stop (G (Frame.enter Try.prog 61 #[sv] .normal) (((Go.Conc.base 89).at ⟨A,[]⟩ [.inRegion (oC sbgr5) [1],.code sbgs7])::cs)) w):
 Own Try.prog main F Stop (G (((Go.Conc.base 89).at ⟨A,[]⟩ [.inRegion (oC sbgr1) [1],.code sbgs2]).finish (.tuple #[])) (cs)) w:=by
 obtain⟨hsz,h0,h1,_⟩:=hA
 obtain⟨s,rfl⟩:=sbgT_of hsz
 change s 0=_ at h0
 change s 1=_ at h1
 clear hsz
 simp only[sbgT,h0,h1]
 clear h0 h1
 rw[Frame.finish_at]
 simp only[sbgr1,sbgBody,Try.f89,zz,Nat.reduceAdd]
 walk_nrm
 refine ogE ?_
 refine ogSR sbgs2' sbgr2' ?_
 simp only[sbgr2,sbgBody,Try.f89,zz,Nat.reduceAdd]
 iterate 3 (refine oW fun dd K hK=>?_;go_simp;refine qT hK ?_;clear hK K)
 refine oc callable54 #[.pointer (some ⟨lb,0,none⟩)] ?_
 refine own_ldI hc rfl ?_
 rw[Frame.finish_at]
 walk_nrm
 (refine oW fun dd K hK=>?_;go_simp;refine qT hK ?_;clear hK K)
 refine ogE ?_
 refine ogSE sbgs3' ?_
 refine ogSR sbgs4' sbgr3' ?_
 simp only[sbgr3,sbgBody,Try.f89,zz,Nat.reduceAdd]
 iterate 3 (refine oW fun dd K hK=>?_;go_simp;refine qT hK ?_;clear hK K)
 refine ogE ?_
 rw[sbgc15']
 refine ogF ?_
 simp only[Bool.false_eq_true,if_false]
 refine ogK ?_
 refine ogSR sbgs6' sbgr5' ?_
 simp only[sbgr5,sbgBody,Try.f89,zz,Nat.reduceAdd]
 (refine oW fun dd K hK=>?_;go_simp;refine qT hK ?_;clear hK K)
 refine oc callable61 #[sv] ?_
 refine h _ ?_
 exact⟨rfl,rfl,rfl,rfl,trivial⟩
theorem bg_2a{sv:Value}{lb:Nat}{v u:Int}(hq:(u == v)=true)(hc:w.cell? ⟨lb,0,none⟩=some (.int .i64 u))(hz:w.frozen? ⟨lb,0,none⟩=false)(hnh:¬held F ⟨lb,0,none⟩){A:Array Value}(hA:Slots 26 A [(0,.pointer (some ⟨lb,0,none⟩)),(1,sv),(6,.int .i64 v)]){c:Frame}{cs:List Frame}{main:Bool}{Stop:Goroutine→World→Prop}
 (h:Own Try.prog main F Stop (G (c.finish (.tuple #[.int .i64 v,.bool true])) cs) (w.setCell ⟨lb,0,none⟩ (.int .i64 (w64 (v+1))))):
 Own Try.prog main F Stop (G (((Go.Conc.base 89).at ⟨A,[]⟩ [.inRegion (oC sbgr5) [1],.code sbgs7]).finish (.tuple #[])) (c::cs)) w:=by
 obtain⟨hsz,h0,h1,h6,_⟩:=hA
 obtain⟨s,rfl⟩:=sbgT_of hsz
 change s 0=_ at h0
 change s 1=_ at h1
 change s 6=_ at h6
 clear hsz
 simp only[sbgT,h0,h1,h6]
 clear h0 h1 h6
 rw[Frame.finish_at]
 simp only[sbgr5,sbgBody,Try.f89,zz,Nat.reduceAdd]
 walk_nrm
 refine ogE ?_
 refine ogSR sbgs7' sbgr6' ?_
 simp only[sbgr6,sbgBody,Try.f89,zz,Nat.reduceAdd]
 iterate 7 (refine oW fun dd K hK=>?_;go_simp;refine qT hK ?_;clear hK K)
 refine oc callable108 #[.pointer (some ⟨lb,0,none⟩),.int .i64 v,.int .i64 (w64 (v+1))] ?_
 refine own_casI (t:=true) hq hc rfl hz hnh ?_
 rw[Frame.finish_at]
 walk_nrm
 simp only[if_true]
 iterate 2 (refine oW fun dd K hK=>?_;go_simp;refine qT hK ?_;clear hK K)
 refine ogE ?_
 refine ogX ?_
 refine own_go rfl (fun d=>stepG_leave (fn:=Try.f89) (v:=.tuple #[.int .i64 v,.bool true]) rfl rfl Try.func89 (by simp[results,Try.f89]) (by simp[results,Try.f89,go_sem])) ?_
 exact h
theorem bg_2b{sv:Value}{lb:Nat}{v u:Int}(hq:(u == v)=false)(hc:w.cell? ⟨lb,0,none⟩=some (.int .i64 u))(hz:w.frozen? ⟨lb,0,none⟩=false)(hnh:¬held F ⟨lb,0,none⟩){A:Array Value}(hA:Slots 26 A [(0,.pointer (some ⟨lb,0,none⟩)),(1,sv),(6,.int .i64 v)]){c:Frame}{cs:List Frame}{main:Bool}{Stop:Goroutine→World→Prop}
 (h:Own Try.prog main F Stop (G (c.finish (.tuple #[.int .i64 v,.bool false])) cs) w):
 Own Try.prog main F Stop (G (((Go.Conc.base 89).at ⟨A,[]⟩ [.inRegion (oC sbgr5) [1],.code sbgs7]).finish (.tuple #[])) (c::cs)) w:=by
 obtain⟨hsz,h0,h1,h6,_⟩:=hA
 obtain⟨s,rfl⟩:=sbgT_of hsz
 change s 0=_ at h0
 change s 1=_ at h1
 change s 6=_ at h6
 clear hsz
 simp only[sbgT,h0,h1,h6]
 clear h0 h1 h6
 rw[Frame.finish_at]
 simp only[sbgr5,sbgBody,Try.f89,zz,Nat.reduceAdd]
 walk_nrm
 refine ogE ?_
 refine ogSR sbgs7' sbgr6' ?_
 simp only[sbgr6,sbgBody,Try.f89,zz,Nat.reduceAdd]
 iterate 7 (refine oW fun dd K hK=>?_;go_simp;refine qT hK ?_;clear hK K)
 refine oc callable108 #[.pointer (some ⟨lb,0,none⟩),.int .i64 v,.int .i64 (w64 (v+1))] ?_
 refine own_casI (t:=false) hq hc rfl hz hnh ?_
 rw[Frame.finish_at]
 walk_nrm
 simp only[Bool.false_eq_true,if_false]
 iterate 2 (refine oW fun dd K hK=>?_;go_simp;refine qT hK ?_;clear hK K)
 refine ogE ?_
 refine ogX ?_
 refine own_go rfl (fun d=>stepG_leave (fn:=Try.f89) (v:=.tuple #[.int .i64 v,.bool false]) rfl rfl Try.func89 (by simp[results,Try.f89]) (by simp[results,Try.f89,go_sem])) ?_
 exact h
end
noncomputable section
variable{F:Fz}{w:World}
def swoBody:Code:=Try.f57.body.getD .skip
def swor0:=pC [] swoBody
theorem swor0':swor0= .region 0 (oC swor0) false:=by kernel_rfl
theorem enter_swo(args:Array Value):Frame.enter Try.prog 57 args .normal=(Go.Conc.base 57).at {tmps:=args++Array.replicate (7 - args.size) undef,defers:=[]} [.code swor0]:=enter_at args Try.func57 rfl
theorem callable57:Callable 57:=callable Try.func57 rfl rfl
theorem own_one1{wb wo i:Nat}{u x:Int}(hc:w.cell? ⟨wb,wo+i,none⟩=some (.int .i64 u))(hz:w.frozen? ⟨wb,wo+i,none⟩=false)(hnh:¬held F ⟨wb,wo+i,none⟩){c:Frame}{cs:List Frame}{main:Bool}{Stop:Goroutine→World→Prop}
 (h:Own Try.prog main F Stop (G (c.finish (.tuple #[])) cs) (w.setCell ⟨wb,wo+i,none⟩ (.int .i64 x))):
 Own Try.prog main F Stop (G (Frame.enter Try.prog 57 #[.pointer (some ⟨wb,wo+i,none⟩),.int .i64 x] .normal) (c::cs)) w:=by
 rw[enter_swo]
 walk_nrm
 rw[swor0']
 refine ogR ?_
 simp only[swor0,swoBody,Try.f57,zz,Nat.reduceAdd]
 iterate 2 (refine oW fun dd K hK=>?_;go_simp;refine qT hK ?_;clear hK K)
 refine oc callable52 #[.pointer (some ⟨wb,wo+i,none⟩),.int .i64 x] ?_
 refine own_stI hc rfl hz hnh ?_
 rw[Frame.finish_at]
 walk_nrm
 refine ogE ?_
 refine own_go rfl (fun d=>stepG_end) ?_
 refine own_go rfl (fun d=>stepG_leave (fn:=Try.f57) (v:=.tuple #[]) rfl rfl Try.func57 (by simp[results,Try.f57]) (by simp[results,Try.f57,go_sem])) ?_
 exact h
def saoBody:Code:=Try.f58.body.getD .skip
def saor0:=pC [] saoBody
theorem saor0':saor0= .region 0 (oC saor0) false:=by kernel_rfl
theorem enter_sao(args:Array Value):Frame.enter Try.prog 58 args .normal=(Go.Conc.base 58).at {tmps:=args++Array.replicate (7 - args.size) undef,defers:=[]} [.code saor0]:=enter_at args Try.func58 rfl
theorem callable58:Callable 58:=callable Try.func58 rfl rfl
theorem own_one2{wb wo i:Nat}{u x:Int}(hc:w.cell? ⟨wb,wo+i,none⟩=some (.int .i64 u))(hz:w.frozen? ⟨wb,wo+i,none⟩=false)(hnh:¬held F ⟨wb,wo+i,none⟩){c:Frame}{cs:List Frame}{main:Bool}{Stop:Goroutine→World→Prop}
 (h:Own Try.prog main F Stop (G (c.finish (.tuple #[])) cs) (w.setCell ⟨wb,wo+i,none⟩ (.int .i64 (IntKind.i64.wrap (u+x))))):
 Own Try.prog main F Stop (G (Frame.enter Try.prog 58 #[.pointer (some ⟨wb,wo+i,none⟩),.int .i64 x] .normal) (c::cs)) w:=by
 rw[enter_sao]
 walk_nrm
 rw[saor0']
 refine ogR ?_
 simp only[saor0,saoBody,Try.f58,zz,Nat.reduceAdd]
 iterate 2 (refine oW fun dd K hK=>?_;go_simp;refine qT hK ?_;clear hK K)
 refine oc callable59 #[.pointer (some ⟨wb,wo+i,none⟩),.int .i64 x] ?_
 refine own_addI hc rfl hz hnh ?_
 rw[Frame.finish_at]
 walk_nrm
 refine ogE ?_
 refine own_go rfl (fun d=>stepG_end) ?_
 refine own_go rfl (fun d=>stepG_leave (fn:=Try.f58) (v:=.tuple #[]) rfl rfl Try.func58 (by simp[results,Try.f58]) (by simp[results,Try.f58,go_sem])) ?_
 exact h
def swrBody:Code:=Try.f56.body.getD .skip
def swrs0:=pC [] swrBody
def swrr0:=pC [zt] swrBody
def swrs1:=pC [zf] swrBody
def swrs2:=pC [zf,zt] swrBody
def swrr1:=pC [zf,zt,zt] swrBody
def swrc17:=pC [zf,zt,zf] swrBody
def swrs3:=pC [zf,zt,zf,zt] swrBody
def swrs4:=pC [zf,zf] swrBody
def swrs5:=pC [zf,zf,zt] swrBody
def swrr3:=pC [zf,zf,zt,zt] swrBody
def swrb0:=pC [zf,zf,zt,zf] swrBody
def swrl6:=pC [zf,zf,zt,zf,zt] swrBody
def swrs7:=pC [zf,zf,zt,zf,zt,zt] swrBody
def swrr4:=pC [zf,zf,zt,zf,zt,zt,zt] swrBody
def swrs8:=pC [zf,zf,zt,zf,zt,zt,zf] swrBody
def swrc21:=pC [zf,zf,zt,zf,zt,zt,zf,zt] swrBody
def swrs9:=pC [zf,zf,zt,zf,zt,zt,zf,zf] swrBody
def swrb1:=pC [zf,zf,zt,zf,zt,zt,zf,zf,zt] swrBody
def swrs10:=pC [zf,zf,zt,zf,zt,zt,zf,zf,zt,zt] swrBody
def swrr5:=pC [zf,zf,zt,zf,zt,zt,zf,zf,zt,zt,zt] swrBody
def swrs11:=pC [zf,zf,zt,zf,zt,zt,zf,zf,zt,zt,zf] swrBody
def swrs12:=pC [zf,zf,zt,zf,zt,zt,zf,zf,zt,zt,zf,zt] swrBody
def swrr6:=pC [zf,zf,zt,zf,zt,zt,zf,zf,zt,zt,zf,zt,zt] swrBody
def swrc29:=pC [zf,zf,zt,zf,zt,zt,zf,zf,zt,zt,zf,zt,zf] swrBody
def swrs13:=pC [zf,zf,zt,zf,zt,zt,zf,zf,zt,zt,zf,zf] swrBody
def swrr7:=pC [zf,zf,zt,zf,zt,zt,zf,zf,zt,zt,zf,zf,zt] swrBody
def swrs14:=pC [zf,zf,zt,zf,zt,zt,zf,zf,zt,zt,zf,zf,zf] swrBody
def swrs15:=pC [zf,zf,zt,zf,zt,zt,zf,zf,zt,zt,zf,zf,zf,zt] swrBody
def swrr8:=pC [zf,zf,zt,zf,zt,zt,zf,zf,zt,zt,zf,zf,zf,zt,zt] swrBody
def swrb2:=pC [zf,zf,zt,zf,zt,zt,zf,zf,zt,zt,zf,zf,zf,zt,zf] swrBody
def swrl16:=pC [zf,zf,zt,zf,zt,zt,zf,zf,zt,zt,zf,zf,zf,zt,zf,zt] swrBody
def swrs17:=pC [zf,zf,zt,zf,zt,zt,zf,zf,zt,zt,zf,zf,zf,zt,zf,zt,zt] swrBody
def swrr9:=pC [zf,zf,zt,zf,zt,zt,zf,zf,zt,zt,zf,zf,zf,zt,zf,zt,zt,zt] swrBody
def swrs18:=pC [zf,zf,zt,zf,zt,zt,zf,zf,zt,zt,zf,zf,zf,zt,zf,zt,zt,zf] swrBody
def swrc35:=pC [zf,zf,zt,zf,zt,zt,zf,zf,zt,zt,zf,zf,zf,zt,zf,zt,zt,zf,zt] swrBody
def swrs19:=pC [zf,zf,zt,zf,zt,zt,zf,zf,zt,zt,zf,zf,zf,zt,zf,zt,zt,zf,zf] swrBody
def swrb3:=pC [zf,zf,zt,zf,zt,zt,zf,zf,zt,zt,zf,zf,zf,zt,zf,zt,zt,zf,zf,zt] swrBody
def swrs20:=pC [zf,zf,zt,zf,zt,zt,zf,zf,zt,zt,zf,zf,zf,zt,zf,zt,zt,zf,zf,zt,zt] swrBody
def swrr10:=pC [zf,zf,zt,zf,zt,zt,zf,zf,zt,zt,zf,zf,zf,zt,zf,zt,zt,zf,zf,zt,zt,zt] swrBody
def swrs21:=pC [zf,zf,zt,zf,zt,zt,zf,zf,zt,zt,zf,zf,zf,zt,zf,zt,zt,zf,zf,zt,zt,zf] swrBody
def swrr11:=pC [zf,zf,zt,zf,zt,zt,zf,zf,zt,zt,zf,zf,zf,zt,zf,zt,zt,zf,zf,zt,zt,zf,zt] swrBody
def swrs22:=pC [zf,zf,zt,zf,zt,zt,zf,zf,zt,zt,zf,zf,zf,zt,zf,zt,zt,zf,zf,zt,zt,zf,zf] swrBody
def swrs23:=pC [zf,zf,zt,zf,zt,zt,zf,zf,zt,zt,zf,zf,zf,zt,zf,zt,zt,zf,zf,zt,zt,zf,zf,zt] swrBody
def swrr12:=pC [zf,zf,zt,zf,zt,zt,zf,zf,zt,zt,zf,zf,zf,zt,zf,zt,zt,zf,zf,zt,zt,zf,zf,zt,zt] swrBody
def swrc40:=pC [zf,zf,zt,zf,zt,zt,zf,zf,zt,zt,zf,zf,zf,zt,zf,zt,zt,zf,zf,zt,zt,zf,zf,zt,zf] swrBody
def swrr13:=pC [zf,zf,zt,zf,zt,zt,zf,zf,zt,zt,zf,zf,zf,zt,zf,zt,zt,zf,zf,zt,zt,zf,zf,zt,zf,zt] swrBody
def swrs24:=pC [zf,zf,zt,zf,zt,zt,zf,zf,zt,zt,zf,zf,zf,zt,zf,zt,zt,zf,zf,zt,zt,zf,zf,zf] swrBody
def swrr14:=pC [zf,zf,zt,zf,zt,zt,zf,zf,zt,zt,zf,zf,zf,zt,zf,zt,zt,zf,zf,zt,zt,zf,zf,zf,zt] swrBody
def swrr15:=pC [zf,zf,zt,zf,zt,zt,zf,zf,zt,zt,zf,zf,zf,zt,zf,zt,zt,zf,zf,zt,zt,zf,zf,zf,zf] swrBody
def swrr16:=pC [zf,zf,zt,zf,zt,zt,zf,zf,zt,zt,zf,zf,zf,zt,zf,zt,zt,zf,zf,zf] swrBody
def swrs25:=pC [zf,zf,zt,zf,zt,zt,zf,zf,zt,zt,zf,zf,zf,zf] swrBody
def swrr17:=pC [zf,zf,zt,zf,zt,zt,zf,zf,zt,zt,zf,zf,zf,zf,zt] swrBody
def swrs26:=pC [zf,zf,zt,zf,zt,zt,zf,zf,zt,zt,zf,zf,zf,zf,zf] swrBody
def swrr18:=pC [zf,zf,zt,zf,zt,zt,zf,zf,zt,zt,zf,zf,zf,zf,zf,zt] swrBody
def swrs27:=pC [zf,zf,zt,zf,zt,zt,zf,zf,zt,zt,zf,zf,zf,zf,zf,zf] swrBody
def swrr19:=pC [zf,zf,zt,zf,zt,zt,zf,zf,zt,zt,zf,zf,zf,zf,zf,zf,zt] swrBody
def swrr20:=pC [zf,zf,zt,zf,zt,zt,zf,zf,zf] swrBody
def swrs28:=pC [zf,zf,zf] swrBody
def swrr21:=pC [zf,zf,zf,zt] swrBody
theorem swrs0':swrs0= .seq swrr0 swrs1:=by kernel_rfl
theorem swrr0':swrr0= .region 0 (oC swrr0) false:=by kernel_rfl
theorem swrs1':swrs1= .seq swrs2 swrs4:=by kernel_rfl
theorem swrs2':swrs2= .seq swrr1 swrc17:=by kernel_rfl
theorem swrr1':swrr1= .region 1 (oC swrr1) false:=by kernel_rfl
theorem swrc17':swrc17= .cond (.tmp 17) swrs3 .skip:=by kernel_rfl
theorem swrs4':swrs4= .seq swrs5 swrs28:=by kernel_rfl
theorem swrs5':swrs5= .seq swrr3 swrb0:=by kernel_rfl
theorem swrr3':swrr3= .region 3 (oC swrr3) false:=by kernel_rfl
theorem swrb0':swrb0= .block 0 swrl6:=by kernel_rfl
theorem swrl6':swrl6= .loop swrs7:=by kernel_rfl
theorem swrs7':swrs7= .seq swrr4 swrs8:=by kernel_rfl
theorem swrr4':swrr4= .region 4 (oC swrr4) false:=by kernel_rfl
theorem swrs8':swrs8= .seq swrc21 swrs9:=by kernel_rfl
theorem swrc21':swrc21= .cond (.tmp 21) .skip (.exit 0):=by kernel_rfl
theorem swrs9':swrs9= .seq swrb1 swrr20:=by kernel_rfl
theorem swrb1':swrb1= .block 1 swrs10:=by kernel_rfl
theorem swrs10':swrs10= .seq swrr5 swrs11:=by kernel_rfl
theorem swrr5':swrr5= .region 5 (oC swrr5) false:=by kernel_rfl
theorem swrs11':swrs11= .seq swrs12 swrs13:=by kernel_rfl
theorem swrs12':swrs12= .seq swrr6 swrc29:=by kernel_rfl
theorem swrr6':swrr6= .region 6 (oC swrr6) false:=by kernel_rfl
theorem swrc29':swrc29= .cond (.tmp 29) (.exit 1) .skip:=by kernel_rfl
theorem swrs13':swrs13= .seq swrr7 swrs14:=by kernel_rfl
theorem swrr7':swrr7= .region 7 (oC swrr7) false:=by kernel_rfl
theorem swrs14':swrs14= .seq swrs15 swrs25:=by kernel_rfl
theorem swrs15':swrs15= .seq swrr8 swrb2:=by kernel_rfl
theorem swrr8':swrr8= .region 8 (oC swrr8) false:=by kernel_rfl
theorem swrb2':swrb2= .block 2 swrl16:=by kernel_rfl
theorem swrl16':swrl16= .loop swrs17:=by kernel_rfl
theorem swrs17':swrs17= .seq swrr9 swrs18:=by kernel_rfl
theorem swrr9':swrr9= .region 9 (oC swrr9) false:=by kernel_rfl
theorem swrs18':swrs18= .seq swrc35 swrs19:=by kernel_rfl
theorem swrc35':swrc35= .cond (.tmp 35) .skip (.exit 2):=by kernel_rfl
theorem swrs19':swrs19= .seq swrb3 swrr16:=by kernel_rfl
theorem swrb3':swrb3= .block 3 swrs20:=by kernel_rfl
theorem swrs20':swrs20= .seq swrr10 swrs21:=by kernel_rfl
theorem swrr10':swrr10= .region 10 (oC swrr10) false:=by kernel_rfl
theorem swrs21':swrs21= .seq swrr11 swrs22:=by kernel_rfl
theorem swrr11':swrr11= .region 11 (oC swrr11) false:=by kernel_rfl
theorem swrs22':swrs22= .seq swrs23 swrs24:=by kernel_rfl
theorem swrs23':swrs23= .seq swrr12 swrc40:=by kernel_rfl
theorem swrr12':swrr12= .region 12 (oC swrr12) false:=by kernel_rfl
theorem swrc40':swrc40= .cond (.tmp 40) swrr13 .skip:=by kernel_rfl
theorem swrr13':swrr13= .region 13 (oC swrr13) false:=by kernel_rfl
theorem swrs24':swrs24= .seq swrr14 swrr15:=by kernel_rfl
theorem swrr14':swrr14= .region 14 (oC swrr14) false:=by kernel_rfl
theorem swrr15':swrr15= .region 15 (oC swrr15) false:=by kernel_rfl
theorem swrr16':swrr16= .region 16 (oC swrr16) false:=by kernel_rfl
theorem swrs25':swrs25= .seq swrr17 swrs26:=by kernel_rfl
theorem swrr17':swrr17= .region 17 (oC swrr17) false:=by kernel_rfl
theorem swrs26':swrs26= .seq swrr18 swrs27:=by kernel_rfl
theorem swrr18':swrr18= .region 18 (oC swrr18) false:=by kernel_rfl
theorem swrs27':swrs27= .seq swrr19 .ret:=by kernel_rfl
theorem swrr19':swrr19= .region 19 (oC swrr19) false:=by kernel_rfl
theorem swrr20':swrr20= .region 20 (oC swrr20) false:=by kernel_rfl
theorem swrs28':swrs28= .seq swrr21 .ret:=by kernel_rfl
theorem swrr21':swrr21= .region 21 (oC swrr21) false:=by kernel_rfl
theorem enter_swr(args:Array Value):Frame.enter Try.prog 56 args .normal=(Go.Conc.base 56).at {tmps:=args++Array.replicate (63 - args.size) undef,defers:=[]} [.code swrs0]:=enter_at args Try.func56 rfl
theorem callable56:Callable 56:=callable Try.func56 rfl rfl
def swrT(s:Nat→Value):Array Value:= #[s 0,s 1,s 2,s 3,s 4,s 5,s 6,s 7,s 8,s 9,s 10,s 11,s 12,s 13,s 14,s 15,s 16,s 17,s 18,s 19,s 20,s 21,s 22,s 23,s 24,s 25,s 26,s 27,s 28,s 29,s 30,s 31,s 32,s 33,s 34,s 35,s 36,s 37,s 38,s 39,s 40,s 41,s 42,s 43,s 44,s 45,s 46,s 47,s 48,s 49,s 50,s 51,s 52,s 53,s 54,s 55,s 56,s 57,s 58,s 59,s 60,s 61,s 62]
theorem swrT_of{A:Array Value}(h:A.size=63):∃s,A=swrT s:=by
 obtain⟨s,hs,_⟩:=arr_lit A h
 exact⟨s,hs⟩
theorem wr_0{sv one:Value}{lb:Nat}{va:Option Addr}{m vc:Nat}{a:Int}{cs:List Frame}{main:Bool}{Stop:Goroutine→World→Prop}
 (h:∀A,Slots 63 A [(0,.pointer (some ⟨lb,0,none⟩)),(1,sv),(3,.slice va m vc),(4,one),(19,.int .i64 (triesOf a:Nat)),(20,.int .i64 (0:Nat))]→Own Try.prog main F Stop (G (Frame.enter Try.prog 89 #[.pointer (some ⟨lb,0,none⟩),sv] .normal) (((Go.Conc.base 56).at ⟨A,[]⟩ [.inRegion (oC swrr5) [2,3,4,5,6,7],.code swrs11,.inBlock 1,.code swrr20,.inLoop swrs7,.inBlock 0,.code swrs28])::cs)) w):
 Own Try.prog main F Stop (G (Frame.enter Try.prog 56 #[.pointer (some ⟨lb,0,none⟩),sv,.int .i64 a,.slice va m vc,one] .normal) cs) w:=by
 have hp:=(triesOf_pos a).1
 have hlt:decide ((0:Int)<(triesOf a:Int))=true:=by simp;omega
 have hlt2:decide (0<triesOf a)=true:=by simp;omega
 rw[enter_swr]
 walk_nrm
 refine ogSR swrs0' swrr0' ?_
 simp only[swrr0,swrBody,Try.f56,zz,Nat.reduceAdd]
 (refine oW fun dd K hK=>?_;go_simp;refine qT hK ?_;clear hK K)
 refine ogE ?_
 refine ogSE swrs1' ?_
 refine ogSR swrs2' swrr1' ?_
 simp only[swrr1,swrBody,Try.f56,zz,Nat.reduceAdd]
 iterate 2 (refine oW fun dd K hK=>?_;go_simp;refine qT hK ?_;clear hK K)
 refine ogE ?_
 rw[swrc17']
 refine ogF ?_
 simp only[Bool.false_eq_true,if_false]
 refine ogK ?_
 refine ogSE swrs4' ?_
 refine ogSR swrs5' swrr3' ?_
 simp only[swrr3,swrBody,Try.f56,zz,Nat.reduceAdd]
 (refine oW fun dd K hK=>?_;go_simp;refine qT hK ?_;clear hK K)
 refine oc callable60 #[.int .i64 a] ?_
 refine own_tried ?_
 rw[Frame.finish_at]
 walk_nrm
 (refine oW fun dd K hK=>?_;go_simp;refine qT hK ?_;clear hK K)
 refine ogE ?_
 rw[swrb0']
 refine ogB ?_
 rw[swrl6']
 refine ogP ?_
 refine ogSR swrs7' swrr4' ?_
 simp only[swrr4,swrBody,Try.f56,zz,Nat.reduceAdd]
 (refine oW fun dd K hK=>?_;go_simp;refine qT hK ?_;clear hK K)
 refine ogE ?_
 refine ogSE swrs8' ?_
 rw[swrc21']
 refine ogT ?_
 simp only[if_true]
 refine ogK ?_
 refine ogSE swrs9' ?_
 rw[swrb1']
 refine ogB ?_
 refine ogSR swrs10' swrr5' ?_
 simp only[swrr5,swrBody,Try.f56,zz,Nat.reduceAdd]
 iterate 2 (refine oW fun dd K hK=>?_;go_simp;refine qT hK ?_;clear hK K)
 refine oc callable89 #[.pointer (some ⟨lb,0,none⟩),sv] ?_
 refine h _ ?_
 exact⟨rfl,rfl,rfl,rfl,rfl,rfl,rfl,trivial⟩
theorem wr_1a{sv one:Value}{lb:Nat}{va:Option Addr}{m vc:Nat}{nv:Int}{T r:Nat}(hT:T≤1024)(hr:r+1<T){A:Array Value}(hA:Slots 63 A [(0,.pointer (some ⟨lb,0,none⟩)),(1,sv),(3,.slice va m vc),(4,one),(19,.int .i64 (T:Nat)),(20,.int .i64 (r:Nat))]){cs:List Frame}{main:Bool}{Stop:Goroutine→World→Prop}
 (h:∀A,Slots 63 A [(0,.pointer (some ⟨lb,0,none⟩)),(1,sv),(3,.slice va m vc),(4,one),(19,.int .i64 (T:Nat)),(20,.int .i64 (r+1:Nat))]→Own Try.prog main F Stop (G (Frame.enter Try.prog 89 #[.pointer (some ⟨lb,0,none⟩),sv] .normal) (((Go.Conc.base 56).at ⟨A,[]⟩ [.inRegion (oC swrr5) [2,3,4,5,6,7],.code swrs11,.inBlock 1,.code swrr20,.inLoop swrs7,.inBlock 0,.code swrs28])::cs)) w):
 Own Try.prog main F Stop (G (((Go.Conc.base 56).at ⟨A,[]⟩ [.inRegion (oC swrr5) [2,3,4,5,6,7],.code swrs11,.inBlock 1,.code swrr20,.inLoop swrs7,.inBlock 0,.code swrs28]).finish (.tuple #[.int .i64 nv,.bool false])) cs) w:=by
 obtain⟨hsz,h0,h1,h3,h4,h19,h20,_⟩:=hA
 obtain⟨s,rfl⟩:=swrT_of hsz
 change s 0=_ at h0
 change s 1=_ at h1
 change s 3=_ at h3
 change s 4=_ at h4
 change s 19=_ at h19
 change s 20=_ at h20
 clear hsz
 simp only[swrT,h0,h1,h3,h4,h19,h20]
 clear h0 h1 h3 h4 h19 h20
 have hk64:IntKind.i64.wrap ((r:Int)+1)=(r:Int)+1:=IntWalk.i64_in _ (by omega)
 have hlt:decide ((r:Int)+1<(T:Int))=true:=by simp;omega
 have hlt2:decide (r+1<T)=true:=by simp;omega
 rw[Frame.finish_at]
 simp only[swrr5,swrBody,Try.f56,zz,Nat.reduceAdd]
 walk_nrm
 iterate 5 (refine oW fun dd K hK=>?_;go_simp;refine qT hK ?_;clear hK K)
 refine ogE ?_
 refine ogSE swrs11' ?_
 refine ogSR swrs12' swrr6' ?_
 simp only[swrr6,swrBody,Try.f56,zz,Nat.reduceAdd]
 iterate 2 (refine oW fun dd K hK=>?_;go_simp;refine qT hK ?_;clear hK K)
 refine ogE ?_
 rw[swrc29']
 refine ogT ?_
 simp only[if_true]
 refine own_go rfl (fun d=>stepG_exit rfl) ?_
 rw[swrr20']
 refine ogR ?_
 simp only[swrr20,swrBody,Try.f56,zz,Nat.reduceAdd]
 iterate 2 (refine oW fun dd K hK=>?_;go_simp;refine qT hK ?_;clear hK K)
 refine ogE ?_
 refine ogL ?_
 refine ogSR swrs7' swrr4' ?_
 simp only[swrr4,swrBody,Try.f56,zz,Nat.reduceAdd]
 (refine oW fun dd K hK=>?_;go_simp;refine qT hK ?_;clear hK K)
 refine ogE ?_
 refine ogSE swrs8' ?_
 rw[swrc21']
 refine ogT ?_
 simp only[if_true]
 refine ogK ?_
 refine ogSE swrs9' ?_
 rw[swrb1']
 refine ogB ?_
 refine ogSR swrs10' swrr5' ?_
 simp only[swrr5,swrBody,Try.f56,zz,Nat.reduceAdd]
 iterate 2 (refine oW fun dd K hK=>?_;go_simp;refine qT hK ?_;clear hK K)
 refine oc callable89 #[.pointer (some ⟨lb,0,none⟩),sv] ?_
 refine h _ ?_
 exact⟨rfl,rfl,rfl,rfl,rfl,rfl,rfl,trivial⟩
theorem wr_1b{sv one:Value}{lb:Nat}{va:Option Addr}{m vc:Nat}{nv:Int}{T r:Nat}(hT:T≤1024)(hr:r+1=T){A:Array Value}(hA:Slots 63 A [(0,.pointer (some ⟨lb,0,none⟩)),(1,sv),(3,.slice va m vc),(4,one),(19,.int .i64 (T:Nat)),(20,.int .i64 (r:Nat))]){c:Frame}{cs:List Frame}{main:Bool}{Stop:Goroutine→World→Prop}
 (h:Own Try.prog main F Stop (G (c.finish (.bool false)) cs) w):
 Own Try.prog main F Stop (G (((Go.Conc.base 56).at ⟨A,[]⟩ [.inRegion (oC swrr5) [2,3,4,5,6,7],.code swrs11,.inBlock 1,.code swrr20,.inLoop swrs7,.inBlock 0,.code swrs28]).finish (.tuple #[.int .i64 nv,.bool false])) (c::cs)) w:=by
 obtain⟨hsz,h0,h1,h3,h4,h19,h20,_⟩:=hA
 obtain⟨s,rfl⟩:=swrT_of hsz
 change s 0=_ at h0
 change s 1=_ at h1
 change s 3=_ at h3
 change s 4=_ at h4
 change s 19=_ at h19
 change s 20=_ at h20
 clear hsz
 simp only[swrT,h0,h1,h3,h4,h19,h20]
 clear h0 h1 h3 h4 h19 h20
 have hk64:IntKind.i64.wrap ((r:Int)+1)=(r:Int)+1:=IntWalk.i64_in _ (by omega)
 have hlt:decide ((r:Int)+1<(T:Int))=false:=by simp;omega
 have hlt2:decide (r+1<T)=false:=by simp;omega
 rw[Frame.finish_at]
 simp only[swrr5,swrBody,Try.f56,zz,Nat.reduceAdd]
 walk_nrm
 iterate 5 (refine oW fun dd K hK=>?_;go_simp;refine qT hK ?_;clear hK K)
 refine ogE ?_
 refine ogSE swrs11' ?_
 refine ogSR swrs12' swrr6' ?_
 simp only[swrr6,swrBody,Try.f56,zz,Nat.reduceAdd]
 iterate 2 (refine oW fun dd K hK=>?_;go_simp;refine qT hK ?_;clear hK K)
 refine ogE ?_
 rw[swrc29']
 refine ogT ?_
 simp only[if_true]
 refine own_go rfl (fun d=>stepG_exit rfl) ?_
 rw[swrr20']
 refine ogR ?_
 simp only[swrr20,swrBody,Try.f56,zz,Nat.reduceAdd]
 iterate 2 (refine oW fun dd K hK=>?_;go_simp;refine qT hK ?_;clear hK K)
 refine ogE ?_
 refine ogL ?_
 refine ogSR swrs7' swrr4' ?_
 simp only[swrr4,swrBody,Try.f56,zz,Nat.reduceAdd]
 (refine oW fun dd K hK=>?_;go_simp;refine qT hK ?_;clear hK K)
 refine ogE ?_
 refine ogSE swrs8' ?_
 rw[swrc21']
 refine ogF ?_
 simp only[Bool.false_eq_true,if_false]
 refine own_go rfl (fun d=>stepG_exit rfl) ?_
 refine ogSR swrs28' swrr21' ?_
 simp only[swrr21,swrBody,Try.f56,zz,Nat.reduceAdd]
 (refine oW fun dd K hK=>?_;go_simp;refine qT hK ?_;clear hK K)
 refine ogE ?_
 refine ogX ?_
 refine own_go rfl (fun d=>stepG_leave (fn:=Try.f56) (v:=.bool false) rfl rfl Try.func56 (by simp[results,Try.f56]) (by simp[results,Try.f56,go_sem])) ?_
 exact h
theorem wr_1c{sv one:Value}{lb m vc:Nat}{vb:Nat}{wb wo n T r:Nat}{v x:Int}(hs:SH lb wb wo n w)(hm:0<m)(hx:w.cell? ⟨vb,0,none⟩=some (.int .i64 x)){A:Array Value}(hA:Slots 63 A [(0,.pointer (some ⟨lb,0,none⟩)),(1,sv),(3,.slice (some ⟨vb,0,none⟩) m vc),(4,one),(19,.int .i64 (T:Nat)),(20,.int .i64 (r:Nat))]){cs:List Frame}{main:Bool}{Stop:Goroutine→World→Prop}
 (h:∀A,Slots 63 A [(0,.pointer (some ⟨lb,0,none⟩)),(1,sv),(3,.slice (some ⟨vb,0,none⟩) m vc),(4,one),(11,.int .i64 v),(13,.slice (some ⟨wb,wo,none⟩) n n),(14,.int .i64 (0:Nat)),(15,.int .i64 x),(33,.int .i64 (n:Nat)),(34,.int .i64 (0:Nat))]→Own Try.prog main F Stop (G (Frame.enter Try.prog 61 #[sv] .normal) (((Go.Conc.base 56).at ⟨A,[]⟩ [.inRegion (oC swrr14) [1],.code swrr15,.inBlock 3,.code swrr16,.inLoop swrs17,.inBlock 2,.code swrs25,.inBlock 1,.code swrr20,.inLoop swrs7,.inBlock 0,.code swrs28])::cs)) w):
 Own Try.prog main F Stop (G (((Go.Conc.base 56).at ⟨A,[]⟩ [.inRegion (oC swrr5) [2,3,4,5,6,7],.code swrs11,.inBlock 1,.code swrr20,.inLoop swrs7,.inBlock 0,.code swrs28]).finish (.tuple #[.int .i64 v,.bool true])) cs) w:=by
 obtain⟨hsz,h0,h1,h3,h4,h19,h20,_⟩:=hA
 obtain⟨s,rfl⟩:=swrT_of hsz
 change s 0=_ at h0
 change s 1=_ at h1
 change s 3=_ at h3
 change s 4=_ at h4
 change s 19=_ at h19
 change s 20=_ at h20
 clear hsz
 simp only[swrT,h0,h1,h3,h4,h19,h20]
 clear h0 h1 h3 h4 h19 h20
 have n1:=hs.n1
 have hlt:decide ((0:Int)<(n:Int))=true:=by simp;omega
 have hlt2:decide (0<n)=true:=by simp;omega
 have hmt:decide ((0:Int)<(m:Int))=true:=by simp;omega
 have hmt2:decide (0<m)=true:=by simp;omega
 rw[Frame.finish_at]
 simp only[swrr5,swrBody,Try.f56,zz,Nat.reduceAdd]
 walk_nrm
 iterate 5 (refine oW fun dd K hK=>?_;go_simp;refine qT hK ?_;clear hK K)
 refine ogE ?_
 refine ogSE swrs11' ?_
 refine ogSR swrs12' swrr6' ?_
 simp only[swrr6,swrBody,Try.f56,zz,Nat.reduceAdd]
 iterate 2 (refine oW fun dd K hK=>?_;go_simp;refine qT hK ?_;clear hK K)
 refine ogE ?_
 rw[swrc29']
 refine ogF ?_
 simp only[Bool.false_eq_true,if_false]
 refine ogK ?_
 refine ogSR swrs13' swrr7' ?_
 simp only[swrr7,swrBody,Try.f56,zz,Nat.reduceAdd]
 (refine oW fun dd K hK=>?_;go_simp;refine qT hK ?_;clear hK K)
 refine oc callable53 #[.pointer (some ⟨lb,0,none⟩)] ?_
 refine own_words hs ?_
 rw[Frame.finish_at]
 walk_nrm
 (refine oW fun dd K hK=>?_;go_simp;refine qT hK ?_;clear hK K)
 refine ogE ?_
 refine ogSE swrs14' ?_
 refine ogSR swrs15' swrr8' ?_
 simp only[swrr8,swrBody,Try.f56,zz,Nat.reduceAdd]
 iterate 3 (refine oW fun dd K hK=>?_;go_simp;refine qT hK ?_;clear hK K)
 refine ogE ?_
 rw[swrb2']
 refine ogB ?_
 rw[swrl16']
 refine ogP ?_
 refine ogSR swrs17' swrr9' ?_
 simp only[swrr9,swrBody,Try.f56,zz,Nat.reduceAdd]
 (refine oW fun dd K hK=>?_;go_simp;refine qT hK ?_;clear hK K)
 refine ogE ?_
 refine ogSE swrs18' ?_
 rw[swrc35']
 refine ogT ?_
 simp only[if_true]
 refine ogK ?_
 refine ogSE swrs19' ?_
 rw[swrb3']
 refine ogB ?_
 refine ogSR swrs20' swrr10' ?_
 simp only[swrr10,swrBody,Try.f56,zz,Nat.reduceAdd]
 iterate 2 (refine oW fun dd K hK=>?_;go_simp;refine qT hK ?_;clear hK K)
 refine ogE ?_
 refine ogSR swrs21' swrr11' ?_
 simp only[swrr11,swrBody,Try.f56,zz,Nat.reduceAdd]
 (refine oW fun dd K hK=>?_;go_simp;refine qT hK ?_;clear hK K)
 refine ogE ?_
 refine ogSE swrs22' ?_
 refine ogSR swrs23' swrr12' ?_
 simp only[swrr12,swrBody,Try.f56,zz,Nat.reduceAdd]
 iterate 4 (refine oW fun dd K hK=>?_;go_simp;refine qT hK ?_;clear hK K)
 refine ogE ?_
 rw[swrc40']
 refine ogT ?_
 simp only[if_true]
 rw[swrr13']
 refine ogR ?_
 simp only[swrr13,swrBody,Try.f56,zz,Nat.reduceAdd]
 iterate 2 (refine oW fun dd K hK=>?_;go_simp;refine qT hK ?_;clear hK K)
 (refine oW fun dd K hK=>?_;go_simp;refine qX hK ?_;clear hK K)
 (refine oW fun dd K hK=>?_;go_simp;refine qL hK ?_;clear hK K)
 (refine oW fun dd K hK=>?_;go_simp;refine qT hK ?_;clear hK K)
 refine ogE ?_
 refine ogSR swrs24' swrr14' ?_
 simp only[swrr14,swrBody,Try.f56,zz,Nat.reduceAdd]
 (refine oW fun dd K hK=>?_;go_simp;refine qT hK ?_;clear hK K)
 refine oc callable61 #[sv] ?_
 refine h _ ?_
 exact⟨rfl,rfl,rfl,rfl,rfl,rfl,rfl,rfl,rfl,rfl,rfl,trivial⟩
theorem wr_1d{sv one:Value}{lb m vc:Nat}{va:Option Addr}{wb wo n T r:Nat}{v:Int}(hs:SH lb wb wo n w)(hm:m=0){A:Array Value}(hA:Slots 63 A [(0,.pointer (some ⟨lb,0,none⟩)),(1,sv),(3,.slice va m vc),(4,one),(19,.int .i64 (T:Nat)),(20,.int .i64 (r:Nat))]){cs:List Frame}{main:Bool}{Stop:Goroutine→World→Prop}
 (h:∀A,Slots 63 A [(0,.pointer (some ⟨lb,0,none⟩)),(1,sv),(3,.slice va m vc),(4,one),(11,.int .i64 v),(13,.slice (some ⟨wb,wo,none⟩) n n),(14,.int .i64 (0:Nat)),(15,.int .i64 0),(33,.int .i64 (n:Nat)),(34,.int .i64 (0:Nat))]→Own Try.prog main F Stop (G (Frame.enter Try.prog 61 #[sv] .normal) (((Go.Conc.base 56).at ⟨A,[]⟩ [.inRegion (oC swrr14) [1],.code swrr15,.inBlock 3,.code swrr16,.inLoop swrs17,.inBlock 2,.code swrs25,.inBlock 1,.code swrr20,.inLoop swrs7,.inBlock 0,.code swrs28])::cs)) w):
 Own Try.prog main F Stop (G (((Go.Conc.base 56).at ⟨A,[]⟩ [.inRegion (oC swrr5) [2,3,4,5,6,7],.code swrs11,.inBlock 1,.code swrr20,.inLoop swrs7,.inBlock 0,.code swrs28]).finish (.tuple #[.int .i64 v,.bool true])) cs) w:=by
 obtain⟨hsz,h0,h1,h3,h4,h19,h20,_⟩:=hA
 obtain⟨s,rfl⟩:=swrT_of hsz
 change s 0=_ at h0
 change s 1=_ at h1
 change s 3=_ at h3
 change s 4=_ at h4
 change s 19=_ at h19
 change s 20=_ at h20
 clear hsz
 simp only[swrT,h0,h1,h3,h4,h19,h20]
 clear h0 h1 h3 h4 h19 h20
 have n1:=hs.n1
 have hlt:decide ((0:Int)<(n:Int))=true:=by simp;omega
 have hlt2:decide (0<n)=true:=by simp;omega
 have hmt:decide ((0:Int)<(m:Int))=false:=by simp;omega
 have hmt2:decide (0<m)=false:=by simp;omega
 clear hm
 rw[Frame.finish_at]
 simp only[swrr5,swrBody,Try.f56,zz,Nat.reduceAdd]
 walk_nrm
 iterate 5 (refine oW fun dd K hK=>?_;go_simp;refine qT hK ?_;clear hK K)
 refine ogE ?_
 refine ogSE swrs11' ?_
 refine ogSR swrs12' swrr6' ?_
 simp only[swrr6,swrBody,Try.f56,zz,Nat.reduceAdd]
 iterate 2 (refine oW fun dd K hK=>?_;go_simp;refine qT hK ?_;clear hK K)
 refine ogE ?_
 rw[swrc29']
 refine ogF ?_
 simp only[Bool.false_eq_true,if_false]
 refine ogK ?_
 refine ogSR swrs13' swrr7' ?_
 simp only[swrr7,swrBody,Try.f56,zz,Nat.reduceAdd]
 (refine oW fun dd K hK=>?_;go_simp;refine qT hK ?_;clear hK K)
 refine oc callable53 #[.pointer (some ⟨lb,0,none⟩)] ?_
 refine own_words hs ?_
 rw[Frame.finish_at]
 walk_nrm
 (refine oW fun dd K hK=>?_;go_simp;refine qT hK ?_;clear hK K)
 refine ogE ?_
 refine ogSE swrs14' ?_
 refine ogSR swrs15' swrr8' ?_
 simp only[swrr8,swrBody,Try.f56,zz,Nat.reduceAdd]
 iterate 3 (refine oW fun dd K hK=>?_;go_simp;refine qT hK ?_;clear hK K)
 refine ogE ?_
 rw[swrb2']
 refine ogB ?_
 rw[swrl16']
 refine ogP ?_
 refine ogSR swrs17' swrr9' ?_
 simp only[swrr9,swrBody,Try.f56,zz,Nat.reduceAdd]
 (refine oW fun dd K hK=>?_;go_simp;refine qT hK ?_;clear hK K)
 refine ogE ?_
 refine ogSE swrs18' ?_
 rw[swrc35']
 refine ogT ?_
 simp only[if_true]
 refine ogK ?_
 refine ogSE swrs19' ?_
 rw[swrb3']
 refine ogB ?_
 refine ogSR swrs20' swrr10' ?_
 simp only[swrr10,swrBody,Try.f56,zz,Nat.reduceAdd]
 iterate 2 (refine oW fun dd K hK=>?_;go_simp;refine qT hK ?_;clear hK K)
 refine ogE ?_
 refine ogSR swrs21' swrr11' ?_
 simp only[swrr11,swrBody,Try.f56,zz,Nat.reduceAdd]
 (refine oW fun dd K hK=>?_;go_simp;refine qT hK ?_;clear hK K)
 refine ogE ?_
 refine ogSE swrs22' ?_
 refine ogSR swrs23' swrr12' ?_
 simp only[swrr12,swrBody,Try.f56,zz,Nat.reduceAdd]
 iterate 4 (refine oW fun dd K hK=>?_;go_simp;refine qT hK ?_;clear hK K)
 refine ogE ?_
 rw[swrc40']
 refine ogF ?_
 simp only[Bool.false_eq_true,if_false]
 refine ogK ?_
 refine ogSR swrs24' swrr14' ?_
 simp only[swrr14,swrBody,Try.f56,zz,Nat.reduceAdd]
 (refine oW fun dd K hK=>?_;go_simp;refine qT hK ?_;clear hK K)
 refine oc callable61 #[sv] ?_
 refine h _ ?_
 exact⟨rfl,rfl,rfl,rfl,rfl,rfl,rfl,rfl,rfl,rfl,rfl,trivial⟩
theorem wr_2a1{sv:Value}{lb m vc:Nat}{vb:Nat}{wb wo n i:Nat}{v u x y:Int}(hn:n≤16)(hi:i+1<n)(hc:w.cell? ⟨wb,wo+i,none⟩=some (.int .i64 u))(hz:w.frozen? ⟨wb,wo+i,none⟩=false)(hnh:¬held F ⟨wb,wo+i,none⟩)(hm:i+1<m)(hx:(w.setCell ⟨wb,wo+i,none⟩ (.int .i64 x)).cell? ⟨vb,i+1,none⟩=some (.int .i64 y)){A:Array Value}(hA:Slots 63 A [(0,.pointer (some ⟨lb,0,none⟩)),(1,sv),(3,.slice (some ⟨vb,0,none⟩) m vc),(4,.func (.func 57) #[] #[]),(11,.int .i64 v),(13,.slice (some ⟨wb,wo,none⟩) n n),(14,.int .i64 (i:Nat)),(15,.int .i64 x),(33,.int .i64 (n:Nat)),(34,.int .i64 (i:Nat))]){cs:List Frame}{main:Bool}{Stop:Goroutine→World→Prop}
 (h:∀A,Slots 63 A [(0,.pointer (some ⟨lb,0,none⟩)),(1,sv),(3,.slice (some ⟨vb,0,none⟩) m vc),(4,.func (.func 57) #[] #[]),(11,.int .i64 v),(13,.slice (some ⟨wb,wo,none⟩) n n),(14,.int .i64 (i+1:Nat)),(15,.int .i64 y),(33,.int .i64 (n:Nat)),(34,.int .i64 (i+1:Nat))]→Own Try.prog main F Stop (G (Frame.enter Try.prog 61 #[sv] .normal) (((Go.Conc.base 56).at ⟨A,[]⟩ [.inRegion (oC swrr14) [1],.code swrr15,.inBlock 3,.code swrr16,.inLoop swrs17,.inBlock 2,.code swrs25,.inBlock 1,.code swrr20,.inLoop swrs7,.inBlock 0,.code swrs28])::cs)) (w.setCell ⟨wb,wo+i,none⟩ (.int .i64 x))):
 Own Try.prog main F Stop (G (((Go.Conc.base 56).at ⟨A,[]⟩ [.inRegion (oC swrr14) [1],.code swrr15,.inBlock 3,.code swrr16,.inLoop swrs17,.inBlock 2,.code swrs25,.inBlock 1,.code swrr20,.inLoop swrs7,.inBlock 0,.code swrs28]).finish (.tuple #[])) (cs)) w:=by
 obtain⟨hsz,h0,h1,h3,h4,h11,h13,h14,h15,h33,h34,_⟩:=hA
 obtain⟨s,rfl⟩:=swrT_of hsz
 change s 0=_ at h0
 change s 1=_ at h1
 change s 3=_ at h3
 change s 4=_ at h4
 change s 11=_ at h11
 change s 13=_ at h13
 change s 14=_ at h14
 change s 15=_ at h15
 change s 33=_ at h33
 change s 34=_ at h34
 clear hsz
 simp only[swrT,h0,h1,h3,h4,h11,h13,h14,h15,h33,h34]
 clear h0 h1 h3 h4 h11 h13 h14 h15 h33 h34
 have hk64:IntKind.i64.wrap ((i:Int)+1)=(i:Int)+1:=IntWalk.i64_in _ (by omega)
 have hin:(i:Int)<(n:Int):=by omega
 have hin2:i<n:=by omega
 have hlt:decide ((i:Int)+1<(n:Int))=true:=by simp;omega
 have hlt2:decide (i+1<n)=true:=by simp;omega
 have hmt:decide ((i:Int)+1<(m:Int))=true:=by simp;omega
 have hmt2:decide (i+1<m)=true:=by simp;omega
 have hmi:(i:Int)+1<(m:Int):=by omega
 have hnn:(0:Int)≤(i:Int)+1:=by omega
 have hnb:¬((i:Int)+1<0):=by omega
 rw[Frame.finish_at]
 simp only[swrr14,swrBody,Try.f56,zz,Nat.reduceAdd]
 walk_nrm
 refine ogE ?_
 rw[swrr15']
 refine ogR ?_
 simp only[swrr15,swrBody,Try.f56,zz,Nat.reduceAdd]
 iterate 3 (refine oW fun dd K hK=>?_;go_simp;refine qT hK ?_;clear hK K)
 (refine oW fun dd K hK=>?_;go_simp;refine qX hK ?_;clear hK K)
 (refine oW fun dd K hK=>?_;go_simp;refine qT hK ?_;clear hK K)
 refine oc callable57 #[.pointer (some ⟨wb,wo+i,none⟩),.int .i64 x] ?_
 refine own_one1 hc hz hnh ?_
 rw[Frame.finish_at]
 walk_nrm
 refine ogE ?_
 refine ogI ?_
 rw[swrr16']
 refine ogR ?_
 simp only[swrr16,swrBody,Try.f56,zz,Nat.reduceAdd]
 iterate 2 (refine oW fun dd K hK=>?_;go_simp;refine qT hK ?_;clear hK K)
 refine ogE ?_
 refine ogL ?_
 refine ogSR swrs17' swrr9' ?_
 simp only[swrr9,swrBody,Try.f56,zz,Nat.reduceAdd]
 (refine oW fun dd K hK=>?_;go_simp;refine qT hK ?_;clear hK K)
 refine ogE ?_
 refine ogSE swrs18' ?_
 rw[swrc35']
 refine ogT ?_
 simp only[if_true]
 refine ogK ?_
 refine ogSE swrs19' ?_
 rw[swrb3']
 refine ogB ?_
 refine ogSR swrs20' swrr10' ?_
 simp only[swrr10,swrBody,Try.f56,zz,Nat.reduceAdd]
 iterate 2 (refine oW fun dd K hK=>?_;go_simp;refine qT hK ?_;clear hK K)
 refine ogE ?_
 refine ogSR swrs21' swrr11' ?_
 simp only[swrr11,swrBody,Try.f56,zz,Nat.reduceAdd]
 (refine oW fun dd K hK=>?_;go_simp;refine qT hK ?_;clear hK K)
 refine ogE ?_
 refine ogSE swrs22' ?_
 refine ogSR swrs23' swrr12' ?_
 simp only[swrr12,swrBody,Try.f56,zz,Nat.reduceAdd]
 iterate 4 (refine oW fun dd K hK=>?_;go_simp;refine qT hK ?_;clear hK K)
 refine ogE ?_
 rw[swrc40']
 refine ogT ?_
 simp only[if_true]
 rw[swrr13']
 refine ogR ?_
 simp only[swrr13,swrBody,Try.f56,zz,Nat.reduceAdd]
 iterate 2 (refine oW fun dd K hK=>?_;go_simp;refine qT hK ?_;clear hK K)
 (refine oW fun dd K hK=>?_;go_simp;refine qX hK ?_;clear hK K)
 (refine oW fun dd K hK=>?_;go_simp;refine qL hK ?_;clear hK K)
 (refine oW fun dd K hK=>?_;go_simp;refine qT hK ?_;clear hK K)
 refine ogE ?_
 refine ogSR swrs24' swrr14' ?_
 simp only[swrr14,swrBody,Try.f56,zz,Nat.reduceAdd]
 (refine oW fun dd K hK=>?_;go_simp;refine qT hK ?_;clear hK K)
 refine oc callable61 #[sv] ?_
 refine h _ ?_
 exact⟨rfl,rfl,rfl,rfl,rfl,rfl,rfl,rfl,rfl,rfl,rfl,trivial⟩
theorem wr_2c1{sv:Value}{lb m vc:Nat}{va:Option Addr}{wb wo n i:Nat}{v u x:Int}(hn:n≤16)(hi:i+1<n)(hc:w.cell? ⟨wb,wo+i,none⟩=some (.int .i64 u))(hz:w.frozen? ⟨wb,wo+i,none⟩=false)(hnh:¬held F ⟨wb,wo+i,none⟩)(hm:m≤i+1){A:Array Value}(hA:Slots 63 A [(0,.pointer (some ⟨lb,0,none⟩)),(1,sv),(3,.slice va m vc),(4,.func (.func 57) #[] #[]),(11,.int .i64 v),(13,.slice (some ⟨wb,wo,none⟩) n n),(14,.int .i64 (i:Nat)),(15,.int .i64 x),(33,.int .i64 (n:Nat)),(34,.int .i64 (i:Nat))]){cs:List Frame}{main:Bool}{Stop:Goroutine→World→Prop}
 (h:∀A,Slots 63 A [(0,.pointer (some ⟨lb,0,none⟩)),(1,sv),(3,.slice va m vc),(4,.func (.func 57) #[] #[]),(11,.int .i64 v),(13,.slice (some ⟨wb,wo,none⟩) n n),(14,.int .i64 (i+1:Nat)),(15,.int .i64 0),(33,.int .i64 (n:Nat)),(34,.int .i64 (i+1:Nat))]→Own Try.prog main F Stop (G (Frame.enter Try.prog 61 #[sv] .normal) (((Go.Conc.base 56).at ⟨A,[]⟩ [.inRegion (oC swrr14) [1],.code swrr15,.inBlock 3,.code swrr16,.inLoop swrs17,.inBlock 2,.code swrs25,.inBlock 1,.code swrr20,.inLoop swrs7,.inBlock 0,.code swrs28])::cs)) (w.setCell ⟨wb,wo+i,none⟩ (.int .i64 x))):
 Own Try.prog main F Stop (G (((Go.Conc.base 56).at ⟨A,[]⟩ [.inRegion (oC swrr14) [1],.code swrr15,.inBlock 3,.code swrr16,.inLoop swrs17,.inBlock 2,.code swrs25,.inBlock 1,.code swrr20,.inLoop swrs7,.inBlock 0,.code swrs28]).finish (.tuple #[])) (cs)) w:=by
 obtain⟨hsz,h0,h1,h3,h4,h11,h13,h14,h15,h33,h34,_⟩:=hA
 obtain⟨s,rfl⟩:=swrT_of hsz
 change s 0=_ at h0
 change s 1=_ at h1
 change s 3=_ at h3
 change s 4=_ at h4
 change s 11=_ at h11
 change s 13=_ at h13
 change s 14=_ at h14
 change s 15=_ at h15
 change s 33=_ at h33
 change s 34=_ at h34
 clear hsz
 simp only[swrT,h0,h1,h3,h4,h11,h13,h14,h15,h33,h34]
 clear h0 h1 h3 h4 h11 h13 h14 h15 h33 h34
 have hk64:IntKind.i64.wrap ((i:Int)+1)=(i:Int)+1:=IntWalk.i64_in _ (by omega)
 have hin:(i:Int)<(n:Int):=by omega
 have hin2:i<n:=by omega
 have hlt:decide ((i:Int)+1<(n:Int))=true:=by simp;omega
 have hlt2:decide (i+1<n)=true:=by simp;omega
 have hmt:decide ((i:Int)+1<(m:Int))=false:=by simp;omega
 have hmt2:decide (i+1<m)=false:=by simp;omega
 rw[Frame.finish_at]
 simp only[swrr14,swrBody,Try.f56,zz,Nat.reduceAdd]
 walk_nrm
 refine ogE ?_
 rw[swrr15']
 refine ogR ?_
 simp only[swrr15,swrBody,Try.f56,zz,Nat.reduceAdd]
 iterate 3 (refine oW fun dd K hK=>?_;go_simp;refine qT hK ?_;clear hK K)
 (refine oW fun dd K hK=>?_;go_simp;refine qX hK ?_;clear hK K)
 (refine oW fun dd K hK=>?_;go_simp;refine qT hK ?_;clear hK K)
 refine oc callable57 #[.pointer (some ⟨wb,wo+i,none⟩),.int .i64 x] ?_
 refine own_one1 hc hz hnh ?_
 rw[Frame.finish_at]
 walk_nrm
 refine ogE ?_
 refine ogI ?_
 rw[swrr16']
 refine ogR ?_
 simp only[swrr16,swrBody,Try.f56,zz,Nat.reduceAdd]
 iterate 2 (refine oW fun dd K hK=>?_;go_simp;refine qT hK ?_;clear hK K)
 refine ogE ?_
 refine ogL ?_
 refine ogSR swrs17' swrr9' ?_
 simp only[swrr9,swrBody,Try.f56,zz,Nat.reduceAdd]
 (refine oW fun dd K hK=>?_;go_simp;refine qT hK ?_;clear hK K)
 refine ogE ?_
 refine ogSE swrs18' ?_
 rw[swrc35']
 refine ogT ?_
 simp only[if_true]
 refine ogK ?_
 refine ogSE swrs19' ?_
 rw[swrb3']
 refine ogB ?_
 refine ogSR swrs20' swrr10' ?_
 simp only[swrr10,swrBody,Try.f56,zz,Nat.reduceAdd]
 iterate 2 (refine oW fun dd K hK=>?_;go_simp;refine qT hK ?_;clear hK K)
 refine ogE ?_
 refine ogSR swrs21' swrr11' ?_
 simp only[swrr11,swrBody,Try.f56,zz,Nat.reduceAdd]
 (refine oW fun dd K hK=>?_;go_simp;refine qT hK ?_;clear hK K)
 refine ogE ?_
 refine ogSE swrs22' ?_
 refine ogSR swrs23' swrr12' ?_
 simp only[swrr12,swrBody,Try.f56,zz,Nat.reduceAdd]
 iterate 4 (refine oW fun dd K hK=>?_;go_simp;refine qT hK ?_;clear hK K)
 refine ogE ?_
 rw[swrc40']
 refine ogF ?_
 simp only[Bool.false_eq_true,if_false]
 refine ogK ?_
 refine ogSR swrs24' swrr14' ?_
 simp only[swrr14,swrBody,Try.f56,zz,Nat.reduceAdd]
 (refine oW fun dd K hK=>?_;go_simp;refine qT hK ?_;clear hK K)
 refine oc callable61 #[sv] ?_
 refine h _ ?_
 exact⟨rfl,rfl,rfl,rfl,rfl,rfl,rfl,rfl,rfl,rfl,rfl,trivial⟩
theorem wr_2b1{sv:Value}{lb m vc:Nat}{va:Option Addr}{wb wo n i:Nat}{v u x:Int}(hn:n≤16)(hi:i+1=n)(hc:w.cell? ⟨wb,wo+i,none⟩=some (.int .i64 u))(hz:w.frozen? ⟨wb,wo+i,none⟩=false)(hnh:¬held F ⟨wb,wo+i,none⟩){A:Array Value}(hA:Slots 63 A [(0,.pointer (some ⟨lb,0,none⟩)),(1,sv),(3,.slice va m vc),(4,.func (.func 57) #[] #[]),(11,.int .i64 v),(13,.slice (some ⟨wb,wo,none⟩) n n),(14,.int .i64 (i:Nat)),(15,.int .i64 x),(33,.int .i64 (n:Nat)),(34,.int .i64 (i:Nat))]){cs:List Frame}{main:Bool}{Stop:Goroutine→World→Prop}
 (h:∀A,Slots 63 A [(0,.pointer (some ⟨lb,0,none⟩)),(1,sv),(11,.int .i64 v)]→Own Try.prog main F Stop (G (Frame.enter Try.prog 61 #[sv] .normal) (((Go.Conc.base 56).at ⟨A,[]⟩ [.inRegion (oC swrr17) [1],.code swrs26,.inBlock 1,.code swrr20,.inLoop swrs7,.inBlock 0,.code swrs28])::cs)) (w.setCell ⟨wb,wo+i,none⟩ (.int .i64 x))):
 Own Try.prog main F Stop (G (((Go.Conc.base 56).at ⟨A,[]⟩ [.inRegion (oC swrr14) [1],.code swrr15,.inBlock 3,.code swrr16,.inLoop swrs17,.inBlock 2,.code swrs25,.inBlock 1,.code swrr20,.inLoop swrs7,.inBlock 0,.code swrs28]).finish (.tuple #[])) (cs)) w:=by
 obtain⟨hsz,h0,h1,h3,h4,h11,h13,h14,h15,h33,h34,_⟩:=hA
 obtain⟨s,rfl⟩:=swrT_of hsz
 change s 0=_ at h0
 change s 1=_ at h1
 change s 3=_ at h3
 change s 4=_ at h4
 change s 11=_ at h11
 change s 13=_ at h13
 change s 14=_ at h14
 change s 15=_ at h15
 change s 33=_ at h33
 change s 34=_ at h34
 clear hsz
 simp only[swrT,h0,h1,h3,h4,h11,h13,h14,h15,h33,h34]
 clear h0 h1 h3 h4 h11 h13 h14 h15 h33 h34
 have hk64:IntKind.i64.wrap ((i:Int)+1)=(i:Int)+1:=IntWalk.i64_in _ (by omega)
 have hin:(i:Int)<(n:Int):=by omega
 have hin2:i<n:=by omega
 have hlt:decide ((i:Int)+1<(n:Int))=false:=by simp;omega
 have hlt2:decide (i+1<n)=false:=by simp;omega
 rw[Frame.finish_at]
 simp only[swrr14,swrBody,Try.f56,zz,Nat.reduceAdd]
 walk_nrm
 refine ogE ?_
 rw[swrr15']
 refine ogR ?_
 simp only[swrr15,swrBody,Try.f56,zz,Nat.reduceAdd]
 iterate 3 (refine oW fun dd K hK=>?_;go_simp;refine qT hK ?_;clear hK K)
 (refine oW fun dd K hK=>?_;go_simp;refine qX hK ?_;clear hK K)
 (refine oW fun dd K hK=>?_;go_simp;refine qT hK ?_;clear hK K)
 refine oc callable57 #[.pointer (some ⟨wb,wo+i,none⟩),.int .i64 x] ?_
 refine own_one1 hc hz hnh ?_
 rw[Frame.finish_at]
 walk_nrm
 refine ogE ?_
 refine ogI ?_
 rw[swrr16']
 refine ogR ?_
 simp only[swrr16,swrBody,Try.f56,zz,Nat.reduceAdd]
 iterate 2 (refine oW fun dd K hK=>?_;go_simp;refine qT hK ?_;clear hK K)
 refine ogE ?_
 refine ogL ?_
 refine ogSR swrs17' swrr9' ?_
 simp only[swrr9,swrBody,Try.f56,zz,Nat.reduceAdd]
 (refine oW fun dd K hK=>?_;go_simp;refine qT hK ?_;clear hK K)
 refine ogE ?_
 refine ogSE swrs18' ?_
 rw[swrc35']
 refine ogF ?_
 simp only[Bool.false_eq_true,if_false]
 refine own_go rfl (fun d=>stepG_exit rfl) ?_
 refine ogSR swrs25' swrr17' ?_
 simp only[swrr17,swrBody,Try.f56,zz,Nat.reduceAdd]
 (refine oW fun dd K hK=>?_;go_simp;refine qT hK ?_;clear hK K)
 refine oc callable61 #[sv] ?_
 refine h _ ?_
 exact⟨rfl,rfl,rfl,rfl,trivial⟩
theorem wr_2a2{sv:Value}{lb m vc:Nat}{vb:Nat}{wb wo n i:Nat}{v u x y:Int}(hn:n≤16)(hi:i+1<n)(hc:w.cell? ⟨wb,wo+i,none⟩=some (.int .i64 u))(hz:w.frozen? ⟨wb,wo+i,none⟩=false)(hnh:¬held F ⟨wb,wo+i,none⟩)(hm:i+1<m)(hx:(w.setCell ⟨wb,wo+i,none⟩ (.int .i64 (IntKind.i64.wrap (u+x)))).cell? ⟨vb,i+1,none⟩=some (.int .i64 y)){A:Array Value}(hA:Slots 63 A [(0,.pointer (some ⟨lb,0,none⟩)),(1,sv),(3,.slice (some ⟨vb,0,none⟩) m vc),(4,.func (.func 58) #[] #[]),(11,.int .i64 v),(13,.slice (some ⟨wb,wo,none⟩) n n),(14,.int .i64 (i:Nat)),(15,.int .i64 x),(33,.int .i64 (n:Nat)),(34,.int .i64 (i:Nat))]){cs:List Frame}{main:Bool}{Stop:Goroutine→World→Prop}
 (h:∀A,Slots 63 A [(0,.pointer (some ⟨lb,0,none⟩)),(1,sv),(3,.slice (some ⟨vb,0,none⟩) m vc),(4,.func (.func 58) #[] #[]),(11,.int .i64 v),(13,.slice (some ⟨wb,wo,none⟩) n n),(14,.int .i64 (i+1:Nat)),(15,.int .i64 y),(33,.int .i64 (n:Nat)),(34,.int .i64 (i+1:Nat))]→Own Try.prog main F Stop (G (Frame.enter Try.prog 61 #[sv] .normal) (((Go.Conc.base 56).at ⟨A,[]⟩ [.inRegion (oC swrr14) [1],.code swrr15,.inBlock 3,.code swrr16,.inLoop swrs17,.inBlock 2,.code swrs25,.inBlock 1,.code swrr20,.inLoop swrs7,.inBlock 0,.code swrs28])::cs)) (w.setCell ⟨wb,wo+i,none⟩ (.int .i64 (IntKind.i64.wrap (u+x))))):
 Own Try.prog main F Stop (G (((Go.Conc.base 56).at ⟨A,[]⟩ [.inRegion (oC swrr14) [1],.code swrr15,.inBlock 3,.code swrr16,.inLoop swrs17,.inBlock 2,.code swrs25,.inBlock 1,.code swrr20,.inLoop swrs7,.inBlock 0,.code swrs28]).finish (.tuple #[])) (cs)) w:=by
 obtain⟨hsz,h0,h1,h3,h4,h11,h13,h14,h15,h33,h34,_⟩:=hA
 obtain⟨s,rfl⟩:=swrT_of hsz
 change s 0=_ at h0
 change s 1=_ at h1
 change s 3=_ at h3
 change s 4=_ at h4
 change s 11=_ at h11
 change s 13=_ at h13
 change s 14=_ at h14
 change s 15=_ at h15
 change s 33=_ at h33
 change s 34=_ at h34
 clear hsz
 simp only[swrT,h0,h1,h3,h4,h11,h13,h14,h15,h33,h34]
 clear h0 h1 h3 h4 h11 h13 h14 h15 h33 h34
 have hk64:IntKind.i64.wrap ((i:Int)+1)=(i:Int)+1:=IntWalk.i64_in _ (by omega)
 have hin:(i:Int)<(n:Int):=by omega
 have hin2:i<n:=by omega
 have hlt:decide ((i:Int)+1<(n:Int))=true:=by simp;omega
 have hlt2:decide (i+1<n)=true:=by simp;omega
 have hmt:decide ((i:Int)+1<(m:Int))=true:=by simp;omega
 have hmt2:decide (i+1<m)=true:=by simp;omega
 have hmi:(i:Int)+1<(m:Int):=by omega
 have hnn:(0:Int)≤(i:Int)+1:=by omega
 have hnb:¬((i:Int)+1<0):=by omega
 rw[Frame.finish_at]
 simp only[swrr14,swrBody,Try.f56,zz,Nat.reduceAdd]
 walk_nrm
 refine ogE ?_
 rw[swrr15']
 refine ogR ?_
 simp only[swrr15,swrBody,Try.f56,zz,Nat.reduceAdd]
 iterate 3 (refine oW fun dd K hK=>?_;go_simp;refine qT hK ?_;clear hK K)
 (refine oW fun dd K hK=>?_;go_simp;refine qX hK ?_;clear hK K)
 (refine oW fun dd K hK=>?_;go_simp;refine qT hK ?_;clear hK K)
 refine oc callable58 #[.pointer (some ⟨wb,wo+i,none⟩),.int .i64 x] ?_
 refine own_one2 hc hz hnh ?_
 rw[Frame.finish_at]
 walk_nrm
 refine ogE ?_
 refine ogI ?_
 rw[swrr16']
 refine ogR ?_
 simp only[swrr16,swrBody,Try.f56,zz,Nat.reduceAdd]
 iterate 2 (refine oW fun dd K hK=>?_;go_simp;refine qT hK ?_;clear hK K)
 refine ogE ?_
 refine ogL ?_
 refine ogSR swrs17' swrr9' ?_
 simp only[swrr9,swrBody,Try.f56,zz,Nat.reduceAdd]
 (refine oW fun dd K hK=>?_;go_simp;refine qT hK ?_;clear hK K)
 refine ogE ?_
 refine ogSE swrs18' ?_
 rw[swrc35']
 refine ogT ?_
 simp only[if_true]
 refine ogK ?_
 refine ogSE swrs19' ?_
 rw[swrb3']
 refine ogB ?_
 refine ogSR swrs20' swrr10' ?_
 simp only[swrr10,swrBody,Try.f56,zz,Nat.reduceAdd]
 iterate 2 (refine oW fun dd K hK=>?_;go_simp;refine qT hK ?_;clear hK K)
 refine ogE ?_
 refine ogSR swrs21' swrr11' ?_
 simp only[swrr11,swrBody,Try.f56,zz,Nat.reduceAdd]
 (refine oW fun dd K hK=>?_;go_simp;refine qT hK ?_;clear hK K)
 refine ogE ?_
 refine ogSE swrs22' ?_
 refine ogSR swrs23' swrr12' ?_
 simp only[swrr12,swrBody,Try.f56,zz,Nat.reduceAdd]
 iterate 4 (refine oW fun dd K hK=>?_;go_simp;refine qT hK ?_;clear hK K)
 refine ogE ?_
 rw[swrc40']
 refine ogT ?_
 simp only[if_true]
 rw[swrr13']
 refine ogR ?_
 simp only[swrr13,swrBody,Try.f56,zz,Nat.reduceAdd]
 iterate 2 (refine oW fun dd K hK=>?_;go_simp;refine qT hK ?_;clear hK K)
 (refine oW fun dd K hK=>?_;go_simp;refine qX hK ?_;clear hK K)
 (refine oW fun dd K hK=>?_;go_simp;refine qL hK ?_;clear hK K)
 (refine oW fun dd K hK=>?_;go_simp;refine qT hK ?_;clear hK K)
 refine ogE ?_
 refine ogSR swrs24' swrr14' ?_
 simp only[swrr14,swrBody,Try.f56,zz,Nat.reduceAdd]
 (refine oW fun dd K hK=>?_;go_simp;refine qT hK ?_;clear hK K)
 refine oc callable61 #[sv] ?_
 refine h _ ?_
 exact⟨rfl,rfl,rfl,rfl,rfl,rfl,rfl,rfl,rfl,rfl,rfl,trivial⟩
theorem wr_2c2{sv:Value}{lb m vc:Nat}{va:Option Addr}{wb wo n i:Nat}{v u x:Int}(hn:n≤16)(hi:i+1<n)(hc:w.cell? ⟨wb,wo+i,none⟩=some (.int .i64 u))(hz:w.frozen? ⟨wb,wo+i,none⟩=false)(hnh:¬held F ⟨wb,wo+i,none⟩)(hm:m≤i+1){A:Array Value}(hA:Slots 63 A [(0,.pointer (some ⟨lb,0,none⟩)),(1,sv),(3,.slice va m vc),(4,.func (.func 58) #[] #[]),(11,.int .i64 v),(13,.slice (some ⟨wb,wo,none⟩) n n),(14,.int .i64 (i:Nat)),(15,.int .i64 x),(33,.int .i64 (n:Nat)),(34,.int .i64 (i:Nat))]){cs:List Frame}{main:Bool}{Stop:Goroutine→World→Prop}
 (h:∀A,Slots 63 A [(0,.pointer (some ⟨lb,0,none⟩)),(1,sv),(3,.slice va m vc),(4,.func (.func 58) #[] #[]),(11,.int .i64 v),(13,.slice (some ⟨wb,wo,none⟩) n n),(14,.int .i64 (i+1:Nat)),(15,.int .i64 0),(33,.int .i64 (n:Nat)),(34,.int .i64 (i+1:Nat))]→Own Try.prog main F Stop (G (Frame.enter Try.prog 61 #[sv] .normal) (((Go.Conc.base 56).at ⟨A,[]⟩ [.inRegion (oC swrr14) [1],.code swrr15,.inBlock 3,.code swrr16,.inLoop swrs17,.inBlock 2,.code swrs25,.inBlock 1,.code swrr20,.inLoop swrs7,.inBlock 0,.code swrs28])::cs)) (w.setCell ⟨wb,wo+i,none⟩ (.int .i64 (IntKind.i64.wrap (u+x))))):
 Own Try.prog main F Stop (G (((Go.Conc.base 56).at ⟨A,[]⟩ [.inRegion (oC swrr14) [1],.code swrr15,.inBlock 3,.code swrr16,.inLoop swrs17,.inBlock 2,.code swrs25,.inBlock 1,.code swrr20,.inLoop swrs7,.inBlock 0,.code swrs28]).finish (.tuple #[])) (cs)) w:=by
 obtain⟨hsz,h0,h1,h3,h4,h11,h13,h14,h15,h33,h34,_⟩:=hA
 obtain⟨s,rfl⟩:=swrT_of hsz
 change s 0=_ at h0
 change s 1=_ at h1
 change s 3=_ at h3
 change s 4=_ at h4
 change s 11=_ at h11
 change s 13=_ at h13
 change s 14=_ at h14
 change s 15=_ at h15
 change s 33=_ at h33
 change s 34=_ at h34
 clear hsz
 simp only[swrT,h0,h1,h3,h4,h11,h13,h14,h15,h33,h34]
 clear h0 h1 h3 h4 h11 h13 h14 h15 h33 h34
 have hk64:IntKind.i64.wrap ((i:Int)+1)=(i:Int)+1:=IntWalk.i64_in _ (by omega)
 have hin:(i:Int)<(n:Int):=by omega
 have hin2:i<n:=by omega
 have hlt:decide ((i:Int)+1<(n:Int))=true:=by simp;omega
 have hlt2:decide (i+1<n)=true:=by simp;omega
 have hmt:decide ((i:Int)+1<(m:Int))=false:=by simp;omega
 have hmt2:decide (i+1<m)=false:=by simp;omega
 rw[Frame.finish_at]
 simp only[swrr14,swrBody,Try.f56,zz,Nat.reduceAdd]
 walk_nrm
 refine ogE ?_
 rw[swrr15']
 refine ogR ?_
 simp only[swrr15,swrBody,Try.f56,zz,Nat.reduceAdd]
 iterate 3 (refine oW fun dd K hK=>?_;go_simp;refine qT hK ?_;clear hK K)
 (refine oW fun dd K hK=>?_;go_simp;refine qX hK ?_;clear hK K)
 (refine oW fun dd K hK=>?_;go_simp;refine qT hK ?_;clear hK K)
 refine oc callable58 #[.pointer (some ⟨wb,wo+i,none⟩),.int .i64 x] ?_
 refine own_one2 hc hz hnh ?_
 rw[Frame.finish_at]
 walk_nrm
 refine ogE ?_
 refine ogI ?_
 rw[swrr16']
 refine ogR ?_
 simp only[swrr16,swrBody,Try.f56,zz,Nat.reduceAdd]
 iterate 2 (refine oW fun dd K hK=>?_;go_simp;refine qT hK ?_;clear hK K)
 refine ogE ?_
 refine ogL ?_
 refine ogSR swrs17' swrr9' ?_
 simp only[swrr9,swrBody,Try.f56,zz,Nat.reduceAdd]
 (refine oW fun dd K hK=>?_;go_simp;refine qT hK ?_;clear hK K)
 refine ogE ?_
 refine ogSE swrs18' ?_
 rw[swrc35']
 refine ogT ?_
 simp only[if_true]
 refine ogK ?_
 refine ogSE swrs19' ?_
 rw[swrb3']
 refine ogB ?_
 refine ogSR swrs20' swrr10' ?_
 simp only[swrr10,swrBody,Try.f56,zz,Nat.reduceAdd]
 iterate 2 (refine oW fun dd K hK=>?_;go_simp;refine qT hK ?_;clear hK K)
 refine ogE ?_
 refine ogSR swrs21' swrr11' ?_
 simp only[swrr11,swrBody,Try.f56,zz,Nat.reduceAdd]
 (refine oW fun dd K hK=>?_;go_simp;refine qT hK ?_;clear hK K)
 refine ogE ?_
 refine ogSE swrs22' ?_
 refine ogSR swrs23' swrr12' ?_
 simp only[swrr12,swrBody,Try.f56,zz,Nat.reduceAdd]
 iterate 4 (refine oW fun dd K hK=>?_;go_simp;refine qT hK ?_;clear hK K)
 refine ogE ?_
 rw[swrc40']
 refine ogF ?_
 simp only[Bool.false_eq_true,if_false]
 refine ogK ?_
 refine ogSR swrs24' swrr14' ?_
 simp only[swrr14,swrBody,Try.f56,zz,Nat.reduceAdd]
 (refine oW fun dd K hK=>?_;go_simp;refine qT hK ?_;clear hK K)
 refine oc callable61 #[sv] ?_
 refine h _ ?_
 exact⟨rfl,rfl,rfl,rfl,rfl,rfl,rfl,rfl,rfl,rfl,rfl,trivial⟩
theorem wr_2b2{sv:Value}{lb m vc:Nat}{va:Option Addr}{wb wo n i:Nat}{v u x:Int}(hn:n≤16)(hi:i+1=n)(hc:w.cell? ⟨wb,wo+i,none⟩=some (.int .i64 u))(hz:w.frozen? ⟨wb,wo+i,none⟩=false)(hnh:¬held F ⟨wb,wo+i,none⟩){A:Array Value}(hA:Slots 63 A [(0,.pointer (some ⟨lb,0,none⟩)),(1,sv),(3,.slice va m vc),(4,.func (.func 58) #[] #[]),(11,.int .i64 v),(13,.slice (some ⟨wb,wo,none⟩) n n),(14,.int .i64 (i:Nat)),(15,.int .i64 x),(33,.int .i64 (n:Nat)),(34,.int .i64 (i:Nat))]){cs:List Frame}{main:Bool}{Stop:Goroutine→World→Prop}
 (h:∀A,Slots 63 A [(0,.pointer (some ⟨lb,0,none⟩)),(1,sv),(11,.int .i64 v)]→Own Try.prog main F Stop (G (Frame.enter Try.prog 61 #[sv] .normal) (((Go.Conc.base 56).at ⟨A,[]⟩ [.inRegion (oC swrr17) [1],.code swrs26,.inBlock 1,.code swrr20,.inLoop swrs7,.inBlock 0,.code swrs28])::cs)) (w.setCell ⟨wb,wo+i,none⟩ (.int .i64 (IntKind.i64.wrap (u+x))))):
 Own Try.prog main F Stop (G (((Go.Conc.base 56).at ⟨A,[]⟩ [.inRegion (oC swrr14) [1],.code swrr15,.inBlock 3,.code swrr16,.inLoop swrs17,.inBlock 2,.code swrs25,.inBlock 1,.code swrr20,.inLoop swrs7,.inBlock 0,.code swrs28]).finish (.tuple #[])) (cs)) w:=by
 obtain⟨hsz,h0,h1,h3,h4,h11,h13,h14,h15,h33,h34,_⟩:=hA
 obtain⟨s,rfl⟩:=swrT_of hsz
 change s 0=_ at h0
 change s 1=_ at h1
 change s 3=_ at h3
 change s 4=_ at h4
 change s 11=_ at h11
 change s 13=_ at h13
 change s 14=_ at h14
 change s 15=_ at h15
 change s 33=_ at h33
 change s 34=_ at h34
 clear hsz
 simp only[swrT,h0,h1,h3,h4,h11,h13,h14,h15,h33,h34]
 clear h0 h1 h3 h4 h11 h13 h14 h15 h33 h34
 have hk64:IntKind.i64.wrap ((i:Int)+1)=(i:Int)+1:=IntWalk.i64_in _ (by omega)
 have hin:(i:Int)<(n:Int):=by omega
 have hin2:i<n:=by omega
 have hlt:decide ((i:Int)+1<(n:Int))=false:=by simp;omega
 have hlt2:decide (i+1<n)=false:=by simp;omega
 rw[Frame.finish_at]
 simp only[swrr14,swrBody,Try.f56,zz,Nat.reduceAdd]
 walk_nrm
 refine ogE ?_
 rw[swrr15']
 refine ogR ?_
 simp only[swrr15,swrBody,Try.f56,zz,Nat.reduceAdd]
 iterate 3 (refine oW fun dd K hK=>?_;go_simp;refine qT hK ?_;clear hK K)
 (refine oW fun dd K hK=>?_;go_simp;refine qX hK ?_;clear hK K)
 (refine oW fun dd K hK=>?_;go_simp;refine qT hK ?_;clear hK K)
 refine oc callable58 #[.pointer (some ⟨wb,wo+i,none⟩),.int .i64 x] ?_
 refine own_one2 hc hz hnh ?_
 rw[Frame.finish_at]
 walk_nrm
 refine ogE ?_
 refine ogI ?_
 rw[swrr16']
 refine ogR ?_
 simp only[swrr16,swrBody,Try.f56,zz,Nat.reduceAdd]
 iterate 2 (refine oW fun dd K hK=>?_;go_simp;refine qT hK ?_;clear hK K)
 refine ogE ?_
 refine ogL ?_
 refine ogSR swrs17' swrr9' ?_
 simp only[swrr9,swrBody,Try.f56,zz,Nat.reduceAdd]
 (refine oW fun dd K hK=>?_;go_simp;refine qT hK ?_;clear hK K)
 refine ogE ?_
 refine ogSE swrs18' ?_
 rw[swrc35']
 refine ogF ?_
 simp only[Bool.false_eq_true,if_false]
 refine own_go rfl (fun d=>stepG_exit rfl) ?_
 refine ogSR swrs25' swrr17' ?_
 simp only[swrr17,swrBody,Try.f56,zz,Nat.reduceAdd]
 (refine oW fun dd K hK=>?_;go_simp;refine qT hK ?_;clear hK K)
 refine oc callable61 #[sv] ?_
 refine h _ ?_
 exact⟨rfl,rfl,rfl,rfl,trivial⟩
theorem wr_3{sv:Value}{lb:Nat}{v:Int}{u:Value}(hc:w.cell? ⟨lb,0,none⟩=some u)(hz:w.frozen? ⟨lb,0,none⟩=false)(hnh:¬held F ⟨lb,0,none⟩){A:Array Value}(hA:Slots 63 A [(0,.pointer (some ⟨lb,0,none⟩)),(1,sv),(11,.int .i64 v)]){c:Frame}{cs:List Frame}{main:Bool}{Stop:Goroutine→World→Prop}
 (h:Own Try.prog main F Stop (G (c.finish (.bool true)) cs) (w.setCell ⟨lb,0,none⟩ (.int .i64 (w64 (v+2))))):
 Own Try.prog main F Stop (G (((Go.Conc.base 56).at ⟨A,[]⟩ [.inRegion (oC swrr17) [1],.code swrs26,.inBlock 1,.code swrr20,.inLoop swrs7,.inBlock 0,.code swrs28]).finish (.tuple #[])) (c::cs)) w:=by
 obtain⟨hsz,h0,h1,h11,_⟩:=hA
 obtain⟨s,rfl⟩:=swrT_of hsz
 change s 0=_ at h0
 change s 1=_ at h1
 change s 11=_ at h11
 clear hsz
 simp only[swrT,h0,h1,h11]
 clear h0 h1 h11
 rw[Frame.finish_at]
 simp only[swrr17,swrBody,Try.f56,zz,Nat.reduceAdd]
 walk_nrm
 refine ogE ?_
 refine ogSR swrs26' swrr18' ?_
 simp only[swrr18,swrBody,Try.f56,zz,Nat.reduceAdd]
 iterate 5 (refine oW fun dd K hK=>?_;go_simp;refine qT hK ?_;clear hK K)
 refine oc callable52 #[.pointer (some ⟨lb,0,none⟩),.int .i64 (w64 (v+2))] ?_
 refine own_stI hc rfl hz hnh ?_
 rw[Frame.finish_at]
 walk_nrm
 refine ogE ?_
 refine ogSR swrs27' swrr19' ?_
 simp only[swrr19,swrBody,Try.f56,zz,Nat.reduceAdd]
 (refine oW fun dd K hK=>?_;go_simp;refine qT hK ?_;clear hK K)
 refine ogE ?_
 refine ogX ?_
 refine own_go rfl (fun d=>stepG_leave (fn:=Try.f56) (v:=.bool true) rfl rfl Try.func56 (by simp[results,Try.f56]) (by simp[results,Try.f56,go_sem])) ?_
 exact h
def sWWBody:Code:=Try.f24.body.getD .skip
def sWWs0:=pC [] sWWBody
def sWWr0:=pC [zt] sWWBody
def sWWs1:=pC [zf] sWWBody
def sWWr1:=pC [zf,zt] sWWBody
theorem sWWs0':sWWs0= .seq sWWr0 sWWs1:=by kernel_rfl
theorem sWWr0':sWWr0= .region 0 (oC sWWr0) false:=by kernel_rfl
theorem sWWs1':sWWs1= .seq sWWr1 .ret:=by kernel_rfl
theorem sWWr1':sWWr1= .region 1 (oC sWWr1) false:=by kernel_rfl
theorem enter_sWW(args:Array Value):Frame.enter Try.prog 24 args .normal=(Go.Conc.base 24).at {tmps:=args++Array.replicate (14 - args.size) undef,defers:=[]} [.code sWWs0]:=enter_at args Try.func24 rfl
theorem callable24:Callable 24:=callable Try.func24 rfl rfl
def sWWT(s:Nat→Value):Array Value:= #[s 0,s 1,s 2,s 3,s 4,s 5,s 6,s 7,s 8,s 9,s 10,s 11,s 12,s 13]
theorem sWWT_of{A:Array Value}(h:A.size=14):∃s,A=sWWT s:=by
 obtain⟨s,hs,_⟩:=arr_lit A h
 exact⟨s,hs⟩
theorem ww_01{sv:Value}{lb:Nat}{va:Option Addr}{m vc:Nat}{a:Int}{cs:List Frame}{main:Bool}{Stop:Goroutine→World→Prop}
 (h:∀A,A.size=14→Own Try.prog main F Stop (G (Frame.enter Try.prog 56 #[.pointer (some ⟨lb,0,none⟩),sv,.int .i64 a,.slice va m vc,.func (.func 57) #[] #[]] .normal) (((Go.Conc.base 24).at ⟨A,[]⟩ [.inRegion (oC sWWr1) [4,5],.code .ret])::cs)) w):
 Own Try.prog main F Stop (G (Frame.enter Try.prog 24 #[.pointer (some ⟨lb,0,none⟩),sv,.int .i64 a,.slice va m vc] .normal) cs) w:=by
 rw[enter_sWW]
 walk_nrm
 refine ogSR sWWs0' sWWr0' ?_
 simp only[sWWr0,sWWBody,Try.f24,zz,Nat.reduceAdd]
 (refine oW fun dd K hK=>?_;go_simp;refine qT hK ?_;clear hK K)
 refine ogE ?_
 refine ogSR sWWs1' sWWr1' ?_
 simp only[sWWr1,sWWBody,Try.f24,zz,Nat.reduceAdd]
 iterate 4 (refine oW fun dd K hK=>?_;go_simp;refine qT hK ?_;clear hK K)
 refine oc callable56 #[.pointer (some ⟨lb,0,none⟩),sv,.int .i64 a,.slice va m vc,.func (.func 57) #[] #[]] ?_
 exact h _ rfl
theorem ww_11{b:Bool}{A:Array Value}(hsz:A.size=14){c:Frame}{cs:List Frame}{main:Bool}{Stop:Goroutine→World→Prop}(h:Own Try.prog main F Stop (G (c.finish (.bool b)) cs) w):Own Try.prog main F Stop (G (((Go.Conc.base 24).at ⟨A,[]⟩ [.inRegion (oC sWWr1) [4,5],.code .ret]).finish (.bool b)) (c::cs)) w:=by
 obtain⟨s,rfl⟩:=sWWT_of hsz
 clear hsz
 simp only[sWWT]
 rw[Frame.finish_at]
 simp only[sWWr1,sWWBody,Try.f24,zz,Nat.reduceAdd]
 walk_nrm
 (refine oW fun dd K hK=>?_;go_simp;refine qT hK ?_;clear hK K)
 refine ogE ?_
 refine ogX ?_
 refine own_go rfl (fun d=>stepG_leave (fn:=Try.f24) (v:=.bool b) rfl rfl Try.func24 (by simp[results,Try.f24]) (by simp[results,Try.f24,go_sem])) ?_
 exact h
def sAABody:Code:=Try.f25.body.getD .skip
def sAAs0:=pC [] sAABody
def sAAr0:=pC [zt] sAABody
def sAAs1:=pC [zf] sAABody
def sAAr1:=pC [zf,zt] sAABody
theorem sAAs0':sAAs0= .seq sAAr0 sAAs1:=by kernel_rfl
theorem sAAr0':sAAr0= .region 0 (oC sAAr0) false:=by kernel_rfl
theorem sAAs1':sAAs1= .seq sAAr1 .ret:=by kernel_rfl
theorem sAAr1':sAAr1= .region 1 (oC sAAr1) false:=by kernel_rfl
theorem enter_sAA(args:Array Value):Frame.enter Try.prog 25 args .normal=(Go.Conc.base 25).at {tmps:=args++Array.replicate (14 - args.size) undef,defers:=[]} [.code sAAs0]:=enter_at args Try.func25 rfl
theorem callable25:Callable 25:=callable Try.func25 rfl rfl
def sAAT(s:Nat→Value):Array Value:= #[s 0,s 1,s 2,s 3,s 4,s 5,s 6,s 7,s 8,s 9,s 10,s 11,s 12,s 13]
theorem sAAT_of{A:Array Value}(h:A.size=14):∃s,A=sAAT s:=by
 obtain⟨s,hs,_⟩:=arr_lit A h
 exact⟨s,hs⟩
theorem ww_02{sv:Value}{lb:Nat}{va:Option Addr}{m vc:Nat}{a:Int}{cs:List Frame}{main:Bool}{Stop:Goroutine→World→Prop}
 (h:∀A,A.size=14→Own Try.prog main F Stop (G (Frame.enter Try.prog 56 #[.pointer (some ⟨lb,0,none⟩),sv,.int .i64 a,.slice va m vc,.func (.func 58) #[] #[]] .normal) (((Go.Conc.base 25).at ⟨A,[]⟩ [.inRegion (oC sAAr1) [4,5],.code .ret])::cs)) w):
 Own Try.prog main F Stop (G (Frame.enter Try.prog 25 #[.pointer (some ⟨lb,0,none⟩),sv,.int .i64 a,.slice va m vc] .normal) cs) w:=by
 rw[enter_sAA]
 walk_nrm
 refine ogSR sAAs0' sAAr0' ?_
 simp only[sAAr0,sAABody,Try.f25,zz,Nat.reduceAdd]
 (refine oW fun dd K hK=>?_;go_simp;refine qT hK ?_;clear hK K)
 refine ogE ?_
 refine ogSR sAAs1' sAAr1' ?_
 simp only[sAAr1,sAABody,Try.f25,zz,Nat.reduceAdd]
 iterate 4 (refine oW fun dd K hK=>?_;go_simp;refine qT hK ?_;clear hK K)
 refine oc callable56 #[.pointer (some ⟨lb,0,none⟩),sv,.int .i64 a,.slice va m vc,.func (.func 58) #[] #[]] ?_
 exact h _ rfl
theorem ww_12{b:Bool}{A:Array Value}(hsz:A.size=14){c:Frame}{cs:List Frame}{main:Bool}{Stop:Goroutine→World→Prop}(h:Own Try.prog main F Stop (G (c.finish (.bool b)) cs) w):Own Try.prog main F Stop (G (((Go.Conc.base 25).at ⟨A,[]⟩ [.inRegion (oC sAAr1) [4,5],.code .ret]).finish (.bool b)) (c::cs)) w:=by
 obtain⟨s,rfl⟩:=sAAT_of hsz
 clear hsz
 simp only[sAAT]
 rw[Frame.finish_at]
 simp only[sAAr1,sAABody,Try.f25,zz,Nat.reduceAdd]
 walk_nrm
 (refine oW fun dd K hK=>?_;go_simp;refine qT hK ?_;clear hK K)
 refine ogE ?_
 refine ogX ?_
 refine own_go rfl (fun d=>stepG_leave (fn:=Try.f25) (v:=.bool b) rfl rfl Try.func25 (by simp[results,Try.f25]) (by simp[results,Try.f25,go_sem])) ?_
 exact h
end
section
variable{w w':World}
theorem cell_heap{b j:Nat}(hw:w'.heap[b]? =w.heap[b]?):w'.cell? ⟨b,j,none⟩=w.cell? ⟨b,j,none⟩∧w'.frozen? ⟨b,j,none⟩=w.frozen? ⟨b,j,none⟩:=by
 constructor
 ·unfold World.cell?;simp only[hw]
 ·unfold World.frozen?;simp only[hw]
theorem row_cells{base n size cap g:Nat}{e:TypeId}{xs:List Value}(h:w.ownsRow base e size (.slice (some ⟨g,0,none⟩) n cap) n xs):∀j u,xs[j]? =some u→w.cell? ((⟨g,0,none⟩:Addr).add j)=some u:=by
 intro j u hj
 obtain⟨b,c,e1,h1⟩:=row_get h hj
 cases e1
 have e1:(⟨g,0,none⟩:Addr).add j=⟨g,j,none⟩:=by
  unfold Addr.add
  split
  ·subst_vars;rfl
  ·simp
 rw[e1]
 exact h1.c
theorem run_append_fresh{P:Program}{w:World}(t ty e:TypeId)(i:TypeInfo)(z:Value)(size bytes:Nat)(ht:P.underlying t=some (.slice e))(hi:P.info? e=some i)(hz:i.zero=some z)
 (hsize:i.size=size) (hby:i.bytes=bytes) (hzs:z.cells.size=size) (hsz:0<size)
 (v:Value) (n:Nat) (xs:List Value) (hown:w.ownsRow 0 e size v n xs)
 (a:Addr) (m c:Nat) (news:List Value) (hl:news.length=m*size) (hnews:∀j u,news[j]? =some u→w.cell? (a.add j)=some u) (h1:∀u∈news,u.oneCell'=true)
 (h63:n+m≤maxLen) (hbytes:(n+m)*bytes≤140737488355328):
 ∃v' w',(Builtin.append_ #[t,t] ty #[v,.slice (some a) m c]).run P w= .ok v' w'∧w'.ownsRow 0 e size v' (n+m) (xs++news)∧w.grownBy w' v.ownBlock∧(v'.ownBlock=v.ownBlock∨∃g,v'.ownBlock=some g∧w.heap.size≤g):=by
 rcases hown.2 with⟨rfl,rfl⟩|⟨g,cap,cur,rfl,h2,h3,h4,h5,h6,h7⟩
 ·have hxs:xs=[]:=List.eq_nil_of_length_eq_zero (by have:=hown.1;simpa using this)
  subst hxs
  obtain⟨v',w',hrun,r1,r2,_⟩:=run_append_own (P:=P) w w.heap.size t ty e i z size bytes ht hi hz hsize hby hzs hsz (.slice none 0 0) 0 [] (World.ownsRow_nil w _ e size) a m c news hl hnews h1 h63 hbytes (Nat.le_refl _)
  refine⟨v',w',hrun,ownsRow_mono_base (Nat.zero_le _) r1,r2,?_⟩
  rcases r1.2 with⟨rfl,_⟩|⟨g',cap',cur',rfl,h2,_⟩
  ·exact .inl rfl
  ·exact .inr ⟨g',rfl,h2⟩
 ·by_cases hroom:n+m≤cap
  ·obtain⟨w',hr,r1,r2⟩:=run_append_own_spare (P:=P) w 0 t ty e i size ht hi hsize g n cap xs hown a m c news hl hnews h1 hroom
   exact⟨_,w',hr,r1,r2,.inl rfl⟩
  ·obtain⟨v',w',hrun,r1,r2⟩:=run_append_arg_grows (P:=P) w t ty e i z size bytes ht hi hz hsize hby hzs hsz ⟨g,0,none⟩ n cap xs hown.1 (row_cells hown) a m c news hl hnews (by omega) h63 hbytes
   refine⟨v',w',hrun,ownsRow_mono_base (Nat.zero_le _) r1,⟨r2.os,r2.tape,r2.output,r2.size,fun k hk _=>r2.block k hk (by simp)⟩,?_⟩
   rcases r1.2 with⟨rfl,h0⟩|⟨g',cap',cur',rfl,h2,_⟩
   ·omega
   ·exact .inr ⟨g',rfl,h2⟩
theorem step_append_fresh{P:Program}{ops:Array Oper}{o:Oper}{a:Act}{w:World}{K:Act→World→Prop}{Q:Exit→Act→World→Prop}{E:Prop}
 (hg:o.guard=none) (s x:Operand) (t:TypeId) (hop:o.op=Op.call {callee:=Callee.builtin Builtin.append,args:= #[s,x],argTypes:= #[t,t]})
 (e:TypeId) (i:TypeInfo) (z:Value) (size bytes:Nat) (h1:P.underlying t=some (.slice e)) (h2:P.info? e=some i) (h3:i.zero=some z) (h4:i.size=size) (h5:i.bytes=bytes) (h6:z.cells.size=size) (h7:0<size)
 (v:Value) (n:Nat) (olds:List Value) (hs:a.eval s=v) (hown:w.ownsRow 0 e size v n olds)
 (ad:Addr) (m c:Nat) (news:List Value) (hx:a.eval x= .slice (some ad) m c) (hn:news.length=m*size) (hc:∀j u,news[j]? =some u→w.cell? (ad.add j)=some u) (h1c:∀u∈news,u.oneCell'=true)
 (b1:n+m≤maxLen) (b2:(n+m)*bytes≤140737488355328)
 (hK:∀v' w',w'.ownsRow 0 e size v' (n+m) (olds++news)→w.grownBy w' v.ownBlock→(v'.ownBlock=v.ownBlock∨∃g,v'.ownBlock=some g∧w.heap.size≤g)→K (a.put o.dst v') w'):
 if Region.wanted o (yielded ops a.tmps)=true then Oper.wp P o a w K Q else E:=by
 have hw:Region.wanted o (yielded ops a.tmps)=true:=by simp[Region.wanted,hg]
 rw[if_pos hw]
 obtain⟨v',w',hrun,r1,r2,r3⟩:=run_append_fresh (P:=P) (w:=w) t o.type e i z size bytes h1 h2 h3 h4 h5 h6 h7 v n olds hown ad m c news hn hc h1c b1 b2
 unfold Oper.wp
 simp[execOp,hop,resolve,invoke,builtin,hs,hx,hrun,Result.andThen]
 exact hK v' w' r1 r2 r3
theorem wpList_append_fresh{P:Program}{ops:Array Oper}{rest:List Oper}{o:Oper}{a:Act}{w:World}{Q:Exit→Act→World→Prop}(hgd:o.guard=none)(s x:Operand)(t:TypeId)
 (ho:o.op= .call {callee:=.builtin .append,args:= #[s,x],argTypes:= #[t,t]})
 (e:TypeId) (i:TypeInfo) (z:Value) (size bytes:Nat) (h1:P.underlying t=some (.slice e)) (h2:P.info? e=some i) (h3:i.zero=some z) (h4:i.size=size) (h5:i.bytes=bytes) (h6:z.cells.size=size) (h7:0<size)
 (v:Value) (n:Nat) (olds:List Value) (hs:a.eval s=v) (hown:w.ownsRow 0 e size v n olds)
 (ad:Addr) (m c:Nat) (news:List Value) (hx:a.eval x= .slice (some ad) m c) (hn:news.length=m*size) (hc:∀j u,news[j]? =some u→w.cell? (ad.add j)=some u) (h1c:∀u∈news,u.oneCell'=true)
 (b1:n+m≤maxLen) (b2:(n+m)*bytes≤140737488355328)
 (h:∀v' w',w'.ownsRow 0 e size v' (n+m) (olds++news)→w.grownBy w' v.ownBlock→(v'.ownBlock=v.ownBlock∨∃g,v'.ownBlock=some g∧w.heap.size≤g)→wpList P ops Q rest (a.put o.dst v') w'):wpList P ops Q (o::rest) a w:=
 wpList_plain hgd fun _ hK=>by
  obtain⟨v',w',hrun,r1,r2,r3⟩:=run_append_fresh (P:=P) (w:=w) t o.type e i z size bytes h1 h2 h3 h4 h5 h6 h7 v n olds hown ad m c news hn hc h1c b1 b2
  unfold Oper.wp execOp
  simp only[ho,resolve,invoke,builtin,Sem.run_bind,Sem.run_pure,Result.andThen_ok,List.map_toArray,List.map_cons,List.map_nil,hs,hx,hrun]
  exact hK _ _ (h v' w' r1 r2 r3)
theorem infoOf{P:Program}{t:TypeId}{s b:Nat}(h:(P.info? t).map (fun i=>(i.zero.map (·.cells.size),i.size,i.bytes))=some (some s,s,b)):∃i z,P.info? t=some i∧i.zero=some z∧i.size=s∧i.bytes=b∧z.cells.size=s:=by
 obtain⟨i,hi,h1⟩:=Option.map_eq_some_iff.1 h
 simp only[Prod.mk.injEq]at h1
 obtain⟨z,hz,h2⟩:=Option.map_eq_some_iff.1 h1.1
 exact⟨i,z,hi,hz,h1.2.1,h1.2.2,h2⟩
theorem infoA2:∃i z,Try.prog.info? 2=some i∧i.zero=some z∧i.size=1∧i.bytes=8∧z.cells.size=1:=infoOf (by kernel_rfl)
theorem new_cells{X:World}{l:List Value}{e:TypeId}{z:Nat}(hz:X.heap.size=z):∀(j:Nat) (u:Value),l[j]? =some u→(X.alloc (.cells l.toArray e)).cell? ((⟨z,0,none⟩:Addr).add j)=some u:=by
 intro j u h
 subst hz
 have hb:=heap_alloc_new X (.cells l.toArray e)
 have e1:(⟨X.heap.size,0,none⟩:Addr).add j=⟨X.heap.size,j,none⟩:=by
  unfold Addr.add
  split
  ·subst_vars;rfl
  ·simp
 rw[e1]
 simp only[World.cell?,hb]
 simpa using h
theorem own_slice{v:Value}{base n size:Nat}{e:TypeId}{xs:List Value}(h:w.ownsRow base e size v (n+1) xs):∃g cap,v= .slice (some ⟨g,0,none⟩) (n+1) cap:=by
 rcases h.2 with⟨_,h⟩|⟨g,cap,_,h,_⟩
 ·omega
 ·exact⟨g,cap,h⟩
theorem grown_old{W w1:World}{o:Obj}{row:Option Nat}(hg:(W.alloc o).grownBy w1 row){r:Nat}(hr:r<W.heap.size)(hne:some r≠row):w1.heap[r]? =W.heap[r]?:=
 (hg.block r (by simp;omega) hne).trans (heap_alloc_lt _ _ hr)
structure ValsAt(w wr:World)(ov:Value)(xs:List Int):Prop where
 row:wr.ownsRow 0 2 1 ov xs.length (xs.map fun v=>.int .i64 v)
 size:w.heap.size≤wr.heap.size
 old:∀r,r<w.heap.size→wr.heap[r]? =w.heap[r]?
 new:∀g,ov.ownBlock=some g→w.heap.size≤g
structure RRow(w:World)(a:Option Addr)(xs:List Value):Prop where
 c:∀k x,xs[k]? =some x→∃b o,a=some ⟨b,o,none⟩∧w.cell? ⟨b,o+k,none⟩=some x
theorem RRow.heap{a:Option Addr}{xs:List Value}(h:RRow w a xs)(e:w'.heap=w.heap):RRow w' a xs:=
 ⟨fun k x hx=>by
  obtain⟨b,o,h1,h2⟩:=h.c k x hx
  exact⟨b,o,h1,by simpa only[World.cell?,e]using h2⟩⟩
theorem rrow_of{base n size c:Nat}{e:TypeId}{a:Option Addr}{xs:List Value}(h:w.ownsRow base e size (.slice a n c) n xs):RRow w a xs:=
 ⟨fun k x hx=>by
  obtain⟨b,cap,e1,h1⟩:=row_get h hx
  cases e1
  exact⟨b,0,rfl,by rw[Nat.zero_add];exact h1.c⟩⟩
end
noncomputable section
variable{F:Fz}{w:World}
theorem own_op_lift{b:Frame}{a:Act}{k:List Item}{cs:List Frame}{ops:Array Oper}{i:Nat}{rest:List Nat}{o:Oper}{main:Bool}{Stop:Goroutine→World→Prop}(ho:ops[i]? =some o)(hwn:Region.wanted o (yielded ops a.tmps)=true)(hk:b.kind≠.early)(hok:opOk Try.prog (fun _=>false) false o.op=true)(hw:Wf F w)
 (H:∀d,∃v u,(execOp a.eval o).run Try.prog (mask F (w.at d))= .ok (.value v) u∧∀w',u=mask F w'→(∃j,Grew F (w.at d) w' j)→Wf F w'→Own Try.prog main F Stop (G (b.at (a.put o.dst v) (.inRegion ops rest::k)) cs) w'):
 Own Try.prog main F Stop (G (b.at a (.inRegion ops (i::rest)::k)) cs) w:=by
 refine oW (fun d K hK=>?_) ho hwn hk
 obtain⟨v,u,hr,hc⟩:=H d
 have hs:=execOp_sims (P:=Try.prog) (F:=F) (S:=fun _=>false) (px:=false) (fun f h=>by cases h) (fun h=>by cases h) a.eval (fun _=>rfl) (fun _=>rfl) o hok (w.at d) ⟨hw.own⟩
 obtain⟨w',es,j,hu,r1,e1,t1,g1,hw1,_⟩:=hs.ok hr
 rw[r1]
 refine hK _ _ ⟨⟨⟨j,g1⟩,fun e he=>?_⟩,hc w' hu ⟨j,g1⟩ hw1⟩
 have hm:=mem_listed he
 rw[e1]at hm
 exact t1 e (by simpa using hm)
theorem own_append{t e:TypeId}{sz bytes:Nat}(ht:Try.prog.underlying t=some (.slice e))(hi:∃i z,Try.prog.info? e=some i∧i.zero=some z∧i.size=sz∧i.bytes=bytes∧z.cells.size=sz)(hsz:0<sz)
 {b:Frame} {a:Act} {k:List Item} {cs:List Frame} {ops:Array Oper} {i:Nat} {rest:List Nat} {o:Oper} {main:Bool} {Stop:Goroutine→World→Prop} {s x:Operand} (ho:ops[i]? =some o) (hwn:Region.wanted o (yielded ops a.tmps)=true) (hk:b.kind≠.early)
 (hop:o.op= .call {callee:=.builtin .append,args:= #[s,x],argTypes:= #[t,t]}) (hw:Wf F w) {v:Value} {n m c:Nat} {xs news:List Value} {ad:Addr} (hs:a.eval s=v) (hx:a.eval x= .slice (some ad) m c) (hrow:w.ownsRow 0 e sz v n xs) (hF:∀b,v.ownBlock=some b→F b=none)
 (hl:news.length=m*sz) (hc:∀j u,news[j]? =some u→w.cell? (ad.add j)=some u) (h1:∀u∈news,u.oneCell'=true) (b1:n+m≤maxLen) (b2:(n+m)*bytes≤140737488355328)
 (K:∀v' w',w'.ownsRow 0 e sz v' (n+m) (xs++news)→Wf F w'→w.heap.size≤w'.heap.size→(∀r,r<w.heap.size→some r≠v.ownBlock→w'.heap[r]? =w.heap[r]?)→(v'.ownBlock=v.ownBlock∨∃g,v'.ownBlock=some g∧w.heap.size≤g)→Own Try.prog main F Stop (G (b.at (a.put o.dst v') (.inRegion ops rest::k)) cs) w'):
 Own Try.prog main F Stop (G (b.at a (.inRegion ops (i::rest)::k)) cs) w:=by
 obtain⟨i0,z0,q1,q2,q3,q4,q5⟩:=hi
 refine own_op_lift ho hwn hk (by rw[hop];rfl) hw fun d=>?_
 have hrowm:(mask F (w.at d)).ownsRow 0 e sz v n xs:=ownsRow_same2 hrow fun b hb _=>by rw[mask_at_none (hF b hb)];rfl
 obtain⟨v',u,hr,r1,r2,r3⟩:=run_append_fresh (P:=Try.prog) (w:=mask F (w.at d)) t o.type e i0 z0 sz bytes ht q1 q2 q3 q4 q5 hsz v n xs hrowm ad m c news hl (fun j u hu=>(mask_at_cell _).trans (hc j u hu)) h1 b1 b2
 refine⟨v',u,run_append_op s x t hop hs hx hr,fun w' hu hg hw'=>?_⟩
 subst hu
 obtain⟨j,hg⟩:=hg
 have hsm:(mask F (w.at d)).heap.size=w.heap.size:=by rw[mask_size];rfl
 have hs2:w.heap.size≤w'.heap.size:=by
  have:=r2.size
  rw[hsm,mask_size]at this
  exact this
 have hn:∀b,v'.ownBlock=some b→F b=none:=fun b hb=>by
  rcases r3 with e|⟨g,e,h⟩
  ·exact hF b (by rw[← e];exact hb)
  ·have hbg:b=g:=by rw[e]at hb;exact(Option.some.inj hb).symm
   rw[hsm]at h
   rw[hbg]
   cases hz:F g with
   | none=>rfl
   | some z=>
     obtain⟨c,e,z0,h2,_⟩:=hw.own g z hz
     have:=(alt h2)
     omega
 refine K v' w' (ownsRow_same2 r1 fun b hb _=>(mask_at_none (hn b hb)).symm) hw' hs2 (fun r hr hne=>?_) (r3.imp_right fun⟨g,h1,h2⟩=>⟨g,h1,by rw[hsm]at h2;exact h2⟩)
 exact mask_same (w:=w.at d) hg (r2.block r (by rw[hsm];exact hr) hne) hr
structure Grown1(F:Fz)(w w':World)(ov ov':Value)(xs:List Int)(u:Int):Prop where
 row:w'.ownsRow 0 2 1 ov' (xs.length+1) ((xs++[u]).map fun v=>.int .i64 v)
 wf:Wf F w'
 size:w.heap.size≤w'.heap.size
 old:∀r,r<w.heap.size→some r≠ov.ownBlock→w'.heap[r]? =w.heap[r]?
 blk:ov'.ownBlock=ov.ownBlock∨∃g,ov'.ownBlock=some g∧w.heap.size≤g
def srwBody:Code:=Try.f28.body.getD .skip
def srws0:=pC [] srwBody
def srwr0:=pC [zt] srwBody
def srws1:=pC [zf] srwBody
def srwr1:=pC [zf,zt] srwBody
def srws2:=pC [zf,zf] srwBody
def srwr2:=pC [zf,zf,zt] srwBody
def srws3:=pC [zf,zf,zf] srwBody
def srws4:=pC [zf,zf,zf,zt] srwBody
def srwr3:=pC [zf,zf,zf,zt,zt] srwBody
def srwb0:=pC [zf,zf,zf,zt,zf] srwBody
def srwl5:=pC [zf,zf,zf,zt,zf,zt] srwBody
def srws6:=pC [zf,zf,zf,zt,zf,zt,zt] srwBody
def srwr4:=pC [zf,zf,zf,zt,zf,zt,zt,zt] srwBody
def srws7:=pC [zf,zf,zf,zt,zf,zt,zt,zf] srwBody
def srwc13:=pC [zf,zf,zf,zt,zf,zt,zt,zf,zt] srwBody
def srws8:=pC [zf,zf,zf,zt,zf,zt,zt,zf,zf] srwBody
def srwb1:=pC [zf,zf,zf,zt,zf,zt,zt,zf,zf,zt] srwBody
def srws9:=pC [zf,zf,zf,zt,zf,zt,zt,zf,zf,zt,zt] srwBody
def srwr5:=pC [zf,zf,zf,zt,zf,zt,zt,zf,zf,zt,zt,zt] srwBody
def srws10:=pC [zf,zf,zf,zt,zf,zt,zt,zf,zf,zt,zt,zf] srwBody
def srwr6:=pC [zf,zf,zf,zt,zf,zt,zt,zf,zf,zt,zt,zf,zt] srwBody
def srwr7:=pC [zf,zf,zf,zt,zf,zt,zt,zf,zf,zt,zt,zf,zf] srwBody
def srwr8:=pC [zf,zf,zf,zt,zf,zt,zt,zf,zf,zf] srwBody
def srws11:=pC [zf,zf,zf,zf] srwBody
def srwr9:=pC [zf,zf,zf,zf,zt] srwBody
theorem srws0':srws0= .seq srwr0 srws1:=by kernel_rfl
theorem srwr0':srwr0= .region 0 (oC srwr0) false:=by kernel_rfl
theorem srws1':srws1= .seq srwr1 srws2:=by kernel_rfl
theorem srwr1':srwr1= .region 1 (oC srwr1) false:=by kernel_rfl
theorem srws2':srws2= .seq srwr2 srws3:=by kernel_rfl
theorem srwr2':srwr2= .region 2 (oC srwr2) false:=by kernel_rfl
theorem srws3':srws3= .seq srws4 srws11:=by kernel_rfl
theorem srws4':srws4= .seq srwr3 srwb0:=by kernel_rfl
theorem srwr3':srwr3= .region 3 (oC srwr3) false:=by kernel_rfl
theorem srwb0':srwb0= .block 0 srwl5:=by kernel_rfl
theorem srwl5':srwl5= .loop srws6:=by kernel_rfl
theorem srws6':srws6= .seq srwr4 srws7:=by kernel_rfl
theorem srwr4':srwr4= .region 4 (oC srwr4) false:=by kernel_rfl
theorem srws7':srws7= .seq srwc13 srws8:=by kernel_rfl
theorem srwc13':srwc13= .cond (.tmp 13) .skip (.exit 0):=by kernel_rfl
theorem srws8':srws8= .seq srwb1 srwr8:=by kernel_rfl
theorem srwb1':srwb1= .block 1 srws9:=by kernel_rfl
theorem srws9':srws9= .seq srwr5 srws10:=by kernel_rfl
theorem srwr5':srwr5= .region 5 (oC srwr5) false:=by kernel_rfl
theorem srws10':srws10= .seq srwr6 srwr7:=by kernel_rfl
theorem srwr6':srwr6= .region 6 (oC srwr6) false:=by kernel_rfl
theorem srwr7':srwr7= .region 7 (oC srwr7) false:=by kernel_rfl
theorem srwr8':srwr8= .region 8 (oC srwr8) false:=by kernel_rfl
theorem srws11':srws11= .seq srwr9 .ret:=by kernel_rfl
theorem srwr9':srwr9= .region 9 (oC srwr9) false:=by kernel_rfl
theorem enter_srw(args:Array Value):Frame.enter Try.prog 28 args .normal=(Go.Conc.base 28).at {tmps:=args++Array.replicate (26 - args.size) undef,defers:=[]} [.code srws0]:=enter_at args Try.func28 rfl
theorem callable28:Callable 28:=callable Try.func28 rfl rfl
def srwT(s:Nat→Value):Array Value:= #[s 0,s 1,s 2,s 3,s 4,s 5,s 6,s 7,s 8,s 9,s 10,s 11,s 12,s 13,s 14,s 15,s 16,s 17,s 18,s 19,s 20,s 21,s 22,s 23,s 24,s 25]
theorem srwT_of{A:Array Value}(h:A.size=26):∃s,A=srwT s:=by
 obtain⟨s,hs,_⟩:=arr_lit A h
 exact⟨s,hs⟩
theorem rw_0{sv:Value}{lb:Nat}{wb wo n:Nat}(hs:SH lb wb wo n w){cs:List Frame}{main:Bool}{Stop:Goroutine→World→Prop}
 (h:∀A,Slots 26 A [(0,.pointer (some ⟨lb,0,none⟩)),(1,sv),(5,.slice none 0 0),(6,.slice (some ⟨wb,wo,none⟩) n n),(7,.int .i64 (0:Nat)),(11,.int .i64 (n:Nat)),(12,.int .i64 (0:Nat))]→Own Try.prog main F Stop (G (Frame.enter Try.prog 61 #[sv] .normal) (((Go.Conc.base 28).at ⟨A,[]⟩ [.inRegion (oC srwr6) [1],.code srwr7,.inBlock 1,.code srwr8,.inLoop srws6,.inBlock 0,.code srws11])::cs)) w):
 Own Try.prog main F Stop (G (Frame.enter Try.prog 28 #[.pointer (some ⟨lb,0,none⟩),sv] .normal) cs) w:=by
 have n1:=hs.n1
 have hlt:decide ((0:Int)<(n:Int))=true:=by simp;omega
 have hlt2:decide (0<n)=true:=by simp;omega
 rw[enter_srw]
 walk_nrm
 refine ogSR srws0' srwr0' ?_
 simp only[srwr0,srwBody,Try.f28,zz,Nat.reduceAdd]
 (refine oW fun dd K hK=>?_;go_simp;refine qT hK ?_;clear hK K)
 refine ogE ?_
 refine ogSR srws1' srwr1' ?_
 simp only[srwr1,srwBody,Try.f28,zz,Nat.reduceAdd]
 (refine oW fun dd K hK=>?_;go_simp;refine qT hK ?_;clear hK K)
 refine ogE ?_
 refine ogSR srws2' srwr2' ?_
 simp only[srwr2,srwBody,Try.f28,zz,Nat.reduceAdd]
 (refine oW fun dd K hK=>?_;go_simp;refine qT hK ?_;clear hK K)
 refine oc callable53 #[.pointer (some ⟨lb,0,none⟩)] ?_
 refine own_words hs ?_
 rw[Frame.finish_at]
 walk_nrm
 (refine oW fun dd K hK=>?_;go_simp;refine qT hK ?_;clear hK K)
 refine ogE ?_
 refine ogSE srws3' ?_
 refine ogSR srws4' srwr3' ?_
 simp only[srwr3,srwBody,Try.f28,zz,Nat.reduceAdd]
 iterate 3 (refine oW fun dd K hK=>?_;go_simp;refine qT hK ?_;clear hK K)
 refine ogE ?_
 rw[srwb0']
 refine ogB ?_
 rw[srwl5']
 refine ogP ?_
 refine ogSR srws6' srwr4' ?_
 simp only[srwr4,srwBody,Try.f28,zz,Nat.reduceAdd]
 (refine oW fun dd K hK=>?_;go_simp;refine qT hK ?_;clear hK K)
 refine ogE ?_
 refine ogSE srws7' ?_
 rw[srwc13']
 refine ogT ?_
 simp only[if_true]
 refine ogK ?_
 refine ogSE srws8' ?_
 rw[srwb1']
 refine ogB ?_
 refine ogSR srws9' srwr5' ?_
 simp only[srwr5,srwBody,Try.f28,zz,Nat.reduceAdd]
 iterate 2 (refine oW fun dd K hK=>?_;go_simp;refine qT hK ?_;clear hK K)
 refine ogE ?_
 refine ogSR srws10' srwr6' ?_
 simp only[srwr6,srwBody,Try.f28,zz,Nat.reduceAdd]
 (refine oW fun dd K hK=>?_;go_simp;refine qT hK ?_;clear hK K)
 refine oc callable61 #[sv] ?_
 refine h _ ?_
 exact⟨rfl,rfl,rfl,rfl,rfl,rfl,rfl,rfl,trivial⟩
theorem rw_1{sv:Value}{lb:Nat}{wb wo n i:Nat}{u:Int}{ov:Value}{xs:List Int}(hn16:n≤16)(hx:xs.length≤16){nn:Nat}(hU:Under F nn)(hn:nn≤w.heap.size)(hwf:Wf F w)(hc:w.cell? ⟨wb,wo+i,none⟩=some (.int .i64 u))(hrow:w.ownsRow 0 2 1 ov xs.length (xs.map fun v=>.int .i64 v))(hF:∀b,ov.ownBlock=some b→F b=none)(hi:i+1<n){A:Array Value}(hA:Slots 26 A [(0,.pointer (some ⟨lb,0,none⟩)),(1,sv),(5,ov),(6,.slice (some ⟨wb,wo,none⟩) n n),(7,.int .i64 (i:Nat)),(11,.int .i64 (n:Nat)),(12,.int .i64 (i:Nat))]){cs:List Frame}{main:Bool}{Stop:Goroutine→World→Prop}
 (h:∀ov' w' A,Grown1 F w w' ov ov' xs u→Slots 26 A [(0,.pointer (some ⟨lb,0,none⟩)),(1,sv),(5,ov'),(6,.slice (some ⟨wb,wo,none⟩) n n),(7,.int .i64 (i+1:Nat)),(11,.int .i64 (n:Nat)),(12,.int .i64 (i+1:Nat))]→Own Try.prog main F Stop (G (Frame.enter Try.prog 61 #[sv] .normal) (((Go.Conc.base 28).at ⟨A,[]⟩ [.inRegion (oC srwr6) [1],.code srwr7,.inBlock 1,.code srwr8,.inLoop srws6,.inBlock 0,.code srws11])::cs)) w'):
 Own Try.prog main F Stop (G (((Go.Conc.base 28).at ⟨A,[]⟩ [.inRegion (oC srwr6) [1],.code srwr7,.inBlock 1,.code srwr8,.inLoop srws6,.inBlock 0,.code srws11]).finish (.tuple #[])) (cs)) w:=by
 obtain⟨hsz,h0,h1,h5,h6,h7,h11,h12,_⟩:=hA
 obtain⟨s,rfl⟩:=srwT_of hsz
 change s 0=_ at h0
 change s 1=_ at h1
 change s 5=_ at h5
 change s 6=_ at h6
 change s 7=_ at h7
 change s 11=_ at h11
 change s 12=_ at h12
 clear hsz
 simp only[srwT,h0,h1,h5,h6,h7,h11,h12]
 clear h0 h1 h5 h6 h7 h11 h12
 have hk64:IntKind.i64.wrap ((i:Int)+1)=(i:Int)+1:=IntWalk.i64_in _ (by omega)
 have hin:(i:Int)<(n:Int):=by omega
 have hin2:i<n:=by omega
 have hlt:decide ((i:Int)+1<(n:Int))=true:=by simp;omega
 have hlt2:decide (i+1<n)=true:=by simp;omega
 rw[Frame.finish_at]
 simp only[srwr6,srwBody,Try.f28,zz,Nat.reduceAdd]
 walk_nrm
 refine ogE ?_
 rw[srwr7']
 refine ogR ?_
 simp only[srwr7,srwBody,Try.f28,zz,Nat.reduceAdd]
 iterate 3 (refine oW fun dd K hK=>?_;go_simp;refine qT hK ?_;clear hK K)
 (refine oW fun dd K hK=>?_;go_simp;refine qX hK ?_;clear hK K)
 refine oc callable54 #[.pointer (some ⟨wb,wo+i,none⟩)] ?_
 refine own_ldI hc rfl ?_
 rw[Frame.finish_at]
 walk_nrm
 (refine oW fun dd K hK=>?_;go_simp;refine qA hK hU ?_;clear hK K)
 refine own_append (s:=.tmp 17) (x:=.tmp 22) (t:=22) (e:=2) (sz:=1) (bytes:=8) (news:=[.int .i64 u]) (m:=1) (c:=1) (ad:=⟨w.heap.size,0,none⟩) Try.underlying22 infoA2 (by decide) rfl rfl (by decide) rfl (hwf.of_grew (grew_alloc hU hn _)) (v:=ov) rfl rfl (hrow.alloc _) hF rfl (new_cells (X:=w) (l:=[.int .i64 u]) rfl) (by intro q hq;simp at hq;subst hq;rfl) (by unfold maxLen;omega) (by omega) fun ov' w' g1 g2 g3 g4 g5=>?_
 have hg:Grown1 F w w' ov ov' xs u:=⟨by rw[List.map_append];exact g1,g2,by simp at g3;omega,fun q hq hne=>by rw[g4 q (by simp;omega) hne,heap_alloc_lt _ _ hq],g5.imp_right fun⟨g,h1,h2⟩=>⟨g,h1,by simp at h2;omega⟩⟩
 clear g1 g2 g3 g4 g5 hrow hwf
 walk_nrm
 (refine oW fun dd K hK=>?_;go_simp;refine qT hK ?_;clear hK K)
 refine ogE ?_
 refine ogI ?_
 rw[srwr8']
 refine ogR ?_
 simp only[srwr8,srwBody,Try.f28,zz,Nat.reduceAdd]
 iterate 2 (refine oW fun dd K hK=>?_;go_simp;refine qT hK ?_;clear hK K)
 refine ogE ?_
 refine ogL ?_
 refine ogSR srws6' srwr4' ?_
 simp only[srwr4,srwBody,Try.f28,zz,Nat.reduceAdd]
 (refine oW fun dd K hK=>?_;go_simp;refine qT hK ?_;clear hK K)
 refine ogE ?_
 refine ogSE srws7' ?_
 rw[srwc13']
 refine ogT ?_
 simp only[if_true]
 refine ogK ?_
 refine ogSE srws8' ?_
 rw[srwb1']
 refine ogB ?_
 refine ogSR srws9' srwr5' ?_
 simp only[srwr5,srwBody,Try.f28,zz,Nat.reduceAdd]
 iterate 2 (refine oW fun dd K hK=>?_;go_simp;refine qT hK ?_;clear hK K)
 refine ogE ?_
 refine ogSR srws10' srwr6' ?_
 simp only[srwr6,srwBody,Try.f28,zz,Nat.reduceAdd]
 (refine oW fun dd K hK=>?_;go_simp;refine qT hK ?_;clear hK K)
 refine oc callable61 #[sv] ?_
 refine h ov' w' _ hg ?_
 exact⟨rfl,rfl,rfl,rfl,rfl,rfl,rfl,rfl,trivial⟩
theorem rw_2{sv:Value}{lb:Nat}{wb wo n i:Nat}{u:Int}{ov:Value}{xs:List Int}(hn16:n≤16)(hx:xs.length≤16){nn:Nat}(hU:Under F nn)(hn:nn≤w.heap.size)(hwf:Wf F w)(hc:w.cell? ⟨wb,wo+i,none⟩=some (.int .i64 u))(hrow:w.ownsRow 0 2 1 ov xs.length (xs.map fun v=>.int .i64 v))(hF:∀b,ov.ownBlock=some b→F b=none)(hi:i+1=n){A:Array Value}(hA:Slots 26 A [(0,.pointer (some ⟨lb,0,none⟩)),(1,sv),(5,ov),(6,.slice (some ⟨wb,wo,none⟩) n n),(7,.int .i64 (i:Nat)),(11,.int .i64 (n:Nat)),(12,.int .i64 (i:Nat))]){c:Frame}{cs:List Frame}{main:Bool}{Stop:Goroutine→World→Prop}
 (h:∀ov' w',Grown1 F w w' ov ov' xs u→Own Try.prog main F Stop (G (c.finish ov') cs) w'):
 Own Try.prog main F Stop (G (((Go.Conc.base 28).at ⟨A,[]⟩ [.inRegion (oC srwr6) [1],.code srwr7,.inBlock 1,.code srwr8,.inLoop srws6,.inBlock 0,.code srws11]).finish (.tuple #[])) (c::cs)) w:=by
 obtain⟨hsz,h0,h1,h5,h6,h7,h11,h12,_⟩:=hA
 obtain⟨s,rfl⟩:=srwT_of hsz
 change s 0=_ at h0
 change s 1=_ at h1
 change s 5=_ at h5
 change s 6=_ at h6
 change s 7=_ at h7
 change s 11=_ at h11
 change s 12=_ at h12
 clear hsz
 simp only[srwT,h0,h1,h5,h6,h7,h11,h12]
 clear h0 h1 h5 h6 h7 h11 h12
 have hk64:IntKind.i64.wrap ((i:Int)+1)=(i:Int)+1:=IntWalk.i64_in _ (by omega)
 have hin:(i:Int)<(n:Int):=by omega
 have hin2:i<n:=by omega
 have hlt:decide ((i:Int)+1<(n:Int))=false:=by simp;omega
 have hlt2:decide (i+1<n)=false:=by simp;omega
 rw[Frame.finish_at]
 simp only[srwr6,srwBody,Try.f28,zz,Nat.reduceAdd]
 walk_nrm
 refine ogE ?_
 rw[srwr7']
 refine ogR ?_
 simp only[srwr7,srwBody,Try.f28,zz,Nat.reduceAdd]
 iterate 3 (refine oW fun dd K hK=>?_;go_simp;refine qT hK ?_;clear hK K)
 (refine oW fun dd K hK=>?_;go_simp;refine qX hK ?_;clear hK K)
 refine oc callable54 #[.pointer (some ⟨wb,wo+i,none⟩)] ?_
 refine own_ldI hc rfl ?_
 rw[Frame.finish_at]
 walk_nrm
 (refine oW fun dd K hK=>?_;go_simp;refine qA hK hU ?_;clear hK K)
 refine own_append (s:=.tmp 17) (x:=.tmp 22) (t:=22) (e:=2) (sz:=1) (bytes:=8) (news:=[.int .i64 u]) (m:=1) (c:=1) (ad:=⟨w.heap.size,0,none⟩) Try.underlying22 infoA2 (by decide) rfl rfl (by decide) rfl (hwf.of_grew (grew_alloc hU hn _)) (v:=ov) rfl rfl (hrow.alloc _) hF rfl (new_cells (X:=w) (l:=[.int .i64 u]) rfl) (by intro q hq;simp at hq;subst hq;rfl) (by unfold maxLen;omega) (by omega) fun ov' w' g1 g2 g3 g4 g5=>?_
 have hg:Grown1 F w w' ov ov' xs u:=⟨by rw[List.map_append];exact g1,g2,by simp at g3;omega,fun q hq hne=>by rw[g4 q (by simp;omega) hne,heap_alloc_lt _ _ hq],g5.imp_right fun⟨g,h1,h2⟩=>⟨g,h1,by simp at h2;omega⟩⟩
 clear g1 g2 g3 g4 g5 hrow hwf
 walk_nrm
 (refine oW fun dd K hK=>?_;go_simp;refine qT hK ?_;clear hK K)
 refine ogE ?_
 refine ogI ?_
 rw[srwr8']
 refine ogR ?_
 simp only[srwr8,srwBody,Try.f28,zz,Nat.reduceAdd]
 iterate 2 (refine oW fun dd K hK=>?_;go_simp;refine qT hK ?_;clear hK K)
 refine ogE ?_
 refine ogL ?_
 refine ogSR srws6' srwr4' ?_
 simp only[srwr4,srwBody,Try.f28,zz,Nat.reduceAdd]
 (refine oW fun dd K hK=>?_;go_simp;refine qT hK ?_;clear hK K)
 refine ogE ?_
 refine ogSE srws7' ?_
 rw[srwc13']
 refine ogF ?_
 simp only[Bool.false_eq_true,if_false]
 refine own_go rfl (fun d=>stepG_exit rfl) ?_
 refine ogSR srws11' srwr9' ?_
 simp only[srwr9,srwBody,Try.f28,zz,Nat.reduceAdd]
 iterate 2 (refine oW fun dd K hK=>?_;go_simp;refine qT hK ?_;clear hK K)
 refine ogE ?_
 refine ogX ?_
 refine own_go rfl (fun d=>stepG_leave (fn:=Try.f28) (v:=ov') rfl rfl Try.func28 (by simp[results,Try.f28]) (by simp[results,Try.f28,go_sem])) ?_
 exact h ov' w' hg
def srdBody:Code:=Try.f26.body.getD .skip
def srds0:=pC [] srdBody
def srdr0:=pC [zt] srdBody
def srds1:=pC [zf] srdBody
def srds2:=pC [zf,zt] srdBody
def srdr1:=pC [zf,zt,zt] srdBody
def srdc11:=pC [zf,zt,zf] srdBody
def srds3:=pC [zf,zt,zf,zt] srdBody
def srds4:=pC [zf,zf] srdBody
def srds5:=pC [zf,zf,zt] srdBody
def srdr3:=pC [zf,zf,zt,zt] srdBody
def srdb0:=pC [zf,zf,zt,zf] srdBody
def srdl6:=pC [zf,zf,zt,zf,zt] srdBody
def srds7:=pC [zf,zf,zt,zf,zt,zt] srdBody
def srdr4:=pC [zf,zf,zt,zf,zt,zt,zt] srdBody
def srds8:=pC [zf,zf,zt,zf,zt,zt,zf] srdBody
def srdc15:=pC [zf,zf,zt,zf,zt,zt,zf,zt] srdBody
def srds9:=pC [zf,zf,zt,zf,zt,zt,zf,zf] srdBody
def srdb1:=pC [zf,zf,zt,zf,zt,zt,zf,zf,zt] srdBody
def srds10:=pC [zf,zf,zt,zf,zt,zt,zf,zf,zt,zt] srdBody
def srdr5:=pC [zf,zf,zt,zf,zt,zt,zf,zf,zt,zt,zt] srdBody
def srds11:=pC [zf,zf,zt,zf,zt,zt,zf,zf,zt,zt,zf] srdBody
def srdr6:=pC [zf,zf,zt,zf,zt,zt,zf,zf,zt,zt,zf,zt] srdBody
def srds12:=pC [zf,zf,zt,zf,zt,zt,zf,zf,zt,zt,zf,zf] srdBody
def srds13:=pC [zf,zf,zt,zf,zt,zt,zf,zf,zt,zt,zf,zf,zt] srdBody
def srdr7:=pC [zf,zf,zt,zf,zt,zt,zf,zf,zt,zt,zf,zf,zt,zt] srdBody
def srdc24:=pC [zf,zf,zt,zf,zt,zt,zf,zf,zt,zt,zf,zf,zt,zf] srdBody
def srds14:=pC [zf,zf,zt,zf,zt,zt,zf,zf,zt,zt,zf,zf,zf] srdBody
def srdr8:=pC [zf,zf,zt,zf,zt,zt,zf,zf,zt,zt,zf,zf,zf,zt] srdBody
def srds15:=pC [zf,zf,zt,zf,zt,zt,zf,zf,zt,zt,zf,zf,zf,zf] srdBody
def srdr9:=pC [zf,zf,zt,zf,zt,zt,zf,zf,zt,zt,zf,zf,zf,zf,zt] srdBody
def srds16:=pC [zf,zf,zt,zf,zt,zt,zf,zf,zt,zt,zf,zf,zf,zf,zf] srdBody
def srdr10:=pC [zf,zf,zt,zf,zt,zt,zf,zf,zt,zt,zf,zf,zf,zf,zf,zt] srdBody
def srdc35:=pC [zf,zf,zt,zf,zt,zt,zf,zf,zt,zt,zf,zf,zf,zf,zf,zf] srdBody
def srds17:=pC [zf,zf,zt,zf,zt,zt,zf,zf,zt,zt,zf,zf,zf,zf,zf,zf,zt] srdBody
def srdr11:=pC [zf,zf,zt,zf,zt,zt,zf,zf,zt,zt,zf,zf,zf,zf,zf,zf,zt,zt] srdBody
def srdr12:=pC [zf,zf,zt,zf,zt,zt,zf,zf,zf] srdBody
def srds18:=pC [zf,zf,zf] srdBody
def srdr13:=pC [zf,zf,zf,zt] srdBody
theorem srds0':srds0= .seq srdr0 srds1:=by kernel_rfl
theorem srdr0':srdr0= .region 0 (oC srdr0) false:=by kernel_rfl
theorem srds1':srds1= .seq srds2 srds4:=by kernel_rfl
theorem srds2':srds2= .seq srdr1 srdc11:=by kernel_rfl
theorem srdr1':srdr1= .region 1 (oC srdr1) false:=by kernel_rfl
theorem srdc11':srdc11= .cond (.tmp 11) srds3 .skip:=by kernel_rfl
theorem srds4':srds4= .seq srds5 srds18:=by kernel_rfl
theorem srds5':srds5= .seq srdr3 srdb0:=by kernel_rfl
theorem srdr3':srdr3= .region 3 (oC srdr3) false:=by kernel_rfl
theorem srdb0':srdb0= .block 0 srdl6:=by kernel_rfl
theorem srdl6':srdl6= .loop srds7:=by kernel_rfl
theorem srds7':srds7= .seq srdr4 srds8:=by kernel_rfl
theorem srdr4':srdr4= .region 4 (oC srdr4) false:=by kernel_rfl
theorem srds8':srds8= .seq srdc15 srds9:=by kernel_rfl
theorem srdc15':srdc15= .cond (.tmp 15) .skip (.exit 0):=by kernel_rfl
theorem srds9':srds9= .seq srdb1 srdr12:=by kernel_rfl
theorem srdb1':srdb1= .block 1 srds10:=by kernel_rfl
theorem srds10':srds10= .seq srdr5 srds11:=by kernel_rfl
theorem srdr5':srdr5= .region 5 (oC srdr5) false:=by kernel_rfl
theorem srds11':srds11= .seq srdr6 srds12:=by kernel_rfl
theorem srdr6':srdr6= .region 6 (oC srdr6) false:=by kernel_rfl
theorem srds12':srds12= .seq srds13 srds14:=by kernel_rfl
theorem srds13':srds13= .seq srdr7 srdc24:=by kernel_rfl
theorem srdr7':srdr7= .region 7 (oC srdr7) false:=by kernel_rfl
theorem srdc24':srdc24= .cond (.tmp 24) (.exit 1) .skip:=by kernel_rfl
theorem srds14':srds14= .seq srdr8 srds15:=by kernel_rfl
theorem srdr8':srdr8= .region 8 (oC srdr8) false:=by kernel_rfl
theorem srds15':srds15= .seq srdr9 srds16:=by kernel_rfl
theorem srdr9':srdr9= .region 9 (oC srdr9) false:=by kernel_rfl
theorem srds16':srds16= .seq srdr10 srdc35:=by kernel_rfl
theorem srdr10':srdr10= .region 10 (oC srdr10) false:=by kernel_rfl
theorem srdc35':srdc35= .cond (.tmp 35) srds17 .skip:=by kernel_rfl
theorem srds17':srds17= .seq srdr11 .ret:=by kernel_rfl
theorem srdr11':srdr11= .region 11 (oC srdr11) false:=by kernel_rfl
theorem srdr12':srdr12= .region 12 (oC srdr12) false:=by kernel_rfl
theorem srds18':srds18= .seq srdr13 .ret:=by kernel_rfl
theorem srdr13':srdr13= .region 13 (oC srdr13) false:=by kernel_rfl
theorem enter_srd(args:Array Value):Frame.enter Try.prog 26 args .normal=(Go.Conc.base 26).at {tmps:=args++Array.replicate (38 - args.size) undef,defers:=[]} [.code srds0]:=enter_at args Try.func26 rfl
theorem callable26:Callable 26:=callable Try.func26 rfl rfl
def srdT(s:Nat→Value):Array Value:= #[s 0,s 1,s 2,s 3,s 4,s 5,s 6,s 7,s 8,s 9,s 10,s 11,s 12,s 13,s 14,s 15,s 16,s 17,s 18,s 19,s 20,s 21,s 22,s 23,s 24,s 25,s 26,s 27,s 28,s 29,s 30,s 31,s 32,s 33,s 34,s 35,s 36,s 37]
theorem srdT_of{A:Array Value}(h:A.size=38):∃s,A=srdT s:=by
 obtain⟨s,hs,_⟩:=arr_lit A h
 exact⟨s,hs⟩
theorem rd_0{sv:Value}{lb:Nat}{a:Int}{cs:List Frame}{main:Bool}{Stop:Goroutine→World→Prop}
 (h:∀A,Slots 38 A [(0,.pointer (some ⟨lb,0,none⟩)),(1,sv),(13,.int .i64 (triesOf a:Nat)),(14,.int .i64 (0:Nat))]→Own Try.prog main F Stop (G (Frame.enter Try.prog 61 #[sv] .normal) (((Go.Conc.base 26).at ⟨A,[]⟩ [.inRegion (oC srdr5) [1],.code srds11,.inBlock 1,.code srdr12,.inLoop srds7,.inBlock 0,.code srds18])::cs)) w):
 Own Try.prog main F Stop (G (Frame.enter Try.prog 26 #[.pointer (some ⟨lb,0,none⟩),sv,.int .i64 a] .normal) cs) w:=by
 have hp:=(triesOf_pos a).1
 have hlt:decide ((0:Int)<(triesOf a:Int))=true:=by simp;omega
 have hlt2:decide (0<triesOf a)=true:=by simp;omega
 rw[enter_srd]
 walk_nrm
 refine ogSR srds0' srdr0' ?_
 simp only[srdr0,srdBody,Try.f26,zz,Nat.reduceAdd]
 iterate 2 (refine oW fun dd K hK=>?_;go_simp;refine qT hK ?_;clear hK K)
 refine ogE ?_
 refine ogSE srds1' ?_
 refine ogSR srds2' srdr1' ?_
 simp only[srdr1,srdBody,Try.f26,zz,Nat.reduceAdd]
 iterate 2 (refine oW fun dd K hK=>?_;go_simp;refine qT hK ?_;clear hK K)
 refine ogE ?_
 rw[srdc11']
 refine ogF ?_
 simp only[Bool.false_eq_true,if_false]
 refine ogK ?_
 refine ogSE srds4' ?_
 refine ogSR srds5' srdr3' ?_
 simp only[srdr3,srdBody,Try.f26,zz,Nat.reduceAdd]
 (refine oW fun dd K hK=>?_;go_simp;refine qT hK ?_;clear hK K)
 refine oc callable60 #[.int .i64 a] ?_
 refine own_tried ?_
 rw[Frame.finish_at]
 walk_nrm
 (refine oW fun dd K hK=>?_;go_simp;refine qT hK ?_;clear hK K)
 refine ogE ?_
 rw[srdb0']
 refine ogB ?_
 rw[srdl6']
 refine ogP ?_
 refine ogSR srds7' srdr4' ?_
 simp only[srdr4,srdBody,Try.f26,zz,Nat.reduceAdd]
 (refine oW fun dd K hK=>?_;go_simp;refine qT hK ?_;clear hK K)
 refine ogE ?_
 refine ogSE srds8' ?_
 rw[srdc15']
 refine ogT ?_
 simp only[if_true]
 refine ogK ?_
 refine ogSE srds9' ?_
 rw[srdb1']
 refine ogB ?_
 refine ogSR srds10' srdr5' ?_
 simp only[srdr5,srdBody,Try.f26,zz,Nat.reduceAdd]
 (refine oW fun dd K hK=>?_;go_simp;refine qT hK ?_;clear hK K)
 refine oc callable61 #[sv] ?_
 refine h _ ?_
 exact⟨rfl,rfl,rfl,rfl,rfl,trivial⟩
theorem rd_1a{sv:Value}{lb:Nat}{T r:Nat}{v:Int}(hT:T≤1024)(hr:r+1<T)(hv:(v.tmod 2 != 0)=true)(hc:w.cell? ⟨lb,0,none⟩=some (.int .i64 v)){A:Array Value}(hA:Slots 38 A [(0,.pointer (some ⟨lb,0,none⟩)),(1,sv),(13,.int .i64 (T:Nat)),(14,.int .i64 (r:Nat))]){cs:List Frame}{main:Bool}{Stop:Goroutine→World→Prop}
 (h:∀A,Slots 38 A [(0,.pointer (some ⟨lb,0,none⟩)),(1,sv),(13,.int .i64 (T:Nat)),(14,.int .i64 (r+1:Nat))]→Own Try.prog main F Stop (G (Frame.enter Try.prog 61 #[sv] .normal) (((Go.Conc.base 26).at ⟨A,[]⟩ [.inRegion (oC srdr5) [1],.code srds11,.inBlock 1,.code srdr12,.inLoop srds7,.inBlock 0,.code srds18])::cs)) w):
 Own Try.prog main F Stop (G (((Go.Conc.base 26).at ⟨A,[]⟩ [.inRegion (oC srdr5) [1],.code srds11,.inBlock 1,.code srdr12,.inLoop srds7,.inBlock 0,.code srds18]).finish (.tuple #[])) (cs)) w:=by
 obtain⟨hsz,h0,h1,h13,h14,_⟩:=hA
 obtain⟨s,rfl⟩:=srdT_of hsz
 change s 0=_ at h0
 change s 1=_ at h1
 change s 13=_ at h13
 change s 14=_ at h14
 clear hsz
 simp only[srdT,h0,h1,h13,h14]
 clear h0 h1 h13 h14
 have hk64:IntKind.i64.wrap ((r:Int)+1)=(r:Int)+1:=IntWalk.i64_in _ (by omega)
 have hlt:decide ((r:Int)+1<(T:Int))=true:=by simp;omega
 have hlt2:decide (r+1<T)=true:=by simp;omega
 rw[Frame.finish_at]
 simp only[srdr5,srdBody,Try.f26,zz,Nat.reduceAdd]
 walk_nrm
 refine ogE ?_
 refine ogSR srds11' srdr6' ?_
 simp only[srdr6,srdBody,Try.f26,zz,Nat.reduceAdd]
 iterate 3 (refine oW fun dd K hK=>?_;go_simp;refine qT hK ?_;clear hK K)
 refine oc callable54 #[.pointer (some ⟨lb,0,none⟩)] ?_
 refine own_ldI hc rfl ?_
 rw[Frame.finish_at]
 walk_nrm
 (refine oW fun dd K hK=>?_;go_simp;refine qT hK ?_;clear hK K)
 refine ogE ?_
 refine ogSE srds12' ?_
 refine ogSR srds13' srdr7' ?_
 simp only[srdr7,srdBody,Try.f26,zz,Nat.reduceAdd]
 iterate 3 (refine oW fun dd K hK=>?_;go_simp;refine qT hK ?_;clear hK K)
 refine ogE ?_
 rw[srdc24']
 refine ogT ?_
 simp only[if_true]
 refine own_go rfl (fun d=>stepG_exit rfl) ?_
 rw[srdr12']
 refine ogR ?_
 simp only[srdr12,srdBody,Try.f26,zz,Nat.reduceAdd]
 iterate 2 (refine oW fun dd K hK=>?_;go_simp;refine qT hK ?_;clear hK K)
 refine ogE ?_
 refine ogL ?_
 refine ogSR srds7' srdr4' ?_
 simp only[srdr4,srdBody,Try.f26,zz,Nat.reduceAdd]
 (refine oW fun dd K hK=>?_;go_simp;refine qT hK ?_;clear hK K)
 refine ogE ?_
 refine ogSE srds8' ?_
 rw[srdc15']
 refine ogT ?_
 simp only[if_true]
 refine ogK ?_
 refine ogSE srds9' ?_
 rw[srdb1']
 refine ogB ?_
 refine ogSR srds10' srdr5' ?_
 simp only[srdr5,srdBody,Try.f26,zz,Nat.reduceAdd]
 (refine oW fun dd K hK=>?_;go_simp;refine qT hK ?_;clear hK K)
 refine oc callable61 #[sv] ?_
 refine h _ ?_
 exact⟨rfl,rfl,rfl,rfl,rfl,trivial⟩
theorem rd_1b{sv:Value}{lb:Nat}{T r:Nat}{v:Int}(hT:T≤1024)(hr:r+1=T)(hv:(v.tmod 2 != 0)=true)(hc:w.cell? ⟨lb,0,none⟩=some (.int .i64 v)){A:Array Value}(hA:Slots 38 A [(0,.pointer (some ⟨lb,0,none⟩)),(1,sv),(13,.int .i64 (T:Nat)),(14,.int .i64 (r:Nat))]){c:Frame}{cs:List Frame}{main:Bool}{Stop:Goroutine→World→Prop}
 (h:Own Try.prog main F Stop (G (c.finish (.tuple #[.slice none 0 0,.bool false])) cs) w):
 Own Try.prog main F Stop (G (((Go.Conc.base 26).at ⟨A,[]⟩ [.inRegion (oC srdr5) [1],.code srds11,.inBlock 1,.code srdr12,.inLoop srds7,.inBlock 0,.code srds18]).finish (.tuple #[])) (c::cs)) w:=by
 obtain⟨hsz,h0,h1,h13,h14,_⟩:=hA
 obtain⟨s,rfl⟩:=srdT_of hsz
 change s 0=_ at h0
 change s 1=_ at h1
 change s 13=_ at h13
 change s 14=_ at h14
 clear hsz
 simp only[srdT,h0,h1,h13,h14]
 clear h0 h1 h13 h14
 have hk64:IntKind.i64.wrap ((r:Int)+1)=(r:Int)+1:=IntWalk.i64_in _ (by omega)
 have hlt:decide ((r:Int)+1<(T:Int))=false:=by simp;omega
 have hlt2:decide (r+1<T)=false:=by simp;omega
 rw[Frame.finish_at]
 simp only[srdr5,srdBody,Try.f26,zz,Nat.reduceAdd]
 walk_nrm
 refine ogE ?_
 refine ogSR srds11' srdr6' ?_
 simp only[srdr6,srdBody,Try.f26,zz,Nat.reduceAdd]
 iterate 3 (refine oW fun dd K hK=>?_;go_simp;refine qT hK ?_;clear hK K)
 refine oc callable54 #[.pointer (some ⟨lb,0,none⟩)] ?_
 refine own_ldI hc rfl ?_
 rw[Frame.finish_at]
 walk_nrm
 (refine oW fun dd K hK=>?_;go_simp;refine qT hK ?_;clear hK K)
 refine ogE ?_
 refine ogSE srds12' ?_
 refine ogSR srds13' srdr7' ?_
 simp only[srdr7,srdBody,Try.f26,zz,Nat.reduceAdd]
 iterate 3 (refine oW fun dd K hK=>?_;go_simp;refine qT hK ?_;clear hK K)
 refine ogE ?_
 rw[srdc24']
 refine ogT ?_
 simp only[if_true]
 refine own_go rfl (fun d=>stepG_exit rfl) ?_
 rw[srdr12']
 refine ogR ?_
 simp only[srdr12,srdBody,Try.f26,zz,Nat.reduceAdd]
 iterate 2 (refine oW fun dd K hK=>?_;go_simp;refine qT hK ?_;clear hK K)
 refine ogE ?_
 refine ogL ?_
 refine ogSR srds7' srdr4' ?_
 simp only[srdr4,srdBody,Try.f26,zz,Nat.reduceAdd]
 (refine oW fun dd K hK=>?_;go_simp;refine qT hK ?_;clear hK K)
 refine ogE ?_
 refine ogSE srds8' ?_
 rw[srdc15']
 refine ogF ?_
 simp only[Bool.false_eq_true,if_false]
 refine own_go rfl (fun d=>stepG_exit rfl) ?_
 refine ogSR srds18' srdr13' ?_
 simp only[srdr13,srdBody,Try.f26,zz,Nat.reduceAdd]
 iterate 2 (refine oW fun dd K hK=>?_;go_simp;refine qT hK ?_;clear hK K)
 refine ogE ?_
 refine ogX ?_
 refine own_go rfl (fun d=>stepG_leave (fn:=Try.f26) (v:=.tuple #[.slice none 0 0,.bool false]) rfl rfl Try.func26 (by simp[results,Try.f26]) (by simp[results,Try.f26,go_sem])) ?_
 exact h
theorem rd_1c{sv:Value}{lb:Nat}{T r:Nat}{v:Int}(hv:(v.tmod 2 != 0)=false)(hc:w.cell? ⟨lb,0,none⟩=some (.int .i64 v)){A:Array Value}(hA:Slots 38 A [(0,.pointer (some ⟨lb,0,none⟩)),(1,sv),(13,.int .i64 (T:Nat)),(14,.int .i64 (r:Nat))]){cs:List Frame}{main:Bool}{Stop:Goroutine→World→Prop}
 (h:∀A,Slots 38 A [(0,.pointer (some ⟨lb,0,none⟩)),(1,sv),(8,.int .i64 v),(13,.int .i64 (T:Nat)),(14,.int .i64 (r:Nat))]→Own Try.prog main F Stop (G (Frame.enter Try.prog 28 #[.pointer (some ⟨lb,0,none⟩),sv] .normal) (((Go.Conc.base 26).at ⟨A,[]⟩ [.inRegion (oC srdr8) [2,3],.code srds15,.inBlock 1,.code srdr12,.inLoop srds7,.inBlock 0,.code srds18])::cs)) w):
 Own Try.prog main F Stop (G (((Go.Conc.base 26).at ⟨A,[]⟩ [.inRegion (oC srdr5) [1],.code srds11,.inBlock 1,.code srdr12,.inLoop srds7,.inBlock 0,.code srds18]).finish (.tuple #[])) (cs)) w:=by
 obtain⟨hsz,h0,h1,h13,h14,_⟩:=hA
 obtain⟨s,rfl⟩:=srdT_of hsz
 change s 0=_ at h0
 change s 1=_ at h1
 change s 13=_ at h13
 change s 14=_ at h14
 clear hsz
 simp only[srdT,h0,h1,h13,h14]
 clear h0 h1 h13 h14
 rw[Frame.finish_at]
 simp only[srdr5,srdBody,Try.f26,zz,Nat.reduceAdd]
 walk_nrm
 refine ogE ?_
 refine ogSR srds11' srdr6' ?_
 simp only[srdr6,srdBody,Try.f26,zz,Nat.reduceAdd]
 iterate 3 (refine oW fun dd K hK=>?_;go_simp;refine qT hK ?_;clear hK K)
 refine oc callable54 #[.pointer (some ⟨lb,0,none⟩)] ?_
 refine own_ldI hc rfl ?_
 rw[Frame.finish_at]
 walk_nrm
 (refine oW fun dd K hK=>?_;go_simp;refine qT hK ?_;clear hK K)
 refine ogE ?_
 refine ogSE srds12' ?_
 refine ogSR srds13' srdr7' ?_
 simp only[srdr7,srdBody,Try.f26,zz,Nat.reduceAdd]
 iterate 3 (refine oW fun dd K hK=>?_;go_simp;refine qT hK ?_;clear hK K)
 refine ogE ?_
 rw[srdc24']
 refine ogF ?_
 simp only[Bool.false_eq_true,if_false]
 refine ogK ?_
 refine ogSR srds14' srdr8' ?_
 simp only[srdr8,srdBody,Try.f26,zz,Nat.reduceAdd]
 iterate 2 (refine oW fun dd K hK=>?_;go_simp;refine qT hK ?_;clear hK K)
 refine oc callable28 #[.pointer (some ⟨lb,0,none⟩),sv] ?_
 refine h _ ?_
 exact⟨rfl,rfl,rfl,rfl,rfl,rfl,trivial⟩
theorem rd_2{sv:Value}{lb:Nat}{ov:Value}{T r:Nat}{v:Int}{A:Array Value}(hA:Slots 38 A [(0,.pointer (some ⟨lb,0,none⟩)),(1,sv),(8,.int .i64 v),(13,.int .i64 (T:Nat)),(14,.int .i64 (r:Nat))]){cs:List Frame}{main:Bool}{Stop:Goroutine→World→Prop}
 (h:∀A,Slots 38 A [(0,.pointer (some ⟨lb,0,none⟩)),(1,sv),(8,.int .i64 v),(9,ov),(13,.int .i64 (T:Nat)),(14,.int .i64 (r:Nat))]→Own Try.prog main F Stop (G (Frame.enter Try.prog 61 #[sv] .normal) (((Go.Conc.base 26).at ⟨A,[]⟩ [.inRegion (oC srdr9) [1],.code srds16,.inBlock 1,.code srdr12,.inLoop srds7,.inBlock 0,.code srds18])::cs)) w):
 Own Try.prog main F Stop (G (((Go.Conc.base 26).at ⟨A,[]⟩ [.inRegion (oC srdr8) [2,3],.code srds15,.inBlock 1,.code srdr12,.inLoop srds7,.inBlock 0,.code srds18]).finish ov) cs) w:=by
 obtain⟨hsz,h0,h1,h8,h13,h14,_⟩:=hA
 obtain⟨s,rfl⟩:=srdT_of hsz
 change s 0=_ at h0
 change s 1=_ at h1
 change s 8=_ at h8
 change s 13=_ at h13
 change s 14=_ at h14
 clear hsz
 simp only[srdT,h0,h1,h8,h13,h14]
 clear h0 h1 h8 h13 h14
 rw[Frame.finish_at]
 simp only[srdr8,srdBody,Try.f26,zz,Nat.reduceAdd]
 walk_nrm
 (refine oW fun dd K hK=>?_;go_simp;refine qT hK ?_;clear hK K)
 refine ogE ?_
 refine ogSR srds15' srdr9' ?_
 simp only[srdr9,srdBody,Try.f26,zz,Nat.reduceAdd]
 (refine oW fun dd K hK=>?_;go_simp;refine qT hK ?_;clear hK K)
 refine oc callable61 #[sv] ?_
 refine h _ ?_
 exact⟨rfl,rfl,rfl,rfl,rfl,rfl,rfl,trivial⟩
theorem rd_3a{sv:Value}{lb:Nat}{ov:Value}{u:Int}{T r:Nat}{v:Int}(hq:(u == v)=true)(hc:w.cell? ⟨lb,0,none⟩=some (.int .i64 u)){A:Array Value}(hA:Slots 38 A [(0,.pointer (some ⟨lb,0,none⟩)),(1,sv),(8,.int .i64 v),(9,ov),(13,.int .i64 (T:Nat)),(14,.int .i64 (r:Nat))]){c:Frame}{cs:List Frame}{main:Bool}{Stop:Goroutine→World→Prop}
 (h:Own Try.prog main F Stop (G (c.finish (.tuple #[ov,.bool true])) cs) w):
 Own Try.prog main F Stop (G (((Go.Conc.base 26).at ⟨A,[]⟩ [.inRegion (oC srdr9) [1],.code srds16,.inBlock 1,.code srdr12,.inLoop srds7,.inBlock 0,.code srds18]).finish (.tuple #[])) (c::cs)) w:=by
 obtain⟨hsz,h0,h1,h8,h9,h13,h14,_⟩:=hA
 obtain⟨s,rfl⟩:=srdT_of hsz
 change s 0=_ at h0
 change s 1=_ at h1
 change s 8=_ at h8
 change s 9=_ at h9
 change s 13=_ at h13
 change s 14=_ at h14
 clear hsz
 simp only[srdT,h0,h1,h8,h9,h13,h14]
 clear h0 h1 h8 h9 h13 h14
 rw[Frame.finish_at]
 simp only[srdr9,srdBody,Try.f26,zz,Nat.reduceAdd]
 walk_nrm
 refine ogE ?_
 refine ogSR srds16' srdr10' ?_
 simp only[srdr10,srdBody,Try.f26,zz,Nat.reduceAdd]
 iterate 3 (refine oW fun dd K hK=>?_;go_simp;refine qT hK ?_;clear hK K)
 refine oc callable54 #[.pointer (some ⟨lb,0,none⟩)] ?_
 refine own_ldI hc rfl ?_
 rw[Frame.finish_at]
 walk_nrm
 iterate 2 (refine oW fun dd K hK=>?_;go_simp;refine qT hK ?_;clear hK K)
 refine ogE ?_
 rw[srdc35']
 refine ogT ?_
 simp only[if_true]
 refine ogSR srds17' srdr11' ?_
 simp only[srdr11,srdBody,Try.f26,zz,Nat.reduceAdd]
 iterate 3 (refine oW fun dd K hK=>?_;go_simp;refine qT hK ?_;clear hK K)
 refine ogE ?_
 refine ogX ?_
 refine own_go rfl (fun d=>stepG_leave (fn:=Try.f26) (v:=.tuple #[ov,.bool true]) rfl rfl Try.func26 (by simp[results,Try.f26]) (by simp[results,Try.f26,go_sem])) ?_
 exact h
theorem rd_3b{sv:Value}{lb:Nat}{ov:Value}{u:Int}{T r:Nat}{v:Int}(hT:T≤1024)(hr:r+1<T)(hq:(u == v)=false)(hc:w.cell? ⟨lb,0,none⟩=some (.int .i64 u)){A:Array Value}(hA:Slots 38 A [(0,.pointer (some ⟨lb,0,none⟩)),(1,sv),(8,.int .i64 v),(9,ov),(13,.int .i64 (T:Nat)),(14,.int .i64 (r:Nat))]){cs:List Frame}{main:Bool}{Stop:Goroutine→World→Prop}
 (h:∀A,Slots 38 A [(0,.pointer (some ⟨lb,0,none⟩)),(1,sv),(13,.int .i64 (T:Nat)),(14,.int .i64 (r+1:Nat))]→Own Try.prog main F Stop (G (Frame.enter Try.prog 61 #[sv] .normal) (((Go.Conc.base 26).at ⟨A,[]⟩ [.inRegion (oC srdr5) [1],.code srds11,.inBlock 1,.code srdr12,.inLoop srds7,.inBlock 0,.code srds18])::cs)) w):
 Own Try.prog main F Stop (G (((Go.Conc.base 26).at ⟨A,[]⟩ [.inRegion (oC srdr9) [1],.code srds16,.inBlock 1,.code srdr12,.inLoop srds7,.inBlock 0,.code srds18]).finish (.tuple #[])) (cs)) w:=by
 obtain⟨hsz,h0,h1,h8,h9,h13,h14,_⟩:=hA
 obtain⟨s,rfl⟩:=srdT_of hsz
 change s 0=_ at h0
 change s 1=_ at h1
 change s 8=_ at h8
 change s 9=_ at h9
 change s 13=_ at h13
 change s 14=_ at h14
 clear hsz
 simp only[srdT,h0,h1,h8,h9,h13,h14]
 clear h0 h1 h8 h9 h13 h14
 have hk64:IntKind.i64.wrap ((r:Int)+1)=(r:Int)+1:=IntWalk.i64_in _ (by omega)
 have hlt:decide ((r:Int)+1<(T:Int))=true:=by simp;omega
 have hlt2:decide (r+1<T)=true:=by simp;omega
 rw[Frame.finish_at]
 simp only[srdr9,srdBody,Try.f26,zz,Nat.reduceAdd]
 walk_nrm
 refine ogE ?_
 refine ogSR srds16' srdr10' ?_
 simp only[srdr10,srdBody,Try.f26,zz,Nat.reduceAdd]
 iterate 3 (refine oW fun dd K hK=>?_;go_simp;refine qT hK ?_;clear hK K)
 refine oc callable54 #[.pointer (some ⟨lb,0,none⟩)] ?_
 refine own_ldI hc rfl ?_
 rw[Frame.finish_at]
 walk_nrm
 iterate 2 (refine oW fun dd K hK=>?_;go_simp;refine qT hK ?_;clear hK K)
 refine ogE ?_
 rw[srdc35']
 refine ogF ?_
 simp only[Bool.false_eq_true,if_false]
 refine ogK ?_
 refine ogI ?_
 rw[srdr12']
 refine ogR ?_
 simp only[srdr12,srdBody,Try.f26,zz,Nat.reduceAdd]
 iterate 2 (refine oW fun dd K hK=>?_;go_simp;refine qT hK ?_;clear hK K)
 refine ogE ?_
 refine ogL ?_
 refine ogSR srds7' srdr4' ?_
 simp only[srdr4,srdBody,Try.f26,zz,Nat.reduceAdd]
 (refine oW fun dd K hK=>?_;go_simp;refine qT hK ?_;clear hK K)
 refine ogE ?_
 refine ogSE srds8' ?_
 rw[srdc15']
 refine ogT ?_
 simp only[if_true]
 refine ogK ?_
 refine ogSE srds9' ?_
 rw[srdb1']
 refine ogB ?_
 refine ogSR srds10' srdr5' ?_
 simp only[srdr5,srdBody,Try.f26,zz,Nat.reduceAdd]
 (refine oW fun dd K hK=>?_;go_simp;refine qT hK ?_;clear hK K)
 refine oc callable61 #[sv] ?_
 refine h _ ?_
 exact⟨rfl,rfl,rfl,rfl,rfl,trivial⟩
theorem rd_3c{sv:Value}{lb:Nat}{ov:Value}{u:Int}{T r:Nat}{v:Int}(hT:T≤1024)(hr:r+1=T)(hq:(u == v)=false)(hc:w.cell? ⟨lb,0,none⟩=some (.int .i64 u)){A:Array Value}(hA:Slots 38 A [(0,.pointer (some ⟨lb,0,none⟩)),(1,sv),(8,.int .i64 v),(9,ov),(13,.int .i64 (T:Nat)),(14,.int .i64 (r:Nat))]){c:Frame}{cs:List Frame}{main:Bool}{Stop:Goroutine→World→Prop}
 (h:Own Try.prog main F Stop (G (c.finish (.tuple #[.slice none 0 0,.bool false])) cs) w):
 Own Try.prog main F Stop (G (((Go.Conc.base 26).at ⟨A,[]⟩ [.inRegion (oC srdr9) [1],.code srds16,.inBlock 1,.code srdr12,.inLoop srds7,.inBlock 0,.code srds18]).finish (.tuple #[])) (c::cs)) w:=by
 obtain⟨hsz,h0,h1,h8,h9,h13,h14,_⟩:=hA
 obtain⟨s,rfl⟩:=srdT_of hsz
 change s 0=_ at h0
 change s 1=_ at h1
 change s 8=_ at h8
 change s 9=_ at h9
 change s 13=_ at h13
 change s 14=_ at h14
 clear hsz
 simp only[srdT,h0,h1,h8,h9,h13,h14]
 clear h0 h1 h8 h9 h13 h14
 have hk64:IntKind.i64.wrap ((r:Int)+1)=(r:Int)+1:=IntWalk.i64_in _ (by omega)
 have hlt:decide ((r:Int)+1<(T:Int))=false:=by simp;omega
 have hlt2:decide (r+1<T)=false:=by simp;omega
 rw[Frame.finish_at]
 simp only[srdr9,srdBody,Try.f26,zz,Nat.reduceAdd]
 walk_nrm
 refine ogE ?_
 refine ogSR srds16' srdr10' ?_
 simp only[srdr10,srdBody,Try.f26,zz,Nat.reduceAdd]
 iterate 3 (refine oW fun dd K hK=>?_;go_simp;refine qT hK ?_;clear hK K)
 refine oc callable54 #[.pointer (some ⟨lb,0,none⟩)] ?_
 refine own_ldI hc rfl ?_
 rw[Frame.finish_at]
 walk_nrm
 iterate 2 (refine oW fun dd K hK=>?_;go_simp;refine qT hK ?_;clear hK K)
 refine ogE ?_
 rw[srdc35']
 refine ogF ?_
 simp only[Bool.false_eq_true,if_false]
 refine ogK ?_
 refine ogI ?_
 rw[srdr12']
 refine ogR ?_
 simp only[srdr12,srdBody,Try.f26,zz,Nat.reduceAdd]
 iterate 2 (refine oW fun dd K hK=>?_;go_simp;refine qT hK ?_;clear hK K)
 refine ogE ?_
 refine ogL ?_
 refine ogSR srds7' srdr4' ?_
 simp only[srdr4,srdBody,Try.f26,zz,Nat.reduceAdd]
 (refine oW fun dd K hK=>?_;go_simp;refine qT hK ?_;clear hK K)
 refine ogE ?_
 refine ogSE srds8' ?_
 rw[srdc15']
 refine ogF ?_
 simp only[Bool.false_eq_true,if_false]
 refine own_go rfl (fun d=>stepG_exit rfl) ?_
 refine ogSR srds18' srdr13' ?_
 simp only[srdr13,srdBody,Try.f26,zz,Nat.reduceAdd]
 iterate 2 (refine oW fun dd K hK=>?_;go_simp;refine qT hK ?_;clear hK K)
 refine ogE ?_
 refine ogX ?_
 refine own_go rfl (fun d=>stepG_leave (fn:=Try.f26) (v:=.tuple #[.slice none 0 0,.bool false]) rfl rfl Try.func26 (by simp[results,Try.f26]) (by simp[results,Try.f26,go_sem])) ?_
 exact h
def snwBody:Code:=Try.f27.body.getD .skip
def snws0:=pC [] snwBody
def snwr0:=pC [zt] snwBody
def snws1:=pC [zf] snwBody
def snws2:=pC [zf,zt] snwBody
def snwr1:=pC [zf,zt,zt] snwBody
def snwc10:=pC [zf,zt,zf] snwBody
def snws3:=pC [zf,zt,zf,zt] snwBody
def snws4:=pC [zf,zf] snwBody
def snwr3:=pC [zf,zf,zt] snwBody
def snws5:=pC [zf,zf,zf] snwBody
def snwr4:=pC [zf,zf,zf,zt] snwBody
def snws6:=pC [zf,zf,zf,zf] snwBody
def snwr5:=pC [zf,zf,zf,zf,zt] snwBody
theorem snws0':snws0= .seq snwr0 snws1:=by kernel_rfl
theorem snwr0':snwr0= .region 0 (oC snwr0) false:=by kernel_rfl
theorem snws1':snws1= .seq snws2 snws4:=by kernel_rfl
theorem snws2':snws2= .seq snwr1 snwc10:=by kernel_rfl
theorem snwr1':snwr1= .region 1 (oC snwr1) false:=by kernel_rfl
theorem snwc10':snwc10= .cond (.tmp 10) snws3 .skip:=by kernel_rfl
theorem snws4':snws4= .seq snwr3 snws5:=by kernel_rfl
theorem snwr3':snwr3= .region 3 (oC snwr3) false:=by kernel_rfl
theorem snws5':snws5= .seq snwr4 snws6:=by kernel_rfl
theorem snwr4':snwr4= .region 4 (oC snwr4) false:=by kernel_rfl
theorem snws6':snws6= .seq snwr5 .ret:=by kernel_rfl
theorem snwr5':snwr5= .region 5 (oC snwr5) false:=by kernel_rfl
theorem enter_snw(args:Array Value):Frame.enter Try.prog 27 args .normal=(Go.Conc.base 27).at {tmps:=args++Array.replicate (21 - args.size) undef,defers:=[]} [.code snws0]:=enter_at args Try.func27 rfl
theorem callable27:Callable 27:=callable Try.func27 rfl rfl
def snwT(s:Nat→Value):Array Value:= #[s 0,s 1,s 2,s 3,s 4,s 5,s 6,s 7,s 8,s 9,s 10,s 11,s 12,s 13,s 14,s 15,s 16,s 17,s 18,s 19,s 20]
theorem snwT_of{A:Array Value}(h:A.size=21):∃s,A=snwT s:=by
 obtain⟨s,hs,_⟩:=arr_lit A h
 exact⟨s,hs⟩
theorem nw_0{sv:Value}{lb:Nat}{a:Int}{cs:List Frame}{main:Bool}{Stop:Goroutine→World→Prop}
 (h:∀A,Slots 21 A [(0,.pointer (some ⟨lb,0,none⟩)),(1,sv),(2,.int .i64 a)]→Own Try.prog main F Stop (G (Frame.enter Try.prog 61 #[sv] .normal) (((Go.Conc.base 27).at ⟨A,[]⟩ [.inRegion (oC snwr3) [1],.code snws5])::cs)) w):
 Own Try.prog main F Stop (G (Frame.enter Try.prog 27 #[.pointer (some ⟨lb,0,none⟩),sv,.int .i64 a] .normal) cs) w:=by
 rw[enter_snw]
 walk_nrm
 refine ogSR snws0' snwr0' ?_
 simp only[snwr0,snwBody,Try.f27,zz,Nat.reduceAdd]
 iterate 2 (refine oW fun dd K hK=>?_;go_simp;refine qT hK ?_;clear hK K)
 refine ogE ?_
 refine ogSE snws1' ?_
 refine ogSR snws2' snwr1' ?_
 simp only[snwr1,snwBody,Try.f27,zz,Nat.reduceAdd]
 iterate 2 (refine oW fun dd K hK=>?_;go_simp;refine qT hK ?_;clear hK K)
 refine ogE ?_
 rw[snwc10']
 refine ogF ?_
 simp only[Bool.false_eq_true,if_false]
 refine ogK ?_
 refine ogSR snws4' snwr3' ?_
 simp only[snwr3,snwBody,Try.f27,zz,Nat.reduceAdd]
 (refine oW fun dd K hK=>?_;go_simp;refine qT hK ?_;clear hK K)
 refine oc callable61 #[sv] ?_
 refine h _ ?_
 exact⟨rfl,rfl,rfl,rfl,trivial⟩
theorem nw_1{sv:Value}{lb:Nat}{a v:Int}(hc:w.cell? ⟨lb,0,none⟩=some (.int .i64 v)){A:Array Value}(hA:Slots 21 A [(0,.pointer (some ⟨lb,0,none⟩)),(1,sv),(2,.int .i64 a)]){c:Frame}{cs:List Frame}{main:Bool}{Stop:Goroutine→World→Prop}
 (h:Own Try.prog main F Stop (G (c.finish (.tuple #[.int .i64 v,.bool (decide (a<v))])) cs) w):
 Own Try.prog main F Stop (G (((Go.Conc.base 27).at ⟨A,[]⟩ [.inRegion (oC snwr3) [1],.code snws5]).finish (.tuple #[])) (c::cs)) w:=by
 obtain⟨hsz,h0,h1,h2,_⟩:=hA
 obtain⟨s,rfl⟩:=snwT_of hsz
 change s 0=_ at h0
 change s 1=_ at h1
 change s 2=_ at h2
 clear hsz
 simp only[snwT,h0,h1,h2]
 clear h0 h1 h2
 rw[Frame.finish_at]
 simp only[snwr3,snwBody,Try.f27,zz,Nat.reduceAdd]
 walk_nrm
 refine ogE ?_
 refine ogSR snws5' snwr4' ?_
 simp only[snwr4,snwBody,Try.f27,zz,Nat.reduceAdd]
 iterate 3 (refine oW fun dd K hK=>?_;go_simp;refine qT hK ?_;clear hK K)
 refine oc callable54 #[.pointer (some ⟨lb,0,none⟩)] ?_
 refine own_ldI hc rfl ?_
 rw[Frame.finish_at]
 walk_nrm
 (refine oW fun dd K hK=>?_;go_simp;refine qT hK ?_;clear hK K)
 refine ogE ?_
 refine ogSR snws6' snwr5' ?_
 simp only[snwr5,snwBody,Try.f27,zz,Nat.reduceAdd]
 iterate 6 (refine oW fun dd K hK=>?_;go_simp;refine qT hK ?_;clear hK K)
 refine ogE ?_
 refine ogX ?_
 refine own_go rfl (fun d=>stepG_leave (fn:=Try.f27) (v:=.tuple #[.int .i64 v,.bool (decide (a<v))]) rfl rfl Try.func27 (by simp[results,Try.f27]) (by simp[results,Try.f27,go_sem])) ?_
 exact h
end
noncomputable section
variable{F:Fz}{w:World}
theorem SH.alloc{lb wb wo n:Nat}{w:World}(h:SH lb wb wo n w)(o:Obj):SH lb wb wo n (w.alloc o):=⟨h.c2.imp (fun h=>(cellB_alloc h o).1) fun h=>⟨(cellB_alloc h.1 o).1,h.2⟩,h.n1,h.n2⟩
theorem old_alloc{w:World}{r:Nat}{x:Obj}(h:w.heap[r]? =some x)(o:Obj):(w.alloc o).heap[r]? =some x:=by
 rw[heap_alloc_lt _ _ (alt h),h]
theorem old_set{w:World}{r ab k:Nat}{v:Value}(h:r≠ab):(w.setCell ⟨ab,k,none⟩ v).heap[r]? =w.heap[r]?:=heap_setCell_ne _ _ _ h
structure AnsN(w:World)(ab:Nat):Prop where
 o:w.heap[ab]? =some (.cells #[.bool false,.int .i64 0,.slice none 0 0] 44 (0,0))
theorem AnsN.c{w:World}{ab:Nat}(h:AnsN w ab):w.cell? ⟨ab,0,none⟩=some (.bool false)∧w.cell? ⟨ab,1,none⟩=some (.int .i64 0)∧w.cell? ⟨ab,2,none⟩=some (.slice none 0 0):=⟨by simp[World.cell?,h.o],by simp[World.cell?,h.o],by simp[World.cell?,h.o]⟩
theorem AnsN.z{w:World}{ab:Nat}(h:AnsN w ab)(k:Nat):w.frozen? ⟨ab,k,none⟩=false:=by simp[World.frozen?,h.o]
structure AnsW(w w':World)(ab rb:Nat):Prop where
 size:w'.heap.size=w.heap.size
 old:∀r,r≠ab→r≠rb→w'.heap[r]? =w.heap[r]?
def sdoBody:Code:=Try.f48.body.getD .skip
def sdos0:=pC [] sdoBody
def sdor0:=pC [zt] sdoBody
def sdos1:=pC [zf] sdoBody
def sdor1:=pC [zf,zt] sdoBody
def sdos2:=pC [zf,zf] sdoBody
def sdos3:=pC [zf,zf,zt] sdoBody
def sdor2:=pC [zf,zf,zt,zt] sdoBody
def sdob0:=pC [zf,zf,zt,zf] sdoBody
def sdol4:=pC [zf,zf,zt,zf,zt] sdoBody
def sdos5:=pC [zf,zf,zt,zf,zt,zt] sdoBody
def sdor3:=pC [zf,zf,zt,zf,zt,zt,zt] sdoBody
def sdos6:=pC [zf,zf,zt,zf,zt,zt,zf] sdoBody
def sdoc15:=pC [zf,zf,zt,zf,zt,zt,zf,zt] sdoBody
def sdos7:=pC [zf,zf,zt,zf,zt,zt,zf,zf] sdoBody
def sdob1:=pC [zf,zf,zt,zf,zt,zt,zf,zf,zt] sdoBody
def sdos8:=pC [zf,zf,zt,zf,zt,zt,zf,zf,zt,zt] sdoBody
def sdor4:=pC [zf,zf,zt,zf,zt,zt,zf,zf,zt,zt,zt] sdoBody
def sdor5:=pC [zf,zf,zt,zf,zt,zt,zf,zf,zt,zt,zf] sdoBody
def sdor6:=pC [zf,zf,zt,zf,zt,zt,zf,zf,zf] sdoBody
def sdos9:=pC [zf,zf,zf] sdoBody
def sdor7:=pC [zf,zf,zf,zt] sdoBody
def sdos10:=pC [zf,zf,zf,zf] sdoBody
def sdos11:=pC [zf,zf,zf,zf,zt] sdoBody
def sdor8:=pC [zf,zf,zf,zf,zt,zt] sdoBody
def sdob2:=pC [zf,zf,zf,zf,zt,zf] sdoBody
def sdos12:=pC [zf,zf,zf,zf,zt,zf,zt] sdoBody
def sdor9:=pC [zf,zf,zf,zf,zt,zf,zt,zt] sdoBody
def sdoc30:=pC [zf,zf,zf,zf,zt,zf,zt,zf] sdoBody
def sdor10:=pC [zf,zf,zf,zf,zt,zf,zt,zf,zt] sdoBody
def sdos13:=pC [zf,zf,zf,zf,zt,zf,zt,zf,zf] sdoBody
def sdor11:=pC [zf,zf,zf,zf,zt,zf,zt,zf,zf,zt] sdoBody
def sdoc39:=pC [zf,zf,zf,zf,zt,zf,zt,zf,zf,zf] sdoBody
def sdor12:=pC [zf,zf,zf,zf,zt,zf,zt,zf,zf,zf,zt] sdoBody
def sdos14:=pC [zf,zf,zf,zf,zt,zf,zt,zf,zf,zf,zf] sdoBody
def sdor13:=pC [zf,zf,zf,zf,zt,zf,zt,zf,zf,zf,zf,zt] sdoBody
def sdoc48:=pC [zf,zf,zf,zf,zt,zf,zt,zf,zf,zf,zf,zf] sdoBody
def sdor14:=pC [zf,zf,zf,zf,zt,zf,zt,zf,zf,zf,zf,zf,zt] sdoBody
def sdos15:=pC [zf,zf,zf,zf,zt,zf,zt,zf,zf,zf,zf,zf,zf] sdoBody
def sdor15:=pC [zf,zf,zf,zf,zt,zf,zt,zf,zf,zf,zf,zf,zf,zt] sdoBody
def sdoc60:=pC [zf,zf,zf,zf,zt,zf,zt,zf,zf,zf,zf,zf,zf,zf] sdoBody
def sdor16:=pC [zf,zf,zf,zf,zt,zf,zt,zf,zf,zf,zf,zf,zf,zf,zt] sdoBody
def sdos16:=pC [zf,zf,zf,zf,zt,zf,zt,zf,zf,zf,zf,zf,zf,zf,zf] sdoBody
def sdor17:=pC [zf,zf,zf,zf,zt,zf,zt,zf,zf,zf,zf,zf,zf,zf,zf,zt] sdoBody
def sdoc67:=pC [zf,zf,zf,zf,zt,zf,zt,zf,zf,zf,zf,zf,zf,zf,zf,zf] sdoBody
def sdor18:=pC [zf,zf,zf,zf,zt,zf,zt,zf,zf,zf,zf,zf,zf,zf,zf,zf,zt] sdoBody
def sdos17:=pC [zf,zf,zf,zf,zf] sdoBody
def sdor19:=pC [zf,zf,zf,zf,zf,zt] sdoBody
theorem sdos0':sdos0= .seq sdor0 sdos1:=by kernel_rfl
theorem sdor0':sdor0= .region 0 (oC sdor0) false:=by kernel_rfl
theorem sdos1':sdos1= .seq sdor1 sdos2:=by kernel_rfl
theorem sdor1':sdor1= .region 1 (oC sdor1) false:=by kernel_rfl
theorem sdos2':sdos2= .seq sdos3 sdos9:=by kernel_rfl
theorem sdos3':sdos3= .seq sdor2 sdob0:=by kernel_rfl
theorem sdor2':sdor2= .region 2 (oC sdor2) false:=by kernel_rfl
theorem sdob0':sdob0= .block 0 sdol4:=by kernel_rfl
theorem sdol4':sdol4= .loop sdos5:=by kernel_rfl
theorem sdos5':sdos5= .seq sdor3 sdos6:=by kernel_rfl
theorem sdor3':sdor3= .region 3 (oC sdor3) false:=by kernel_rfl
theorem sdos6':sdos6= .seq sdoc15 sdos7:=by kernel_rfl
theorem sdoc15':sdoc15= .cond (.tmp 15) .skip (.exit 0):=by kernel_rfl
theorem sdos7':sdos7= .seq sdob1 sdor6:=by kernel_rfl
theorem sdob1':sdob1= .block 1 sdos8:=by kernel_rfl
theorem sdos8':sdos8= .seq sdor4 sdor5:=by kernel_rfl
theorem sdor4':sdor4= .region 4 (oC sdor4) false:=by kernel_rfl
theorem sdor5':sdor5= .region 5 (oC sdor5) false:=by kernel_rfl
theorem sdor6':sdor6= .region 6 (oC sdor6) false:=by kernel_rfl
theorem sdos9':sdos9= .seq sdor7 sdos10:=by kernel_rfl
theorem sdor7':sdor7= .region 7 (oC sdor7) false:=by kernel_rfl
theorem sdos10':sdos10= .seq sdos11 sdos17:=by kernel_rfl
theorem sdos11':sdos11= .seq sdor8 sdob2:=by kernel_rfl
theorem sdor8':sdor8= .region 8 (oC sdor8) false:=by kernel_rfl
theorem sdob2':sdob2= .block 2 sdos12:=by kernel_rfl
theorem sdos12':sdos12= .seq sdor9 sdoc30:=by kernel_rfl
theorem sdor9':sdor9= .region 9 (oC sdor9) false:=by kernel_rfl
theorem sdoc30':sdoc30= .cond (.tmp 30) sdor10 sdos13:=by kernel_rfl
theorem sdor10':sdor10= .region 10 (oC sdor10) false:=by kernel_rfl
theorem sdos13':sdos13= .seq sdor11 sdoc39:=by kernel_rfl
theorem sdor11':sdor11= .region 11 (oC sdor11) false:=by kernel_rfl
theorem sdoc39':sdoc39= .cond (.tmp 39) sdor12 sdos14:=by kernel_rfl
theorem sdor12':sdor12= .region 12 (oC sdor12) false:=by kernel_rfl
theorem sdos14':sdos14= .seq sdor13 sdoc48:=by kernel_rfl
theorem sdor13':sdor13= .region 13 (oC sdor13) false:=by kernel_rfl
theorem sdoc48':sdoc48= .cond (.tmp 48) sdor14 sdos15:=by kernel_rfl
theorem sdor14':sdor14= .region 14 (oC sdor14) false:=by kernel_rfl
theorem sdos15':sdos15= .seq sdor15 sdoc60:=by kernel_rfl
theorem sdor15':sdor15= .region 15 (oC sdor15) false:=by kernel_rfl
theorem sdoc60':sdoc60= .cond (.tmp 60) sdor16 sdos16:=by kernel_rfl
theorem sdor16':sdor16= .region 16 (oC sdor16) false:=by kernel_rfl
theorem sdos16':sdos16= .seq sdor17 sdoc67:=by kernel_rfl
theorem sdor17':sdor17= .region 17 (oC sdor17) false:=by kernel_rfl
theorem sdoc67':sdoc67= .cond (.tmp 67) sdor18 .skip:=by kernel_rfl
theorem sdor18':sdor18= .region 18 (oC sdor18) false:=by kernel_rfl
theorem sdos17':sdos17= .seq sdor19 .ret:=by kernel_rfl
theorem sdor19':sdor19= .region 19 (oC sdor19) false:=by kernel_rfl
theorem enter_sdo(args:Array Value):Frame.enter Try.prog 48 args .normal=(Go.Conc.base 48).at {tmps:=args++Array.replicate (80 - args.size) undef,defers:=[]} [.code sdos0]:=enter_at args Try.func48 rfl
theorem callable48:Callable 48:=callable Try.func48 rfl rfl
def sdoT(s:Nat→Value):Array Value:= #[s 0,s 1,s 2,s 3,s 4,s 5,s 6,s 7,s 8,s 9,s 10,s 11,s 12,s 13,s 14,s 15,s 16,s 17,s 18,s 19,s 20,s 21,s 22,s 23,s 24,s 25,s 26,s 27,s 28,s 29,s 30,s 31,s 32,s 33,s 34,s 35,s 36,s 37,s 38,s 39,s 40,s 41,s 42,s 43,s 44,s 45,s 46,s 47,s 48,s 49,s 50,s 51,s 52,s 53,s 54,s 55,s 56,s 57,s 58,s 59,s 60,s 61,s 62,s 63,s 64,s 65,s 66,s 67,s 68,s 69,s 70,s 71,s 72,s 73,s 74,s 75,s 76,s 77,s 78,s 79]
theorem sdoT_of{A:Array Value}(h:A.size=80):∃s,A=sdoT s:=by
 obtain⟨s,hs,_⟩:=arr_lit A h
 exact⟨s,hs⟩
theorem do_0{nn:Nat}(hU:Under F nn)(hn:nn≤w.heap.size){sv:Value}{lb wb wo n j:Nat}{kd a b c0:Int}(hs:SH lb wb wo n w){cs:List Frame}{main:Bool}{Stop:Goroutine→World→Prop}
 (h:∀A,Slots 80 A [(0,.pointer (some ⟨lb,0,none⟩)),(1,sv),(7,.pointer (some ⟨w.heap.size,0,none⟩)),(8,.pointer (some ⟨w.heap.size+1,0,none⟩)),(9,.slice none 0 0),(13,.int .i64 (n:Nat)),(14,.int .i64 (0:Nat))]→Own Try.prog main F Stop (G ((Go.Conc.base 48).at ⟨A,[]⟩ [.code sdos5,.inLoop sdos5,.inBlock 0,.code sdos9]) cs) ((w.alloc (.cells #[.int .i64 kd,.int .i64 a,.int .i64 b,.int .i64 c0] 47)).alloc (.cells #[.bool false,.int .i64 0,.slice none 0 0] 44))):
 Own Try.prog main F Stop (G (Frame.enter Try.prog 48 #[.pointer (some ⟨lb,0,none⟩),sv,.int .i64 j,.agg #[.int .i64 kd,.int .i64 a,.int .i64 b,.int .i64 c0]] .normal) cs) w:=by
 rw[enter_sdo]
 walk_nrm
 refine ogSR sdos0' sdor0' ?_
 simp only[sdor0,sdoBody,Try.f48,zz,Nat.reduceAdd]
 iterate 2 (refine oW fun dd K hK=>?_;go_simp;refine qA hK hU ?_;clear hK K)
 refine ogE ?_
 refine ogSR sdos1' sdor1' ?_
 simp only[sdor1,sdoBody,Try.f48,zz,Nat.reduceAdd]
 (refine oW fun dd K hK=>?_;go_simp;refine qT hK ?_;clear hK K)
 refine ogE ?_
 refine ogSE sdos2' ?_
 refine ogSR sdos3' sdor2' ?_
 simp only[sdor2,sdoBody,Try.f48,zz,Nat.reduceAdd]
 (refine oW fun dd K hK=>?_;go_simp;refine qT hK ?_;clear hK K)
 refine oc callable18 #[.pointer (some ⟨lb,0,none⟩)] ?_
 refine own_len ((hs.alloc _).alloc _) ?_
 rw[Frame.finish_at]
 walk_nrm
 (refine oW fun dd K hK=>?_;go_simp;refine qT hK ?_;clear hK K)
 refine ogE ?_
 rw[sdob0']
 refine ogB ?_
 rw[sdol4']
 refine ogP ?_
 refine h _ ?_
 exact⟨rfl,rfl,rfl,rfl,rfl,rfl,rfl,rfl,trivial⟩
theorem do_1{sv ov:Value}{lb ob rb n i:Nat}{kd a b c0:Int}(hn16:n≤16)(hi:i<n){xs:List Int}(hx:xs.length≤16){nn:Nat}(hU:Under F nn)(hn:nn≤w.heap.size)(hwf:Wf F w)(hrow:w.ownsRow 0 2 1 ov xs.length (xs.map fun v=>.int .i64 v))(hF:∀b,ov.ownBlock=some b→F b=none)(hob:w.heap[ob]? =some (.cells #[.int .i64 kd,.int .i64 a,.int .i64 b,.int .i64 c0] 47 (0,0))){A:Array Value}(hA:Slots 80 A [(0,.pointer (some ⟨lb,0,none⟩)),(1,sv),(7,.pointer (some ⟨ob,0,none⟩)),(8,.pointer (some ⟨rb,0,none⟩)),(9,ov),(13,.int .i64 (n:Nat)),(14,.int .i64 (i:Nat))]){cs:List Frame}{main:Bool}{Stop:Goroutine→World→Prop}
 (h:∀ov' w' A,Grown1 F w w' ov ov' xs (w64 (b+w64 (i*c0)))→Slots 80 A [(0,.pointer (some ⟨lb,0,none⟩)),(1,sv),(7,.pointer (some ⟨ob,0,none⟩)),(8,.pointer (some ⟨rb,0,none⟩)),(9,ov'),(13,.int .i64 (n:Nat)),(14,.int .i64 (i+1:Nat))]→Own Try.prog main F Stop (G ((Go.Conc.base 48).at ⟨A,[]⟩ [.code sdos5,.inLoop sdos5,.inBlock 0,.code sdos9]) cs) w'):
 Own Try.prog main F Stop (G ((Go.Conc.base 48).at ⟨A,[]⟩ [.code sdos5,.inLoop sdos5,.inBlock 0,.code sdos9]) cs) w:=by
 obtain⟨hsz,h0,h1,h7,h8,h9,h13,h14,_⟩:=hA
 obtain⟨s,rfl⟩:=sdoT_of hsz
 change s 0=_ at h0
 change s 1=_ at h1
 change s 7=_ at h7
 change s 8=_ at h8
 change s 9=_ at h9
 change s 13=_ at h13
 change s 14=_ at h14
 clear hsz
 simp only[sdoT,h0,h1,h7,h8,h9,h13,h14]
 clear h0 h1 h7 h8 h9 h13 h14
 have hk64:IntKind.i64.wrap ((i:Int)+1)=(i:Int)+1:=IntWalk.i64_in _ (by omega)
 have hin:(i:Int)<(n:Int):=by omega
 have hin2:i<n:=by omega
 have hlt:decide ((i:Int)<(n:Int))=true:=by simp;omega
 have hlt2:decide (i<n)=true:=by simp;omega
 have cb0:w.cell? ⟨ob,0,none⟩=some (.int .i64 kd):=by simp[World.cell?,hob]
 have cb1:w.cell? ⟨ob,1,none⟩=some (.int .i64 a):=by simp[World.cell?,hob]
 have cb2:w.cell? ⟨ob,2,none⟩=some (.int .i64 b):=by simp[World.cell?,hob]
 have cb3:w.cell? ⟨ob,3,none⟩=some (.int .i64 c0):=by simp[World.cell?,hob]
 refine ogSR sdos5' sdor3' ?_
 simp only[sdor3,sdoBody,Try.f48,zz,Nat.reduceAdd]
 (refine oW fun dd K hK=>?_;go_simp;refine qT hK ?_;clear hK K)
 refine ogE ?_
 refine ogSE sdos6' ?_
 rw[sdoc15']
 refine ogT ?_
 simp only[if_true]
 refine ogK ?_
 refine ogSE sdos7' ?_
 rw[sdob1']
 refine ogB ?_
 refine ogSR sdos8' sdor4' ?_
 simp only[sdor4,sdoBody,Try.f48,zz,Nat.reduceAdd]
 iterate 2 (refine oW fun dd K hK=>?_;go_simp;refine qT hK ?_;clear hK K)
 refine ogE ?_
 rw[sdor5']
 refine ogR ?_
 simp only[sdor5,sdoBody,Try.f48,zz,Nat.reduceAdd]
 iterate 2 (refine oW fun dd K hK=>?_;go_simp;refine qT hK ?_;clear hK K)
 (refine oW fun dd K hK=>?_;go_simp;refine qL hK ?_;clear hK K)
 iterate 2 (refine oW fun dd K hK=>?_;go_simp;refine qT hK ?_;clear hK K)
 (refine oW fun dd K hK=>?_;go_simp;refine qL hK ?_;clear hK K)
 iterate 2 (refine oW fun dd K hK=>?_;go_simp;refine qT hK ?_;clear hK K)
 (refine oW fun dd K hK=>?_;go_simp;refine qA hK hU ?_;clear hK K)
 refine own_append (s:=.tmp 17) (x:=.tmp 25) (t:=22) (e:=2) (sz:=1) (bytes:=8) (news:=[.int .i64 (w64 (b+w64 (i*c0)))]) (m:=1) (c:=1) (ad:=⟨w.heap.size,0,none⟩) Try.underlying22 infoA2 (by decide) rfl rfl (by decide) rfl (hwf.of_grew (grew_alloc hU hn _)) (v:=ov) rfl rfl (hrow.alloc _) hF rfl (new_cells (X:=w) (l:=[.int .i64 (w64 (b+w64 (i*c0)))]) rfl) (by intro q hq;simp at hq;subst hq;rfl) (by unfold maxLen;omega) (by omega) fun ov' w' g1 g2 g3 g4 g5=>?_
 have hg:Grown1 F w w' ov ov' xs (w64 (b+w64 (i*c0))):=⟨by rw[List.map_append];exact g1,g2,by simp at g3;omega,fun q hq hne=>by rw[g4 q (by simp;omega) hne,heap_alloc_lt _ _ hq],g5.imp_right fun⟨g,h1,h2⟩=>⟨g,h1,by simp at h2;omega⟩⟩
 clear g1 g2 g3 g4 g5 hrow hwf
 walk_nrm
 (refine oW fun dd K hK=>?_;go_simp;refine qT hK ?_;clear hK K)
 refine ogE ?_
 refine ogI ?_
 rw[sdor6']
 refine ogR ?_
 simp only[sdor6,sdoBody,Try.f48,zz,Nat.reduceAdd]
 iterate 2 (refine oW fun dd K hK=>?_;go_simp;refine qT hK ?_;clear hK K)
 refine ogE ?_
 refine ogL ?_
 refine h ov' w' _ hg ?_
 exact⟨rfl,rfl,rfl,rfl,rfl,rfl,rfl,rfl,trivial⟩
theorem do_2{sv:Value}{lb ob rb n:Nat}{kd a b c0:Int}(hn16:n≤16){m0 nn:Nat}(hU:Under F nn)(hm0:nn≤m0){w0:World}(hob0:ob<m0)(hob:w0.heap[ob]? =some (.cells #[.int .i64 kd,.int .i64 a,.int .i64 b,.int .i64 c0] 47 (0,0))){cs:List Frame}{main:Bool}{Stop:Goroutine→World→Prop}
 (h:∀ov u A,u.ownsRow 0 2 1 ov n ((opVals n b c0).map fun v=>.int .i64 v)→Wf F u→m0≤u.heap.size→(∀r,r<m0→u.heap[r]? =w0.heap[r]?)→(∀g,ov.ownBlock=some g→m0≤g)→Slots 80 A [(0,.pointer (some ⟨lb,0,none⟩)),(1,sv),(7,.pointer (some ⟨ob,0,none⟩)),(8,.pointer (some ⟨rb,0,none⟩)),(9,ov),(13,.int .i64 (n:Nat)),(14,.int .i64 (n:Nat))]→Own Try.prog main F Stop (G ((Go.Conc.base 48).at ⟨A,[]⟩ [.code sdos5,.inLoop sdos5,.inBlock 0,.code sdos9]) cs) u):
 ∀k i ov u A,i+k=n→u.ownsRow 0 2 1 ov i ((opVals i b c0).map fun v=>.int .i64 v)→Wf F u→m0≤u.heap.size→(∀r,r<m0→u.heap[r]? =w0.heap[r]?)→(∀g,ov.ownBlock=some g→m0≤g)→Slots 80 A [(0,.pointer (some ⟨lb,0,none⟩)),(1,sv),(7,.pointer (some ⟨ob,0,none⟩)),(8,.pointer (some ⟨rb,0,none⟩)),(9,ov),(13,.int .i64 (n:Nat)),(14,.int .i64 (i:Nat))]→Own Try.prog main F Stop (G ((Go.Conc.base 48).at ⟨A,[]⟩ [.code sdos5,.inLoop sdos5,.inBlock 0,.code sdos9]) cs) u:=by
 intro k
 induction k with
 | zero=>
   intro i ov u A hi hrow hwf hsz hold hg hA
   have e:i=n:=by omega
   subst e
   exact h ov u A hrow hwf hsz hold hg hA
 | succ k ih=>
   intro i ov u A hi hrow hwf hsz hold hg hA
   have hl:=opVals_len i b c0
   have hF:∀b,ov.ownBlock=some b→F b=none:=fun q hq=>by
    cases hz:F q with
    | none=>rfl
    | some z=>exact absurd (hU q z hz) (by have:=hg q hq;omega)
   refine do_1 (kd:=kd) (a:=a) (b:=b) (c0:=c0) (xs:=opVals i b c0) hn16 (by omega) (by omega) hU (by omega) hwf (by rw[hl];exact hrow) hF ((hold _ hob0).trans hob) hA fun ov' w' A' g hA'=>?_
   have e:opVals (i+1) b c0=opVals i b c0++[w64 (b+w64 (i*c0))]:=by simp[opVals,List.range_succ]
   refine ih (i+1) ov' w' A' (by omega) ?_ g.wf (Nat.le_trans hsz g.size) (fun r hr=>?_) (fun q hq=>?_) hA'
   ·have:=g.row
    rw[hl]at this
    rw[e]
    exact this
   ·rw[g.old r (by omega) ?_,hold r hr]
    intro e2
    exact absurd (hg r e2.symm) (by omega)
   ·rcases g.blk with e2|⟨q2,e2,h2⟩
    ·exact hg q (e2 ▸ hq)
    ·rw[hq]at e2
     cases e2
     omega
theorem do_x1{sv ov:Value}{lb ob rb n:Nat}{a b c0:Int}{nn:Nat}(hU:Under F nn)(hn:nn≤w.heap.size)(hob:w.heap[ob]? =some (.cells #[.int .i64 1,.int .i64 a,.int .i64 b,.int .i64 c0] 47 (0,0))){A:Array Value}(hA:Slots 80 A [(0,.pointer (some ⟨lb,0,none⟩)),(1,sv),(7,.pointer (some ⟨ob,0,none⟩)),(8,.pointer (some ⟨rb,0,none⟩)),(9,ov),(13,.int .i64 (n:Nat)),(14,.int .i64 (n:Nat))]){cs:List Frame}{main:Bool}{Stop:Goroutine→World→Prop}
 (h:∀A,Slots 80 A [(8,.pointer (some ⟨rb,0,none⟩)),(11,.pointer (some ⟨w.heap.size,0,none⟩))]→Own Try.prog main F Stop (G (Frame.enter Try.prog 24 #[.pointer (some ⟨lb,0,none⟩),sv,.int .i64 a,ov] .normal) (((Go.Conc.base 48).at ⟨A,[]⟩ [.inRegion (oC sdor10) [5,6,7],.inBlock 2,.code sdos17])::cs)) (w.alloc (.cells #[.bool false,.int .i64 0,.slice none 0 0] 44))):
 Own Try.prog main F Stop (G ((Go.Conc.base 48).at ⟨A,[]⟩ [.code sdos5,.inLoop sdos5,.inBlock 0,.code sdos9]) cs) w:=by
 obtain⟨hsz,h0,h1,h7,h8,h9,h13,h14,_⟩:=hA
 obtain⟨s,rfl⟩:=sdoT_of hsz
 change s 0=_ at h0
 change s 1=_ at h1
 change s 7=_ at h7
 change s 8=_ at h8
 change s 9=_ at h9
 change s 13=_ at h13
 change s 14=_ at h14
 clear hsz
 simp only[sdoT,h0,h1,h7,h8,h9,h13,h14]
 clear h0 h1 h7 h8 h9 h13 h14
 have hlt:decide ((n:Int)<(n:Int))=false:=by simp
 have hlt2:decide (n<n)=false:=by simp
 have cb0:w.cell? ⟨ob,0,none⟩=some (.int .i64 1):=by simp[World.cell?,hob]
 have cb1:w.cell? ⟨ob,1,none⟩=some (.int .i64 a):=by simp[World.cell?,hob]
 have cb2:w.cell? ⟨ob,2,none⟩=some (.int .i64 b):=by simp[World.cell?,hob]
 have cb3:w.cell? ⟨ob,3,none⟩=some (.int .i64 c0):=by simp[World.cell?,hob]
 have ca0:(w.alloc (.cells #[.bool false,.int .i64 0,.slice none 0 0] 44)).cell? ⟨ob,0,none⟩=some (.int .i64 1):=by rw[(cellB_alloc cb0 _).1]
 have ca1:(w.alloc (.cells #[.bool false,.int .i64 0,.slice none 0 0] 44)).cell? ⟨ob,1,none⟩=some (.int .i64 a):=by rw[(cellB_alloc cb1 _).1]
 refine ogSR sdos5' sdor3' ?_
 simp only[sdor3,sdoBody,Try.f48,zz,Nat.reduceAdd]
 (refine oW fun dd K hK=>?_;go_simp;refine qT hK ?_;clear hK K)
 refine ogE ?_
 refine ogSE sdos6' ?_
 rw[sdoc15']
 refine ogF ?_
 simp only[Bool.false_eq_true,if_false]
 refine own_go rfl (fun d=>stepG_exit rfl) ?_
 refine ogSR sdos9' sdor7' ?_
 simp only[sdor7,sdoBody,Try.f48,zz,Nat.reduceAdd]
 (refine oW fun dd K hK=>?_;go_simp;refine qA hK hU ?_;clear hK K)
 refine ogE ?_
 refine ogSE sdos10' ?_
 refine ogSR sdos11' sdor8' ?_
 simp only[sdor8,sdoBody,Try.f48,zz,Nat.reduceAdd]
 (refine oW fun dd K hK=>?_;go_simp;refine qT hK ?_;clear hK K)
 (refine oW fun dd K hK=>?_;go_simp;refine qL hK ?_;clear hK K)
 refine ogE ?_
 rw[sdob2']
 refine ogB ?_
 refine ogSR sdos12' sdor9' ?_
 simp only[sdor9,sdoBody,Try.f48,zz,Nat.reduceAdd]
 iterate 2 (refine oW fun dd K hK=>?_;go_simp;refine qT hK ?_;clear hK K)
 refine ogE ?_
 rw[sdoc30']
 refine ogT ?_
 simp only[if_true]
 rw[sdor10']
 refine ogR ?_
 simp only[sdor10,sdoBody,Try.f48,zz,Nat.reduceAdd]
 iterate 3 (refine oW fun dd K hK=>?_;go_simp;refine qT hK ?_;clear hK K)
 (refine oW fun dd K hK=>?_;go_simp;refine qL hK ?_;clear hK K)
 (refine oW fun dd K hK=>?_;go_simp;refine qT hK ?_;clear hK K)
 refine oc callable24 #[.pointer (some ⟨lb,0,none⟩),sv,.int .i64 a,ov] ?_
 refine h _ ?_
 exact⟨rfl,rfl,rfl,trivial⟩
theorem do_x2{sv ov:Value}{lb ob rb n:Nat}{a b c0:Int}{nn:Nat}(hU:Under F nn)(hn:nn≤w.heap.size)(hob:w.heap[ob]? =some (.cells #[.int .i64 2,.int .i64 a,.int .i64 b,.int .i64 c0] 47 (0,0))){A:Array Value}(hA:Slots 80 A [(0,.pointer (some ⟨lb,0,none⟩)),(1,sv),(7,.pointer (some ⟨ob,0,none⟩)),(8,.pointer (some ⟨rb,0,none⟩)),(9,ov),(13,.int .i64 (n:Nat)),(14,.int .i64 (n:Nat))]){cs:List Frame}{main:Bool}{Stop:Goroutine→World→Prop}
 (h:∀A,Slots 80 A [(8,.pointer (some ⟨rb,0,none⟩)),(11,.pointer (some ⟨w.heap.size,0,none⟩))]→Own Try.prog main F Stop (G (Frame.enter Try.prog 25 #[.pointer (some ⟨lb,0,none⟩),sv,.int .i64 a,ov] .normal) (((Go.Conc.base 48).at ⟨A,[]⟩ [.inRegion (oC sdor12) [5,6,7],.inBlock 2,.code sdos17])::cs)) (w.alloc (.cells #[.bool false,.int .i64 0,.slice none 0 0] 44))):
 Own Try.prog main F Stop (G ((Go.Conc.base 48).at ⟨A,[]⟩ [.code sdos5,.inLoop sdos5,.inBlock 0,.code sdos9]) cs) w:=by
 obtain⟨hsz,h0,h1,h7,h8,h9,h13,h14,_⟩:=hA
 obtain⟨s,rfl⟩:=sdoT_of hsz
 change s 0=_ at h0
 change s 1=_ at h1
 change s 7=_ at h7
 change s 8=_ at h8
 change s 9=_ at h9
 change s 13=_ at h13
 change s 14=_ at h14
 clear hsz
 simp only[sdoT,h0,h1,h7,h8,h9,h13,h14]
 clear h0 h1 h7 h8 h9 h13 h14
 have hlt:decide ((n:Int)<(n:Int))=false:=by simp
 have hlt2:decide (n<n)=false:=by simp
 have cb0:w.cell? ⟨ob,0,none⟩=some (.int .i64 2):=by simp[World.cell?,hob]
 have cb1:w.cell? ⟨ob,1,none⟩=some (.int .i64 a):=by simp[World.cell?,hob]
 have cb2:w.cell? ⟨ob,2,none⟩=some (.int .i64 b):=by simp[World.cell?,hob]
 have cb3:w.cell? ⟨ob,3,none⟩=some (.int .i64 c0):=by simp[World.cell?,hob]
 have ca0:(w.alloc (.cells #[.bool false,.int .i64 0,.slice none 0 0] 44)).cell? ⟨ob,0,none⟩=some (.int .i64 2):=by rw[(cellB_alloc cb0 _).1]
 have ca1:(w.alloc (.cells #[.bool false,.int .i64 0,.slice none 0 0] 44)).cell? ⟨ob,1,none⟩=some (.int .i64 a):=by rw[(cellB_alloc cb1 _).1]
 refine ogSR sdos5' sdor3' ?_
 simp only[sdor3,sdoBody,Try.f48,zz,Nat.reduceAdd]
 (refine oW fun dd K hK=>?_;go_simp;refine qT hK ?_;clear hK K)
 refine ogE ?_
 refine ogSE sdos6' ?_
 rw[sdoc15']
 refine ogF ?_
 simp only[Bool.false_eq_true,if_false]
 refine own_go rfl (fun d=>stepG_exit rfl) ?_
 refine ogSR sdos9' sdor7' ?_
 simp only[sdor7,sdoBody,Try.f48,zz,Nat.reduceAdd]
 (refine oW fun dd K hK=>?_;go_simp;refine qA hK hU ?_;clear hK K)
 refine ogE ?_
 refine ogSE sdos10' ?_
 refine ogSR sdos11' sdor8' ?_
 simp only[sdor8,sdoBody,Try.f48,zz,Nat.reduceAdd]
 (refine oW fun dd K hK=>?_;go_simp;refine qT hK ?_;clear hK K)
 (refine oW fun dd K hK=>?_;go_simp;refine qL hK ?_;clear hK K)
 refine ogE ?_
 rw[sdob2']
 refine ogB ?_
 refine ogSR sdos12' sdor9' ?_
 simp only[sdor9,sdoBody,Try.f48,zz,Nat.reduceAdd]
 iterate 2 (refine oW fun dd K hK=>?_;go_simp;refine qT hK ?_;clear hK K)
 refine ogE ?_
 rw[sdoc30']
 refine ogF ?_
 simp only[Bool.false_eq_true,if_false]
 refine ogSR sdos13' sdor11' ?_
 simp only[sdor11,sdoBody,Try.f48,zz,Nat.reduceAdd]
 iterate 2 (refine oW fun dd K hK=>?_;go_simp;refine qT hK ?_;clear hK K)
 refine ogE ?_
 rw[sdoc39']
 refine ogT ?_
 simp only[if_true]
 rw[sdor12']
 refine ogR ?_
 simp only[sdor12,sdoBody,Try.f48,zz,Nat.reduceAdd]
 iterate 3 (refine oW fun dd K hK=>?_;go_simp;refine qT hK ?_;clear hK K)
 (refine oW fun dd K hK=>?_;go_simp;refine qL hK ?_;clear hK K)
 (refine oW fun dd K hK=>?_;go_simp;refine qT hK ?_;clear hK K)
 refine oc callable25 #[.pointer (some ⟨lb,0,none⟩),sv,.int .i64 a,ov] ?_
 refine h _ ?_
 exact⟨rfl,rfl,rfl,trivial⟩
theorem do_x3{sv ov:Value}{lb ob rb n:Nat}{a b c0:Int}{nn:Nat}(hU:Under F nn)(hn:nn≤w.heap.size)(hob:w.heap[ob]? =some (.cells #[.int .i64 3,.int .i64 a,.int .i64 b,.int .i64 c0] 47 (0,0))){A:Array Value}(hA:Slots 80 A [(0,.pointer (some ⟨lb,0,none⟩)),(1,sv),(7,.pointer (some ⟨ob,0,none⟩)),(8,.pointer (some ⟨rb,0,none⟩)),(9,ov),(13,.int .i64 (n:Nat)),(14,.int .i64 (n:Nat))]){cs:List Frame}{main:Bool}{Stop:Goroutine→World→Prop}
 (h:∀A,Slots 80 A [(8,.pointer (some ⟨rb,0,none⟩)),(11,.pointer (some ⟨w.heap.size,0,none⟩))]→Own Try.prog main F Stop (G (Frame.enter Try.prog 26 #[.pointer (some ⟨lb,0,none⟩),sv,.int .i64 a] .normal) (((Go.Conc.base 48).at ⟨A,[]⟩ [.inRegion (oC sdor14) [4,5,6,7,8,9,10,11],.inBlock 2,.code sdos17])::cs)) (w.alloc (.cells #[.bool false,.int .i64 0,.slice none 0 0] 44))):
 Own Try.prog main F Stop (G ((Go.Conc.base 48).at ⟨A,[]⟩ [.code sdos5,.inLoop sdos5,.inBlock 0,.code sdos9]) cs) w:=by
 obtain⟨hsz,h0,h1,h7,h8,h9,h13,h14,_⟩:=hA
 obtain⟨s,rfl⟩:=sdoT_of hsz
 change s 0=_ at h0
 change s 1=_ at h1
 change s 7=_ at h7
 change s 8=_ at h8
 change s 9=_ at h9
 change s 13=_ at h13
 change s 14=_ at h14
 clear hsz
 simp only[sdoT,h0,h1,h7,h8,h9,h13,h14]
 clear h0 h1 h7 h8 h9 h13 h14
 have hlt:decide ((n:Int)<(n:Int))=false:=by simp
 have hlt2:decide (n<n)=false:=by simp
 have cb0:w.cell? ⟨ob,0,none⟩=some (.int .i64 3):=by simp[World.cell?,hob]
 have cb1:w.cell? ⟨ob,1,none⟩=some (.int .i64 a):=by simp[World.cell?,hob]
 have cb2:w.cell? ⟨ob,2,none⟩=some (.int .i64 b):=by simp[World.cell?,hob]
 have cb3:w.cell? ⟨ob,3,none⟩=some (.int .i64 c0):=by simp[World.cell?,hob]
 have ca0:(w.alloc (.cells #[.bool false,.int .i64 0,.slice none 0 0] 44)).cell? ⟨ob,0,none⟩=some (.int .i64 3):=by rw[(cellB_alloc cb0 _).1]
 have ca1:(w.alloc (.cells #[.bool false,.int .i64 0,.slice none 0 0] 44)).cell? ⟨ob,1,none⟩=some (.int .i64 a):=by rw[(cellB_alloc cb1 _).1]
 refine ogSR sdos5' sdor3' ?_
 simp only[sdor3,sdoBody,Try.f48,zz,Nat.reduceAdd]
 (refine oW fun dd K hK=>?_;go_simp;refine qT hK ?_;clear hK K)
 refine ogE ?_
 refine ogSE sdos6' ?_
 rw[sdoc15']
 refine ogF ?_
 simp only[Bool.false_eq_true,if_false]
 refine own_go rfl (fun d=>stepG_exit rfl) ?_
 refine ogSR sdos9' sdor7' ?_
 simp only[sdor7,sdoBody,Try.f48,zz,Nat.reduceAdd]
 (refine oW fun dd K hK=>?_;go_simp;refine qA hK hU ?_;clear hK K)
 refine ogE ?_
 refine ogSE sdos10' ?_
 refine ogSR sdos11' sdor8' ?_
 simp only[sdor8,sdoBody,Try.f48,zz,Nat.reduceAdd]
 (refine oW fun dd K hK=>?_;go_simp;refine qT hK ?_;clear hK K)
 (refine oW fun dd K hK=>?_;go_simp;refine qL hK ?_;clear hK K)
 refine ogE ?_
 rw[sdob2']
 refine ogB ?_
 refine ogSR sdos12' sdor9' ?_
 simp only[sdor9,sdoBody,Try.f48,zz,Nat.reduceAdd]
 iterate 2 (refine oW fun dd K hK=>?_;go_simp;refine qT hK ?_;clear hK K)
 refine ogE ?_
 rw[sdoc30']
 refine ogF ?_
 simp only[Bool.false_eq_true,if_false]
 refine ogSR sdos13' sdor11' ?_
 simp only[sdor11,sdoBody,Try.f48,zz,Nat.reduceAdd]
 iterate 2 (refine oW fun dd K hK=>?_;go_simp;refine qT hK ?_;clear hK K)
 refine ogE ?_
 rw[sdoc39']
 refine ogF ?_
 simp only[Bool.false_eq_true,if_false]
 refine ogSR sdos14' sdor13' ?_
 simp only[sdor13,sdoBody,Try.f48,zz,Nat.reduceAdd]
 iterate 2 (refine oW fun dd K hK=>?_;go_simp;refine qT hK ?_;clear hK K)
 refine ogE ?_
 rw[sdoc48']
 refine ogT ?_
 simp only[if_true]
 rw[sdor14']
 refine ogR ?_
 simp only[sdor14,sdoBody,Try.f48,zz,Nat.reduceAdd]
 iterate 3 (refine oW fun dd K hK=>?_;go_simp;refine qT hK ?_;clear hK K)
 (refine oW fun dd K hK=>?_;go_simp;refine qL hK ?_;clear hK K)
 refine oc callable26 #[.pointer (some ⟨lb,0,none⟩),sv,.int .i64 a] ?_
 refine h _ ?_
 exact⟨rfl,rfl,rfl,trivial⟩
theorem do_x4{sv ov:Value}{lb ob rb n:Nat}{a b c0:Int}{nn:Nat}(hU:Under F nn)(hn:nn≤w.heap.size)(hob:w.heap[ob]? =some (.cells #[.int .i64 4,.int .i64 a,.int .i64 b,.int .i64 c0] 47 (0,0))){A:Array Value}(hA:Slots 80 A [(0,.pointer (some ⟨lb,0,none⟩)),(1,sv),(7,.pointer (some ⟨ob,0,none⟩)),(8,.pointer (some ⟨rb,0,none⟩)),(9,ov),(13,.int .i64 (n:Nat)),(14,.int .i64 (n:Nat))]){cs:List Frame}{main:Bool}{Stop:Goroutine→World→Prop}
 (h:∀A,Slots 80 A [(8,.pointer (some ⟨rb,0,none⟩)),(11,.pointer (some ⟨w.heap.size,0,none⟩))]→Own Try.prog main F Stop (G (Frame.enter Try.prog 28 #[.pointer (some ⟨lb,0,none⟩),sv] .normal) (((Go.Conc.base 48).at ⟨A,[]⟩ [.inRegion (oC sdor16) [2,3,4,5,6],.inBlock 2,.code sdos17])::cs)) (w.alloc (.cells #[.bool false,.int .i64 0,.slice none 0 0] 44))):
 Own Try.prog main F Stop (G ((Go.Conc.base 48).at ⟨A,[]⟩ [.code sdos5,.inLoop sdos5,.inBlock 0,.code sdos9]) cs) w:=by
 obtain⟨hsz,h0,h1,h7,h8,h9,h13,h14,_⟩:=hA
 obtain⟨s,rfl⟩:=sdoT_of hsz
 change s 0=_ at h0
 change s 1=_ at h1
 change s 7=_ at h7
 change s 8=_ at h8
 change s 9=_ at h9
 change s 13=_ at h13
 change s 14=_ at h14
 clear hsz
 simp only[sdoT,h0,h1,h7,h8,h9,h13,h14]
 clear h0 h1 h7 h8 h9 h13 h14
 have hlt:decide ((n:Int)<(n:Int))=false:=by simp
 have hlt2:decide (n<n)=false:=by simp
 have cb0:w.cell? ⟨ob,0,none⟩=some (.int .i64 4):=by simp[World.cell?,hob]
 have cb1:w.cell? ⟨ob,1,none⟩=some (.int .i64 a):=by simp[World.cell?,hob]
 have cb2:w.cell? ⟨ob,2,none⟩=some (.int .i64 b):=by simp[World.cell?,hob]
 have cb3:w.cell? ⟨ob,3,none⟩=some (.int .i64 c0):=by simp[World.cell?,hob]
 have ca0:(w.alloc (.cells #[.bool false,.int .i64 0,.slice none 0 0] 44)).cell? ⟨ob,0,none⟩=some (.int .i64 4):=by rw[(cellB_alloc cb0 _).1]
 have ca1:(w.alloc (.cells #[.bool false,.int .i64 0,.slice none 0 0] 44)).cell? ⟨ob,1,none⟩=some (.int .i64 a):=by rw[(cellB_alloc cb1 _).1]
 refine ogSR sdos5' sdor3' ?_
 simp only[sdor3,sdoBody,Try.f48,zz,Nat.reduceAdd]
 (refine oW fun dd K hK=>?_;go_simp;refine qT hK ?_;clear hK K)
 refine ogE ?_
 refine ogSE sdos6' ?_
 rw[sdoc15']
 refine ogF ?_
 simp only[Bool.false_eq_true,if_false]
 refine own_go rfl (fun d=>stepG_exit rfl) ?_
 refine ogSR sdos9' sdor7' ?_
 simp only[sdor7,sdoBody,Try.f48,zz,Nat.reduceAdd]
 (refine oW fun dd K hK=>?_;go_simp;refine qA hK hU ?_;clear hK K)
 refine ogE ?_
 refine ogSE sdos10' ?_
 refine ogSR sdos11' sdor8' ?_
 simp only[sdor8,sdoBody,Try.f48,zz,Nat.reduceAdd]
 (refine oW fun dd K hK=>?_;go_simp;refine qT hK ?_;clear hK K)
 (refine oW fun dd K hK=>?_;go_simp;refine qL hK ?_;clear hK K)
 refine ogE ?_
 rw[sdob2']
 refine ogB ?_
 refine ogSR sdos12' sdor9' ?_
 simp only[sdor9,sdoBody,Try.f48,zz,Nat.reduceAdd]
 iterate 2 (refine oW fun dd K hK=>?_;go_simp;refine qT hK ?_;clear hK K)
 refine ogE ?_
 rw[sdoc30']
 refine ogF ?_
 simp only[Bool.false_eq_true,if_false]
 refine ogSR sdos13' sdor11' ?_
 simp only[sdor11,sdoBody,Try.f48,zz,Nat.reduceAdd]
 iterate 2 (refine oW fun dd K hK=>?_;go_simp;refine qT hK ?_;clear hK K)
 refine ogE ?_
 rw[sdoc39']
 refine ogF ?_
 simp only[Bool.false_eq_true,if_false]
 refine ogSR sdos14' sdor13' ?_
 simp only[sdor13,sdoBody,Try.f48,zz,Nat.reduceAdd]
 iterate 2 (refine oW fun dd K hK=>?_;go_simp;refine qT hK ?_;clear hK K)
 refine ogE ?_
 rw[sdoc48']
 refine ogF ?_
 simp only[Bool.false_eq_true,if_false]
 refine ogSR sdos15' sdor15' ?_
 simp only[sdor15,sdoBody,Try.f48,zz,Nat.reduceAdd]
 iterate 2 (refine oW fun dd K hK=>?_;go_simp;refine qT hK ?_;clear hK K)
 refine ogE ?_
 rw[sdoc60']
 refine ogT ?_
 simp only[if_true]
 rw[sdor16']
 refine ogR ?_
 simp only[sdor16,sdoBody,Try.f48,zz,Nat.reduceAdd]
 iterate 2 (refine oW fun dd K hK=>?_;go_simp;refine qT hK ?_;clear hK K)
 refine oc callable28 #[.pointer (some ⟨lb,0,none⟩),sv] ?_
 refine h _ ?_
 exact⟨rfl,rfl,rfl,trivial⟩
theorem do_x5{sv ov:Value}{lb ob rb n:Nat}{a b c0:Int}{nn:Nat}(hU:Under F nn)(hn:nn≤w.heap.size)(hob:w.heap[ob]? =some (.cells #[.int .i64 5,.int .i64 a,.int .i64 b,.int .i64 c0] 47 (0,0))){A:Array Value}(hA:Slots 80 A [(0,.pointer (some ⟨lb,0,none⟩)),(1,sv),(7,.pointer (some ⟨ob,0,none⟩)),(8,.pointer (some ⟨rb,0,none⟩)),(9,ov),(13,.int .i64 (n:Nat)),(14,.int .i64 (n:Nat))]){cs:List Frame}{main:Bool}{Stop:Goroutine→World→Prop}
 (h:∀A,Slots 80 A [(8,.pointer (some ⟨rb,0,none⟩)),(11,.pointer (some ⟨w.heap.size,0,none⟩))]→Own Try.prog main F Stop (G (Frame.enter Try.prog 27 #[.pointer (some ⟨lb,0,none⟩),sv,.int .i64 a] .normal) (((Go.Conc.base 48).at ⟨A,[]⟩ [.inRegion (oC sdor18) [4,5,6,7,8,9,10,11],.inBlock 2,.code sdos17])::cs)) (w.alloc (.cells #[.bool false,.int .i64 0,.slice none 0 0] 44))):
 Own Try.prog main F Stop (G ((Go.Conc.base 48).at ⟨A,[]⟩ [.code sdos5,.inLoop sdos5,.inBlock 0,.code sdos9]) cs) w:=by
 obtain⟨hsz,h0,h1,h7,h8,h9,h13,h14,_⟩:=hA
 obtain⟨s,rfl⟩:=sdoT_of hsz
 change s 0=_ at h0
 change s 1=_ at h1
 change s 7=_ at h7
 change s 8=_ at h8
 change s 9=_ at h9
 change s 13=_ at h13
 change s 14=_ at h14
 clear hsz
 simp only[sdoT,h0,h1,h7,h8,h9,h13,h14]
 clear h0 h1 h7 h8 h9 h13 h14
 have hlt:decide ((n:Int)<(n:Int))=false:=by simp
 have hlt2:decide (n<n)=false:=by simp
 have cb0:w.cell? ⟨ob,0,none⟩=some (.int .i64 5):=by simp[World.cell?,hob]
 have cb1:w.cell? ⟨ob,1,none⟩=some (.int .i64 a):=by simp[World.cell?,hob]
 have cb2:w.cell? ⟨ob,2,none⟩=some (.int .i64 b):=by simp[World.cell?,hob]
 have cb3:w.cell? ⟨ob,3,none⟩=some (.int .i64 c0):=by simp[World.cell?,hob]
 have ca0:(w.alloc (.cells #[.bool false,.int .i64 0,.slice none 0 0] 44)).cell? ⟨ob,0,none⟩=some (.int .i64 5):=by rw[(cellB_alloc cb0 _).1]
 have ca1:(w.alloc (.cells #[.bool false,.int .i64 0,.slice none 0 0] 44)).cell? ⟨ob,1,none⟩=some (.int .i64 a):=by rw[(cellB_alloc cb1 _).1]
 refine ogSR sdos5' sdor3' ?_
 simp only[sdor3,sdoBody,Try.f48,zz,Nat.reduceAdd]
 (refine oW fun dd K hK=>?_;go_simp;refine qT hK ?_;clear hK K)
 refine ogE ?_
 refine ogSE sdos6' ?_
 rw[sdoc15']
 refine ogF ?_
 simp only[Bool.false_eq_true,if_false]
 refine own_go rfl (fun d=>stepG_exit rfl) ?_
 refine ogSR sdos9' sdor7' ?_
 simp only[sdor7,sdoBody,Try.f48,zz,Nat.reduceAdd]
 (refine oW fun dd K hK=>?_;go_simp;refine qA hK hU ?_;clear hK K)
 refine ogE ?_
 refine ogSE sdos10' ?_
 refine ogSR sdos11' sdor8' ?_
 simp only[sdor8,sdoBody,Try.f48,zz,Nat.reduceAdd]
 (refine oW fun dd K hK=>?_;go_simp;refine qT hK ?_;clear hK K)
 (refine oW fun dd K hK=>?_;go_simp;refine qL hK ?_;clear hK K)
 refine ogE ?_
 rw[sdob2']
 refine ogB ?_
 refine ogSR sdos12' sdor9' ?_
 simp only[sdor9,sdoBody,Try.f48,zz,Nat.reduceAdd]
 iterate 2 (refine oW fun dd K hK=>?_;go_simp;refine qT hK ?_;clear hK K)
 refine ogE ?_
 rw[sdoc30']
 refine ogF ?_
 simp only[Bool.false_eq_true,if_false]
 refine ogSR sdos13' sdor11' ?_
 simp only[sdor11,sdoBody,Try.f48,zz,Nat.reduceAdd]
 iterate 2 (refine oW fun dd K hK=>?_;go_simp;refine qT hK ?_;clear hK K)
 refine ogE ?_
 rw[sdoc39']
 refine ogF ?_
 simp only[Bool.false_eq_true,if_false]
 refine ogSR sdos14' sdor13' ?_
 simp only[sdor13,sdoBody,Try.f48,zz,Nat.reduceAdd]
 iterate 2 (refine oW fun dd K hK=>?_;go_simp;refine qT hK ?_;clear hK K)
 refine ogE ?_
 rw[sdoc48']
 refine ogF ?_
 simp only[Bool.false_eq_true,if_false]
 refine ogSR sdos15' sdor15' ?_
 simp only[sdor15,sdoBody,Try.f48,zz,Nat.reduceAdd]
 iterate 2 (refine oW fun dd K hK=>?_;go_simp;refine qT hK ?_;clear hK K)
 refine ogE ?_
 rw[sdoc60']
 refine ogF ?_
 simp only[Bool.false_eq_true,if_false]
 refine ogSR sdos16' sdor17' ?_
 simp only[sdor17,sdoBody,Try.f48,zz,Nat.reduceAdd]
 iterate 2 (refine oW fun dd K hK=>?_;go_simp;refine qT hK ?_;clear hK K)
 refine ogE ?_
 rw[sdoc67']
 refine ogT ?_
 simp only[if_true]
 rw[sdor18']
 refine ogR ?_
 simp only[sdor18,sdoBody,Try.f48,zz,Nat.reduceAdd]
 iterate 3 (refine oW fun dd K hK=>?_;go_simp;refine qT hK ?_;clear hK K)
 (refine oW fun dd K hK=>?_;go_simp;refine qL hK ?_;clear hK K)
 refine oc callable27 #[.pointer (some ⟨lb,0,none⟩),sv,.int .i64 a] ?_
 refine h _ ?_
 exact⟨rfl,rfl,rfl,trivial⟩
theorem do_b1{ab rb:Nat}(ha:AnsN w ab)(hb:Ans w rb)(hne:ab≠rb)(hnh:∀k,¬held F ⟨ab,k,none⟩)(hnh2:∀k,¬held F ⟨rb,k,none⟩){ok:Bool}{A:Array Value}(hA:Slots 80 A [(8,.pointer (some ⟨rb,0,none⟩)),(11,.pointer (some ⟨ab,0,none⟩))]){c:Frame}{cs:List Frame}{main:Bool}{Stop:Goroutine→World→Prop}
 (h:∀w',AnsW w w' ab rb→Own Try.prog main F Stop (G (c.finish (.agg #[.bool ok,.int .i64 0,.slice none 0 0])) cs) w'):
 Own Try.prog main F Stop (G (((Go.Conc.base 48).at ⟨A,[]⟩ [.inRegion (oC sdor10) [5,6,7],.inBlock 2,.code sdos17]).finish (.bool ok)) (c::cs)) w:=by
 obtain⟨hsz,h8,h11,_⟩:=hA
 obtain⟨s,rfl⟩:=sdoT_of hsz
 change s 8=_ at h8
 change s 11=_ at h11
 clear hsz
 simp only[sdoT,h8,h11]
 clear h8 h11
 obtain⟨c0,c1,c2⟩:=ha.c
 have z0:=ha.z 0
 have z1:=ha.z 1
 have z2:=ha.z 2
 obtain⟨x0,x1,x2,d0,d1,d2⟩:=hb.c
 have y0:=hb.z 0
 have y1:=hb.z 1
 have y2:=hb.z 2
 have hne2:=Ne.symm hne
 rw[Frame.finish_at]
 simp only[sdor10,sdoBody,Try.f48,zz,Nat.reduceAdd]
 walk_nrm
 (refine oW fun dd K hK=>?_;go_simp;refine qT hK ?_;clear hK K)
 (refine oW fun dd K hK=>?_;go_simp;refine hK _ _ ⟨⟨⟨0,grew_setCell rfl (hnh 0) _⟩,fun e he=>by(have hm:=mem_listed he;clear he hK;simp[go_sem,storedEv,c0,c1,c2,z0,z1,z2,d0,d1,d2,y0,y1,y2,hne,hne2]at hm;subst hm;exact evT_write _ _ (hnh 0))⟩,?_⟩;clear hK K;simp only[setCell_at'];refine Own.at ?_ dd)
 refine ogE ?_
 refine ogI ?_
 refine ogSR sdos17' sdor19' ?_
 simp only[sdor19,sdoBody,Try.f48,zz,Nat.reduceAdd]
 (refine oW fun dd K hK=>?_;go_simp;refine hK _ _ ⟨⟨⟨0,Grew.refl _ _⟩,fun e he=>by(have hm:=mem_listed he;clear he hK;simp[go_sem,c0,c1,c2,z0,z1,z2,d0,d1,d2,y0,y1,y2,hne,hne2]at hm;rcases hm with rfl|rfl|rfl<;>exact evT_read _ _)⟩,Own.at ?_ dd⟩;clear hK K)
 (refine oW fun dd K hK=>?_;go_simp;refine hK _ _ ⟨⟨⟨0,grew3 hnh2 _ _ _⟩,fun e he=>by(have hm:=mem_listed he;clear he hK;simp[go_sem,storedEv,c0,c1,c2,z0,z1,z2,d0,d1,d2,y0,y1,y2,hne,hne2]at hm;rcases hm with rfl|rfl|rfl<;>exact evT_write _ _ (hnh2 _))⟩,?_⟩;clear hK K;simp only[setCell_at'];refine Own.at ?_ dd)
 refine ogE ?_
 refine ogX ?_
 refine own_leave (fn:=Try.f48) (v:=.agg #[.bool ok,.int .i64 0,.slice none 0 0]) rfl rfl Try.func48 (fun d=>by simp[results,Try.f48,go_sem,c0,c1,c2,z0,z1,z2,d0,d1,d2,y0,y1,y2,hne,hne2]) (fun d e he=>by(simp[results,Try.f48,go_sem,c0,c1,c2,z0,z1,z2,d0,d1,d2,y0,y1,y2,hne,hne2]at he;rcases he with rfl|rfl|rfl<;>exact evT_read _ _)) ?_
 exact h _ ⟨by simp,fun r h1 h2=>by simp[old_set h1,old_set h2]⟩
theorem do_b2{ab rb:Nat}(ha:AnsN w ab)(hb:Ans w rb)(hne:ab≠rb)(hnh:∀k,¬held F ⟨ab,k,none⟩)(hnh2:∀k,¬held F ⟨rb,k,none⟩){ok:Bool}{A:Array Value}(hA:Slots 80 A [(8,.pointer (some ⟨rb,0,none⟩)),(11,.pointer (some ⟨ab,0,none⟩))]){c:Frame}{cs:List Frame}{main:Bool}{Stop:Goroutine→World→Prop}
 (h:∀w',AnsW w w' ab rb→Own Try.prog main F Stop (G (c.finish (.agg #[.bool ok,.int .i64 0,.slice none 0 0])) cs) w'):
 Own Try.prog main F Stop (G (((Go.Conc.base 48).at ⟨A,[]⟩ [.inRegion (oC sdor12) [5,6,7],.inBlock 2,.code sdos17]).finish (.bool ok)) (c::cs)) w:=by
 obtain⟨hsz,h8,h11,_⟩:=hA
 obtain⟨s,rfl⟩:=sdoT_of hsz
 change s 8=_ at h8
 change s 11=_ at h11
 clear hsz
 simp only[sdoT,h8,h11]
 clear h8 h11
 obtain⟨c0,c1,c2⟩:=ha.c
 have z0:=ha.z 0
 have z1:=ha.z 1
 have z2:=ha.z 2
 obtain⟨x0,x1,x2,d0,d1,d2⟩:=hb.c
 have y0:=hb.z 0
 have y1:=hb.z 1
 have y2:=hb.z 2
 have hne2:=Ne.symm hne
 rw[Frame.finish_at]
 simp only[sdor12,sdoBody,Try.f48,zz,Nat.reduceAdd]
 walk_nrm
 (refine oW fun dd K hK=>?_;go_simp;refine qT hK ?_;clear hK K)
 (refine oW fun dd K hK=>?_;go_simp;refine hK _ _ ⟨⟨⟨0,grew_setCell rfl (hnh 0) _⟩,fun e he=>by(have hm:=mem_listed he;clear he hK;simp[go_sem,storedEv,c0,c1,c2,z0,z1,z2,d0,d1,d2,y0,y1,y2,hne,hne2]at hm;subst hm;exact evT_write _ _ (hnh 0))⟩,?_⟩;clear hK K;simp only[setCell_at'];refine Own.at ?_ dd)
 refine ogE ?_
 refine ogI ?_
 refine ogSR sdos17' sdor19' ?_
 simp only[sdor19,sdoBody,Try.f48,zz,Nat.reduceAdd]
 (refine oW fun dd K hK=>?_;go_simp;refine hK _ _ ⟨⟨⟨0,Grew.refl _ _⟩,fun e he=>by(have hm:=mem_listed he;clear he hK;simp[go_sem,c0,c1,c2,z0,z1,z2,d0,d1,d2,y0,y1,y2,hne,hne2]at hm;rcases hm with rfl|rfl|rfl<;>exact evT_read _ _)⟩,Own.at ?_ dd⟩;clear hK K)
 (refine oW fun dd K hK=>?_;go_simp;refine hK _ _ ⟨⟨⟨0,grew3 hnh2 _ _ _⟩,fun e he=>by(have hm:=mem_listed he;clear he hK;simp[go_sem,storedEv,c0,c1,c2,z0,z1,z2,d0,d1,d2,y0,y1,y2,hne,hne2]at hm;rcases hm with rfl|rfl|rfl<;>exact evT_write _ _ (hnh2 _))⟩,?_⟩;clear hK K;simp only[setCell_at'];refine Own.at ?_ dd)
 refine ogE ?_
 refine ogX ?_
 refine own_leave (fn:=Try.f48) (v:=.agg #[.bool ok,.int .i64 0,.slice none 0 0]) rfl rfl Try.func48 (fun d=>by simp[results,Try.f48,go_sem,c0,c1,c2,z0,z1,z2,d0,d1,d2,y0,y1,y2,hne,hne2]) (fun d e he=>by(simp[results,Try.f48,go_sem,c0,c1,c2,z0,z1,z2,d0,d1,d2,y0,y1,y2,hne,hne2]at he;rcases he with rfl|rfl|rfl<;>exact evT_read _ _)) ?_
 exact h _ ⟨by simp,fun r h1 h2=>by simp[old_set h1,old_set h2]⟩
theorem do_b3{ab rb:Nat}(ha:AnsN w ab)(hb:Ans w rb)(hne:ab≠rb)(hnh:∀k,¬held F ⟨ab,k,none⟩)(hnh2:∀k,¬held F ⟨rb,k,none⟩){ok:Bool}{la:Option Addr}{ll lc:Nat}{A:Array Value}(hA:Slots 80 A [(8,.pointer (some ⟨rb,0,none⟩)),(11,.pointer (some ⟨ab,0,none⟩))]){c:Frame}{cs:List Frame}{main:Bool}{Stop:Goroutine→World→Prop}
 (h:∀w',AnsW w w' ab rb→Own Try.prog main F Stop (G (c.finish (.agg #[.bool ok,.int .i64 0,.slice la ll lc])) cs) w'):
 Own Try.prog main F Stop (G (((Go.Conc.base 48).at ⟨A,[]⟩ [.inRegion (oC sdor14) [4,5,6,7,8,9,10,11],.inBlock 2,.code sdos17]).finish (.tuple #[.slice la ll lc,.bool ok])) (c::cs)) w:=by
 obtain⟨hsz,h8,h11,_⟩:=hA
 obtain⟨s,rfl⟩:=sdoT_of hsz
 change s 8=_ at h8
 change s 11=_ at h11
 clear hsz
 simp only[sdoT,h8,h11]
 clear h8 h11
 obtain⟨c0,c1,c2⟩:=ha.c
 have z0:=ha.z 0
 have z1:=ha.z 1
 have z2:=ha.z 2
 obtain⟨x0,x1,x2,d0,d1,d2⟩:=hb.c
 have y0:=hb.z 0
 have y1:=hb.z 1
 have y2:=hb.z 2
 have hne2:=Ne.symm hne
 rw[Frame.finish_at]
 simp only[sdor14,sdoBody,Try.f48,zz,Nat.reduceAdd]
 walk_nrm
 iterate 4 (refine oW fun dd K hK=>?_;go_simp;refine qT hK ?_;clear hK K)
 (refine oW fun dd K hK=>?_;go_simp;refine hK _ _ ⟨⟨⟨0,grew_setCell rfl (hnh 2) _⟩,fun e he=>by(have hm:=mem_listed he;clear he hK;simp[go_sem,storedEv,c0,c1,c2,z0,z1,z2,d0,d1,d2,y0,y1,y2,hne,hne2]at hm;subst hm;exact evT_write _ _ (hnh 2))⟩,?_⟩;clear hK K;simp only[setCell_at'];refine Own.at ?_ dd)
 (refine oW fun dd K hK=>?_;go_simp;refine qT hK ?_;clear hK K)
 (refine oW fun dd K hK=>?_;go_simp;refine hK _ _ ⟨⟨⟨0,grew_setCell rfl (hnh 0) _⟩,fun e he=>by(have hm:=mem_listed he;clear he hK;simp[go_sem,storedEv,c0,c1,c2,z0,z1,z2,d0,d1,d2,y0,y1,y2,hne,hne2]at hm;subst hm;exact evT_write _ _ (hnh 0))⟩,?_⟩;clear hK K;simp only[setCell_at'];refine Own.at ?_ dd)
 refine ogE ?_
 refine ogI ?_
 refine ogSR sdos17' sdor19' ?_
 simp only[sdor19,sdoBody,Try.f48,zz,Nat.reduceAdd]
 (refine oW fun dd K hK=>?_;go_simp;refine hK _ _ ⟨⟨⟨0,Grew.refl _ _⟩,fun e he=>by(have hm:=mem_listed he;clear he hK;simp[go_sem,c0,c1,c2,z0,z1,z2,d0,d1,d2,y0,y1,y2,hne,hne2]at hm;rcases hm with rfl|rfl|rfl<;>exact evT_read _ _)⟩,Own.at ?_ dd⟩;clear hK K)
 (refine oW fun dd K hK=>?_;go_simp;refine hK _ _ ⟨⟨⟨0,grew3 hnh2 _ _ _⟩,fun e he=>by(have hm:=mem_listed he;clear he hK;simp[go_sem,storedEv,c0,c1,c2,z0,z1,z2,d0,d1,d2,y0,y1,y2,hne,hne2]at hm;rcases hm with rfl|rfl|rfl<;>exact evT_write _ _ (hnh2 _))⟩,?_⟩;clear hK K;simp only[setCell_at'];refine Own.at ?_ dd)
 refine ogE ?_
 refine ogX ?_
 refine own_leave (fn:=Try.f48) (v:=.agg #[.bool ok,.int .i64 0,.slice la ll lc]) rfl rfl Try.func48 (fun d=>by simp[results,Try.f48,go_sem,c0,c1,c2,z0,z1,z2,d0,d1,d2,y0,y1,y2,hne,hne2]) (fun d e he=>by(simp[results,Try.f48,go_sem,c0,c1,c2,z0,z1,z2,d0,d1,d2,y0,y1,y2,hne,hne2]at he;rcases he with rfl|rfl|rfl<;>exact evT_read _ _)) ?_
 exact h _ ⟨by simp,fun r h1 h2=>by simp[old_set h1,old_set h2]⟩
theorem do_b4{ab rb:Nat}(ha:AnsN w ab)(hb:Ans w rb)(hne:ab≠rb)(hnh:∀k,¬held F ⟨ab,k,none⟩)(hnh2:∀k,¬held F ⟨rb,k,none⟩){la:Option Addr}{ll lc:Nat}{A:Array Value}(hA:Slots 80 A [(8,.pointer (some ⟨rb,0,none⟩)),(11,.pointer (some ⟨ab,0,none⟩))]){c:Frame}{cs:List Frame}{main:Bool}{Stop:Goroutine→World→Prop}
 (h:∀w',AnsW w w' ab rb→Own Try.prog main F Stop (G (c.finish (.agg #[.bool true,.int .i64 0,.slice la ll lc])) cs) w'):
 Own Try.prog main F Stop (G (((Go.Conc.base 48).at ⟨A,[]⟩ [.inRegion (oC sdor16) [2,3,4,5,6],.inBlock 2,.code sdos17]).finish (.slice la ll lc)) (c::cs)) w:=by
 obtain⟨hsz,h8,h11,_⟩:=hA
 obtain⟨s,rfl⟩:=sdoT_of hsz
 change s 8=_ at h8
 change s 11=_ at h11
 clear hsz
 simp only[sdoT,h8,h11]
 clear h8 h11
 obtain⟨c0,c1,c2⟩:=ha.c
 have z0:=ha.z 0
 have z1:=ha.z 1
 have z2:=ha.z 2
 obtain⟨x0,x1,x2,d0,d1,d2⟩:=hb.c
 have y0:=hb.z 0
 have y1:=hb.z 1
 have y2:=hb.z 2
 have hne2:=Ne.symm hne
 rw[Frame.finish_at]
 simp only[sdor16,sdoBody,Try.f48,zz,Nat.reduceAdd]
 walk_nrm
 (refine oW fun dd K hK=>?_;go_simp;refine qT hK ?_;clear hK K)
 (refine oW fun dd K hK=>?_;go_simp;refine hK _ _ ⟨⟨⟨0,grew_setCell rfl (hnh 2) _⟩,fun e he=>by(have hm:=mem_listed he;clear he hK;simp[go_sem,storedEv,c0,c1,c2,z0,z1,z2,d0,d1,d2,y0,y1,y2,hne,hne2]at hm;subst hm;exact evT_write _ _ (hnh 2))⟩,?_⟩;clear hK K;simp only[setCell_at'];refine Own.at ?_ dd)
 (refine oW fun dd K hK=>?_;go_simp;refine qT hK ?_;clear hK K)
 (refine oW fun dd K hK=>?_;go_simp;refine hK _ _ ⟨⟨⟨0,grew_setCell rfl (hnh 0) _⟩,fun e he=>by(have hm:=mem_listed he;clear he hK;simp[go_sem,storedEv,c0,c1,c2,z0,z1,z2,d0,d1,d2,y0,y1,y2,hne,hne2]at hm;subst hm;exact evT_write _ _ (hnh 0))⟩,?_⟩;clear hK K;simp only[setCell_at'];refine Own.at ?_ dd)
 refine ogE ?_
 refine ogI ?_
 refine ogSR sdos17' sdor19' ?_
 simp only[sdor19,sdoBody,Try.f48,zz,Nat.reduceAdd]
 (refine oW fun dd K hK=>?_;go_simp;refine hK _ _ ⟨⟨⟨0,Grew.refl _ _⟩,fun e he=>by(have hm:=mem_listed he;clear he hK;simp[go_sem,c0,c1,c2,z0,z1,z2,d0,d1,d2,y0,y1,y2,hne,hne2]at hm;rcases hm with rfl|rfl|rfl<;>exact evT_read _ _)⟩,Own.at ?_ dd⟩;clear hK K)
 (refine oW fun dd K hK=>?_;go_simp;refine hK _ _ ⟨⟨⟨0,grew3 hnh2 _ _ _⟩,fun e he=>by(have hm:=mem_listed he;clear he hK;simp[go_sem,storedEv,c0,c1,c2,z0,z1,z2,d0,d1,d2,y0,y1,y2,hne,hne2]at hm;rcases hm with rfl|rfl|rfl<;>exact evT_write _ _ (hnh2 _))⟩,?_⟩;clear hK K;simp only[setCell_at'];refine Own.at ?_ dd)
 refine ogE ?_
 refine ogX ?_
 refine own_leave (fn:=Try.f48) (v:=.agg #[.bool true,.int .i64 0,.slice la ll lc]) rfl rfl Try.func48 (fun d=>by simp[results,Try.f48,go_sem,c0,c1,c2,z0,z1,z2,d0,d1,d2,y0,y1,y2,hne,hne2]) (fun d e he=>by(simp[results,Try.f48,go_sem,c0,c1,c2,z0,z1,z2,d0,d1,d2,y0,y1,y2,hne,hne2]at he;rcases he with rfl|rfl|rfl<;>exact evT_read _ _)) ?_
 exact h _ ⟨by simp,fun r h1 h2=>by simp[old_set h1,old_set h2]⟩
theorem do_b5{ab rb:Nat}(ha:AnsN w ab)(hb:Ans w rb)(hne:ab≠rb)(hnh:∀k,¬held F ⟨ab,k,none⟩)(hnh2:∀k,¬held F ⟨rb,k,none⟩){ok:Bool}{v:Int}{A:Array Value}(hA:Slots 80 A [(8,.pointer (some ⟨rb,0,none⟩)),(11,.pointer (some ⟨ab,0,none⟩))]){c:Frame}{cs:List Frame}{main:Bool}{Stop:Goroutine→World→Prop}
 (h:∀w',AnsW w w' ab rb→Own Try.prog main F Stop (G (c.finish (.agg #[.bool ok,.int .i64 v,.slice none 0 0])) cs) w'):
 Own Try.prog main F Stop (G (((Go.Conc.base 48).at ⟨A,[]⟩ [.inRegion (oC sdor18) [4,5,6,7,8,9,10,11],.inBlock 2,.code sdos17]).finish (.tuple #[.int .i64 v,.bool ok])) (c::cs)) w:=by
 obtain⟨hsz,h8,h11,_⟩:=hA
 obtain⟨s,rfl⟩:=sdoT_of hsz
 change s 8=_ at h8
 change s 11=_ at h11
 clear hsz
 simp only[sdoT,h8,h11]
 clear h8 h11
 obtain⟨c0,c1,c2⟩:=ha.c
 have z0:=ha.z 0
 have z1:=ha.z 1
 have z2:=ha.z 2
 obtain⟨x0,x1,x2,d0,d1,d2⟩:=hb.c
 have y0:=hb.z 0
 have y1:=hb.z 1
 have y2:=hb.z 2
 have hne2:=Ne.symm hne
 rw[Frame.finish_at]
 simp only[sdor18,sdoBody,Try.f48,zz,Nat.reduceAdd]
 walk_nrm
 iterate 4 (refine oW fun dd K hK=>?_;go_simp;refine qT hK ?_;clear hK K)
 (refine oW fun dd K hK=>?_;go_simp;refine hK _ _ ⟨⟨⟨0,grew_setCell rfl (hnh 1) _⟩,fun e he=>by(have hm:=mem_listed he;clear he hK;simp[go_sem,storedEv,c0,c1,c2,z0,z1,z2,d0,d1,d2,y0,y1,y2,hne,hne2]at hm;subst hm;exact evT_write _ _ (hnh 1))⟩,?_⟩;clear hK K;simp only[setCell_at'];refine Own.at ?_ dd)
 (refine oW fun dd K hK=>?_;go_simp;refine qT hK ?_;clear hK K)
 (refine oW fun dd K hK=>?_;go_simp;refine hK _ _ ⟨⟨⟨0,grew_setCell rfl (hnh 0) _⟩,fun e he=>by(have hm:=mem_listed he;clear he hK;simp[go_sem,storedEv,c0,c1,c2,z0,z1,z2,d0,d1,d2,y0,y1,y2,hne,hne2]at hm;subst hm;exact evT_write _ _ (hnh 0))⟩,?_⟩;clear hK K;simp only[setCell_at'];refine Own.at ?_ dd)
 refine ogE ?_
 refine ogI ?_
 refine ogSR sdos17' sdor19' ?_
 simp only[sdor19,sdoBody,Try.f48,zz,Nat.reduceAdd]
 (refine oW fun dd K hK=>?_;go_simp;refine hK _ _ ⟨⟨⟨0,Grew.refl _ _⟩,fun e he=>by(have hm:=mem_listed he;clear he hK;simp[go_sem,c0,c1,c2,z0,z1,z2,d0,d1,d2,y0,y1,y2,hne,hne2]at hm;rcases hm with rfl|rfl|rfl<;>exact evT_read _ _)⟩,Own.at ?_ dd⟩;clear hK K)
 (refine oW fun dd K hK=>?_;go_simp;refine hK _ _ ⟨⟨⟨0,grew3 hnh2 _ _ _⟩,fun e he=>by(have hm:=mem_listed he;clear he hK;simp[go_sem,storedEv,c0,c1,c2,z0,z1,z2,d0,d1,d2,y0,y1,y2,hne,hne2]at hm;rcases hm with rfl|rfl|rfl<;>exact evT_write _ _ (hnh2 _))⟩,?_⟩;clear hK K;simp only[setCell_at'];refine Own.at ?_ dd)
 refine ogE ?_
 refine ogX ?_
 refine own_leave (fn:=Try.f48) (v:=.agg #[.bool ok,.int .i64 v,.slice none 0 0]) rfl rfl Try.func48 (fun d=>by simp[results,Try.f48,go_sem,c0,c1,c2,z0,z1,z2,d0,d1,d2,y0,y1,y2,hne,hne2]) (fun d e he=>by(simp[results,Try.f48,go_sem,c0,c1,c2,z0,z1,z2,d0,d1,d2,y0,y1,y2,hne,hne2]at he;rcases he with rfl|rfl|rfl<;>exact evT_read _ _)) ?_
 exact h _ ⟨by simp,fun r h1 h2=>by simp[old_set h1,old_set h2]⟩
theorem do_x0{sv ov:Value}{lb ob rb n:Nat}{kd a b c0:Int}{nn:Nat}(hU:Under F nn)(hn:nn≤w.heap.size)(k1:(kd == 1)=false)(k2:(kd == 2)=false)(k3:(kd == 3)=false)(k4:(kd == 4)=false)(k5:(kd == 5)=false)(hob:w.heap[ob]? =some (.cells #[.int .i64 kd,.int .i64 a,.int .i64 b,.int .i64 c0] 47 (0,0)))(hb:Ans w rb)(hnh2:∀k,¬held F ⟨rb,k,none⟩){A:Array Value}(hA:Slots 80 A [(0,.pointer (some ⟨lb,0,none⟩)),(1,sv),(7,.pointer (some ⟨ob,0,none⟩)),(8,.pointer (some ⟨rb,0,none⟩)),(9,ov),(13,.int .i64 (n:Nat)),(14,.int .i64 (n:Nat))]){c:Frame}{cs:List Frame}{main:Bool}{Stop:Goroutine→World→Prop}
 (h:∀w',w'.heap.size=w.heap.size+1→(∀r,r<w.heap.size→r≠rb→w'.heap[r]? =w.heap[r]?)→Own Try.prog main F Stop (G (c.finish (.agg #[.bool false,.int .i64 0,.slice none 0 0])) cs) w'):
 Own Try.prog main F Stop (G ((Go.Conc.base 48).at ⟨A,[]⟩ [.code sdos5,.inLoop sdos5,.inBlock 0,.code sdos9]) (c::cs)) w:=by
 obtain⟨hsz,h0,h1,h7,h8,h9,h13,h14,_⟩:=hA
 obtain⟨s,rfl⟩:=sdoT_of hsz
 change s 0=_ at h0
 change s 1=_ at h1
 change s 7=_ at h7
 change s 8=_ at h8
 change s 9=_ at h9
 change s 13=_ at h13
 change s 14=_ at h14
 clear hsz
 simp only[sdoT,h0,h1,h7,h8,h9,h13,h14]
 clear h0 h1 h7 h8 h9 h13 h14
 have hlt:decide ((n:Int)<(n:Int))=false:=by simp
 have hlt2:decide (n<n)=false:=by simp
 have cb0:w.cell? ⟨ob,0,none⟩=some (.int .i64 kd):=by simp[World.cell?,hob]
 have cb1:w.cell? ⟨ob,1,none⟩=some (.int .i64 a):=by simp[World.cell?,hob]
 have cb2:w.cell? ⟨ob,2,none⟩=some (.int .i64 b):=by simp[World.cell?,hob]
 have cb3:w.cell? ⟨ob,3,none⟩=some (.int .i64 c0):=by simp[World.cell?,hob]
 have ca0:(w.alloc (.cells #[.bool false,.int .i64 0,.slice none 0 0] 44)).cell? ⟨ob,0,none⟩=some (.int .i64 kd):=by rw[(cellB_alloc cb0 _).1]
 have ca1:(w.alloc (.cells #[.bool false,.int .i64 0,.slice none 0 0] 44)).cell? ⟨ob,1,none⟩=some (.int .i64 a):=by rw[(cellB_alloc cb1 _).1]
 have hb2:Ans (w.alloc (.cells #[.bool false,.int .i64 0,.slice none 0 0] 44)) rb:=by
  obtain⟨x,y,z,h1⟩:=hb.o
  exact⟨⟨x,y,z,old_alloc h1 _⟩⟩
 obtain⟨x0,x1,x2,d0,d1,d2⟩:=hb2.c
 have y0:=hb2.z 0
 have y1:=hb2.z 1
 have y2:=hb2.z 2
 refine ogSR sdos5' sdor3' ?_
 simp only[sdor3,sdoBody,Try.f48,zz,Nat.reduceAdd]
 (refine oW fun dd K hK=>?_;go_simp;refine qT hK ?_;clear hK K)
 refine ogE ?_
 refine ogSE sdos6' ?_
 rw[sdoc15']
 refine ogF ?_
 simp only[Bool.false_eq_true,if_false]
 refine own_go rfl (fun d=>stepG_exit rfl) ?_
 refine ogSR sdos9' sdor7' ?_
 simp only[sdor7,sdoBody,Try.f48,zz,Nat.reduceAdd]
 (refine oW fun dd K hK=>?_;go_simp;refine qA hK hU ?_;clear hK K)
 refine ogE ?_
 refine ogSE sdos10' ?_
 refine ogSR sdos11' sdor8' ?_
 simp only[sdor8,sdoBody,Try.f48,zz,Nat.reduceAdd]
 (refine oW fun dd K hK=>?_;go_simp;refine qT hK ?_;clear hK K)
 (refine oW fun dd K hK=>?_;go_simp;refine qL hK ?_;clear hK K)
 refine ogE ?_
 rw[sdob2']
 refine ogB ?_
 refine ogSR sdos12' sdor9' ?_
 simp only[sdor9,sdoBody,Try.f48,zz,Nat.reduceAdd]
 iterate 2 (refine oW fun dd K hK=>?_;go_simp;refine qT hK ?_;clear hK K)
 refine ogE ?_
 rw[sdoc30']
 refine ogF ?_
 simp only[Bool.false_eq_true,if_false]
 refine ogSR sdos13' sdor11' ?_
 simp only[sdor11,sdoBody,Try.f48,zz,Nat.reduceAdd]
 iterate 2 (refine oW fun dd K hK=>?_;go_simp;refine qT hK ?_;clear hK K)
 refine ogE ?_
 rw[sdoc39']
 refine ogF ?_
 simp only[Bool.false_eq_true,if_false]
 refine ogSR sdos14' sdor13' ?_
 simp only[sdor13,sdoBody,Try.f48,zz,Nat.reduceAdd]
 iterate 2 (refine oW fun dd K hK=>?_;go_simp;refine qT hK ?_;clear hK K)
 refine ogE ?_
 rw[sdoc48']
 refine ogF ?_
 simp only[Bool.false_eq_true,if_false]
 refine ogSR sdos15' sdor15' ?_
 simp only[sdor15,sdoBody,Try.f48,zz,Nat.reduceAdd]
 iterate 2 (refine oW fun dd K hK=>?_;go_simp;refine qT hK ?_;clear hK K)
 refine ogE ?_
 rw[sdoc60']
 refine ogF ?_
 simp only[Bool.false_eq_true,if_false]
 refine ogSR sdos16' sdor17' ?_
 simp only[sdor17,sdoBody,Try.f48,zz,Nat.reduceAdd]
 iterate 2 (refine oW fun dd K hK=>?_;go_simp;refine qT hK ?_;clear hK K)
 refine ogE ?_
 rw[sdoc67']
 refine ogF ?_
 simp only[Bool.false_eq_true,if_false]
 refine ogK ?_
 refine ogI ?_
 refine ogSR sdos17' sdor19' ?_
 simp only[sdor19,sdoBody,Try.f48,zz,Nat.reduceAdd]
 (refine oW fun dd K hK=>?_;go_simp;refine hK _ _ ⟨⟨⟨0,Grew.refl _ _⟩,fun e he=>by(have hm:=mem_listed he;clear he hK;simp[go_sem]at hm;rcases hm with rfl|rfl|rfl<;>exact evT_read _ _)⟩,Own.at ?_ dd⟩;clear hK K)
 (refine oW fun dd K hK=>?_;go_simp;refine hK _ _ ⟨⟨⟨0,grew3 hnh2 _ _ _⟩,fun e he=>by(have hm:=mem_listed he;clear he hK;simp[go_sem,storedEv,d0,d1,d2,y0,y1,y2]at hm;rcases hm with rfl|rfl|rfl<;>exact evT_write _ _ (hnh2 _))⟩,?_⟩;clear hK K;simp only[setCell_at'];refine Own.at ?_ dd)
 refine ogE ?_
 refine ogX ?_
 refine own_leave (fn:=Try.f48) (v:=.agg #[.bool false,.int .i64 0,.slice none 0 0]) rfl rfl Try.func48 (fun d=>by simp[results,Try.f48,go_sem,d0,d1,d2,y0,y1,y2]) (fun d e he=>by(simp[results,Try.f48,go_sem,d0,d1,d2,y0,y1,y2]at he;rcases he with rfl|rfl|rfl<;>exact evT_read _ _)) ?_
 exact h _ (by simp) (fun r h1 h2=>by simp[old_set h2,heap_alloc_lt _ _ h1])
end
section
variable{F:Fz}{w w':World}
theorem not_heldB{b:Nat}(h:F b=none)(k:Nat):¬held F ⟨b,k,none⟩:=by
 rintro⟨z,hz,_⟩
 rw[h]at hz
 cases hz
theorem plain_base{f:FuncId}(h:∃fn,Try.prog.funcs[f]? =some fn)(A:Array Value)(k:List Item):Plain ((Go.Conc.base f).at ⟨A,[]⟩ k):=⟨rfl,rfl,h⟩
theorem size2(w:World)(a b:Obj):((w.alloc a).alloc b).heap.size=w.heap.size+2:=by simp
theorem old2(w:World)(a b:Obj){r:Nat}(h:r<w.heap.size):((w.alloc a).alloc b).heap[r]? =w.heap[r]?:=by
 rw[heap_alloc_lt _ _ (by simp;omega),heap_alloc_lt _ _ h]
theorem new2(w:World)(a:Obj)(c:Array Value)(t:TypeId):((w.alloc a).alloc (.cells c t)).heap[w.heap.size+1]? =some (.cells c t (0,0)):=by
 have:=heap_alloc_new (w.alloc a) (.cells c t)
 simpa using this
end
noncomputable section
variable{F:Fz}{w w':World}{lb st:Nat}
structure SS where
 k:SSt
 wb:Nat
 wo:Nat
abbrev SS.n(s:SS):Nat:=s.k.ws.length
structure SU(lb:Nat)(s:SS)(w:World):Prop where
 wf:SWf s.k
 h:SH lb s.wb s.wo s.n w
 v:At w ⟨lb,0,none⟩ (.int .i64 s.k.ver)
 ws:∀i,i<s.n→At w ⟨s.wb,s.wo+i,none⟩ (.int .i64 (s.k.ws.getD i 0))
 dis:s.wb=lb→s.wo=1∧s.n=1
def SR(lb:Nat)(s:SS)(r:Nat):Prop:=r=lb∨r=s.wb
theorem cell_low{w:World}{b k:Nat}{v:Value}(h:w.cell? ⟨b,k,none⟩=some v):b<w.heap.size:=by
 obtain⟨c,e,z,h1⟩:=cell_block h
 exact(alt h1)
theorem at_same{b k:Nat}{v:Value}(h:At w ⟨b,k,none⟩ v)(hs:w'.heap[b]? =w.heap[b]?):At w' ⟨b,k,none⟩ v:=by
 obtain⟨e1,e2⟩:=cell_heap (j:=k) hs
 exact⟨e1.trans h.c,e2.trans h.z⟩
theorem SH.same{wb wo n:Nat}(h:SH lb wb wo n w)(hs:w'.heap[lb]? =w.heap[lb]?):SH lb wb wo n w':=by
 have e:=(cell_heap (j:=2) hs).1
 exact⟨h.c2.imp (fun h=>e.trans h) fun h=>⟨e.trans h.1,h.2⟩,h.n1,h.n2⟩
theorem SH.set{wb wo n b k:Nat}{v:Value}(h:SH lb wb wo n w)(hne:b=lb→k≠2):SH lb wb wo n (w.setCell ⟨b,k,none⟩ v):=by
 have e:(w.setCell ⟨b,k,none⟩ v).cell? ⟨lb,2,none⟩=w.cell? ⟨lb,2,none⟩:=World.cell?_setCell_other _ _ _ _ (fun e=>by injection e with e1 e2;exact hne e1 e2)
 exact⟨h.c2.imp (fun h=>e.trans h) fun h=>⟨e.trans h.1,h.2⟩,h.n1,h.n2⟩
theorem At.set_ne{a b:Addr}{v u:Value}(h:At w a v)(hne:b≠a):At (w.setCell b u) a v:=⟨(World.cell?_setCell_other _ _ _ _ hne).trans h.c,(World.frozen?_setCell _ _ _ _).trans h.z⟩
theorem At.set_eq{a:Addr}{v u:Value}(h:At w a v):At (w.setCell a u) a u:=⟨World.cell?_setCell_same _ _ _ h.c,(World.frozen?_setCell _ _ _ _).trans h.z⟩
section
variable{s:SS}
theorem SU.low(h:SU lb s w){r:Nat}(hr:SR lb s r):r<w.heap.size:=by
 rcases hr with rfl|rfl
 ·exact cell_low h.v.c
 ·exact cell_low (h.ws 0 h.wf.n1).c
theorem SU.same(h:SU lb s w)(hs:∀r,SR lb s r→w'.heap[r]? =w.heap[r]?):SU lb s w':=
 ⟨h.wf,h.h.same (hs _ (.inl rfl)),at_same h.v (hs _ (.inl rfl)),fun i hi=>at_same (h.ws i hi) (hs _ (.inr rfl)),h.dis⟩
theorem SU.setV(h:SU lb s w)(v:Int):SU lb {s with k:={s.k with ver:=v}} (w.setCell ⟨lb,0,none⟩ (.int .i64 v)):=by
 refine⟨⟨h.wf.n1,h.wf.n2⟩,h.h.set (fun _=>by omega),h.v.set_eq,fun i hi=>(h.ws i hi).set_ne ?_,h.dis⟩
 intro e
 injection e with e1 e2
 have:=(h.dis e1.symm).1
 omega
theorem SU.setW(h:SU lb s w){i:Nat}(hi:i<s.n)(v:Int):SU lb {s with k:={s.k with ws:=s.k.ws.set i v}} (w.setCell ⟨s.wb,s.wo+i,none⟩ (.int .i64 v)):=by
 have hd:=h.dis
 have hn:(s.k.ws.set i v).length=s.k.ws.length:=List.length_set
 have hh:SH lb s.wb s.wo s.n (w.setCell ⟨s.wb,s.wo+i,none⟩ (.int .i64 v)):=h.h.set (fun e=>by have:=hd e;omega)
 refine⟨⟨by simpa using h.wf.n1,by simpa using h.wf.n2⟩,?_,h.v.set_ne ?_,fun j hj=>?_,fun e=>?_⟩
 ·show SH lb s.wb s.wo (s.k.ws.set i v).length _
  rw[hn]
  exact hh
 ·intro e
  injection e with e1 e2
  have:=hd e1
  omega
 ·have hj:j<s.n:=by simpa [SS.n]using hj
  show At _ ⟨s.wb,s.wo+j,none⟩ (.int .i64 ((s.k.ws.set i v).getD j 0))
  by_cases e:i=j
  ·subst e
   have:(s.k.ws.set i v).getD i 0=v:=by simp[List.getD_eq_getElem?_getD,List.getElem?_set,show i<s.k.ws.length from hi]
   rw[this]
   exact(h.ws i hj).set_eq
  ·have:(s.k.ws.set i v).getD j 0=s.k.ws.getD j 0:=by simp[List.getD_eq_getElem?_getD,List.getElem?_set,e]
   rw[this]
   exact(h.ws j hj).set_ne (fun e2=>by injection e2 with _ e3;omega)
 ·show s.wo=1∧(s.k.ws.set i v).length=1
  rw[hn]
  exact hd e
end
def fBg1(A:Array Value):Frame:=((Go.Conc.base 89).at ⟨A,[]⟩ [.inRegion (oC sbgr1) [1],.code sbgs2])
def fBg2(A:Array Value):Frame:=((Go.Conc.base 89).at ⟨A,[]⟩ [.inRegion (oC sbgr5) [1],.code sbgs7])
def fWr1(A:Array Value):Frame:=((Go.Conc.base 56).at ⟨A,[]⟩ [.inRegion (oC swrr5) [2,3,4,5,6,7],.code swrs11,.inBlock 1,.code swrr20,.inLoop swrs7,.inBlock 0,.code swrs28])
def fWr2(A:Array Value):Frame:=((Go.Conc.base 56).at ⟨A,[]⟩ [.inRegion (oC swrr14) [1],.code swrr15,.inBlock 3,.code swrr16,.inLoop swrs17,.inBlock 2,.code swrs25,.inBlock 1,.code swrr20,.inLoop swrs7,.inBlock 0,.code swrs28])
def fWr3(A:Array Value):Frame:=((Go.Conc.base 56).at ⟨A,[]⟩ [.inRegion (oC swrr17) [1],.code swrs26,.inBlock 1,.code swrr20,.inLoop swrs7,.inBlock 0,.code swrs28])
def fWW(A:Array Value):Frame:=((Go.Conc.base 24).at ⟨A,[]⟩ [.inRegion (oC sWWr1) [4,5],.code .ret])
def fAA(A:Array Value):Frame:=((Go.Conc.base 25).at ⟨A,[]⟩ [.inRegion (oC sAAr1) [4,5],.code .ret])
def fRw(A:Array Value):Frame:=((Go.Conc.base 28).at ⟨A,[]⟩ [.inRegion (oC srwr6) [1],.code srwr7,.inBlock 1,.code srwr8,.inLoop srws6,.inBlock 0,.code srws11])
def fRd1(A:Array Value):Frame:=((Go.Conc.base 26).at ⟨A,[]⟩ [.inRegion (oC srdr5) [1],.code srds11,.inBlock 1,.code srdr12,.inLoop srds7,.inBlock 0,.code srds18])
def fRd2(A:Array Value):Frame:=((Go.Conc.base 26).at ⟨A,[]⟩ [.inRegion (oC srdr8) [2,3],.code srds15,.inBlock 1,.code srdr12,.inLoop srds7,.inBlock 0,.code srds18])
def fRd3(A:Array Value):Frame:=((Go.Conc.base 26).at ⟨A,[]⟩ [.inRegion (oC srdr9) [1],.code srds16,.inBlock 1,.code srdr12,.inLoop srds7,.inBlock 0,.code srds18])
def fNw(A:Array Value):Frame:=((Go.Conc.base 27).at ⟨A,[]⟩ [.inRegion (oC snwr3) [1],.code snws5])
def fDo1(A:Array Value):Frame:=((Go.Conc.base 48).at ⟨A,[]⟩ [.inRegion (oC sdor10) [5,6,7],.inBlock 2,.code sdos17])
def fDo2(A:Array Value):Frame:=((Go.Conc.base 48).at ⟨A,[]⟩ [.inRegion (oC sdor12) [5,6,7],.inBlock 2,.code sdos17])
def fDo3(A:Array Value):Frame:=((Go.Conc.base 48).at ⟨A,[]⟩ [.inRegion (oC sdor14) [4,5,6,7,8,9,10,11],.inBlock 2,.code sdos17])
def fDo4(A:Array Value):Frame:=((Go.Conc.base 48).at ⟨A,[]⟩ [.inRegion (oC sdor16) [2,3,4,5,6],.inBlock 2,.code sdos17])
def fDo5(A:Array Value):Frame:=((Go.Conc.base 48).at ⟨A,[]⟩ [.inRegion (oC sdor18) [4,5,6,7,8,9,10,11],.inBlock 2,.code sdos17])
structure SeC where
 c:SCl
 A:Array Value
 A1:Array Value
 A2:Array Value
 A3:Array Value
 ab:Nat
 rb:Nat
 vv:Value
 ov:Value
abbrev SCl.pc(c:SCl):Nat:=c.kd*10+c.ph
def SeC.fr(c:SeC):List Frame:=match c.c.pc with
 | 10=>[fBg1 c.A,fWr1 c.A1,fWW c.A2,fDo1 c.A3]
 | 11=>[fBg2 c.A,fWr1 c.A1,fWW c.A2,fDo1 c.A3]
 | 12=>[fWr2 c.A1,fWW c.A2,fDo1 c.A3]
 | 13=>[fWr3 c.A1,fWW c.A2,fDo1 c.A3]
 | 20=>[fBg1 c.A,fWr1 c.A1,fAA c.A2,fDo2 c.A3]
 | 21=>[fBg2 c.A,fWr1 c.A1,fAA c.A2,fDo2 c.A3]
 | 22=>[fWr2 c.A1,fAA c.A2,fDo2 c.A3]
 | 23=>[fWr3 c.A1,fAA c.A2,fDo2 c.A3]
 | 30=>[fRd1 c.A1,fDo3 c.A3]
 | 31=>[fRw c.A,fRd2 c.A1,fDo3 c.A3]
 | 32=>[fRd3 c.A1,fDo3 c.A3]
 | 41=>[fRw c.A,fDo4 c.A3]
 | _=>[fNw c.A1,fDo5 c.A3]
def sptr(lb:Nat):Value:=.pointer (some ⟨lb,0,none⟩)
def oneV(kd:Nat):Value:=.func (.func (56+kd)) #[] #[]
def wrS1(lb st:Nat)(c:SeC):List (Nat×Value):=[(0,sptr lb),(1,stepperV st),(3,c.vv),(4,oneV c.c.kd),(19,.int .i64 (c.c.T:Nat)),(20,.int .i64 (c.c.r:Nat))]
def wrS2(lb st wb wo n:Nat)(c:SeC):List (Nat×Value):=[(0,sptr lb),(1,stepperV st),(3,c.vv),(4,oneV c.c.kd),(11,.int .i64 c.c.v),(13,.slice (some ⟨wb,wo,none⟩) n n),(14,.int .i64 (c.c.i:Nat)),(15,.int .i64 (c.c.vs.getD c.c.i 0)),(33,.int .i64 (n:Nat)),(34,.int .i64 (c.c.i:Nat))]
def wrS3(lb st:Nat)(c:SeC):List (Nat×Value):=[(0,sptr lb),(1,stepperV st),(11,.int .i64 c.c.v)]
def bgS0(lb st:Nat):List (Nat×Value):=[(0,sptr lb),(1,stepperV st)]
def bgS1(lb st:Nat)(c:SeC):List (Nat×Value):=[(0,sptr lb),(1,stepperV st),(6,.int .i64 c.c.v)]
def rdS0(lb st:Nat)(c:SeC):List (Nat×Value):=[(0,sptr lb),(1,stepperV st),(13,.int .i64 (c.c.T:Nat)),(14,.int .i64 (c.c.r:Nat))]
def rdS1(lb st:Nat)(c:SeC):List (Nat×Value):=[(0,sptr lb),(1,stepperV st),(8,.int .i64 c.c.v),(13,.int .i64 (c.c.T:Nat)),(14,.int .i64 (c.c.r:Nat))]
def rdS2(lb st:Nat)(c:SeC):List (Nat×Value):=[(0,sptr lb),(1,stepperV st),(8,.int .i64 c.c.v),(9,c.ov),(13,.int .i64 (c.c.T:Nat)),(14,.int .i64 (c.c.r:Nat))]
def rwS1(lb st wb wo n:Nat)(c:SeC):List (Nat×Value):=[(0,sptr lb),(1,stepperV st),(5,c.ov),(6,.slice (some ⟨wb,wo,none⟩) n n),(7,.int .i64 (c.c.i:Nat)),(11,.int .i64 (n:Nat)),(12,.int .i64 (c.c.i:Nat))]
def nwS0(lb st:Nat)(c:SeC):List (Nat×Value):=[(0,sptr lb),(1,stepperV st),(2,.int .i64 c.c.a)]
def SSl(lb st wb wo n:Nat)(c:SeC):Prop:=match c.c.pc with
 | 10=>Slots 26 c.A (bgS0 lb st)∧Slots 63 c.A1 (wrS1 lb st c)∧c.A2.size=14
 | 20=>Slots 26 c.A (bgS0 lb st)∧Slots 63 c.A1 (wrS1 lb st c)∧c.A2.size=14
 | 11=>Slots 26 c.A (bgS1 lb st c)∧Slots 63 c.A1 (wrS1 lb st c)∧c.A2.size=14
 | 21=>Slots 26 c.A (bgS1 lb st c)∧Slots 63 c.A1 (wrS1 lb st c)∧c.A2.size=14
 | 12=>Slots 63 c.A1 (wrS2 lb st wb wo n c)∧c.A2.size=14
 | 22=>Slots 63 c.A1 (wrS2 lb st wb wo n c)∧c.A2.size=14
 | 13=>Slots 63 c.A1 (wrS3 lb st c)∧c.A2.size=14
 | 23=>Slots 63 c.A1 (wrS3 lb st c)∧c.A2.size=14
 | 30=>Slots 38 c.A1 (rdS0 lb st c)
 | 31=>Slots 26 c.A (rwS1 lb st wb wo n c)∧Slots 38 c.A1 (rdS1 lb st c)
 | 32=>Slots 38 c.A1 (rdS2 lb st c)
 | 41=>Slots 26 c.A (rwS1 lb st wb wo n c)
 | 50=>Slots 21 c.A1 (nwS0 lb st c)
 | _=>False
structure SeV(n:Nat)(c:SCl):Prop where
 pc:(c.kd,c.ph)∈[(1,0),(1,1),(1,2),(1,3),(2,0),(2,1),(2,2),(2,3),(3,0),(3,1),(3,2),(4,1),(5,0)]
 T:c.T≤1024
 r:c.r<c.T
 i:c.i<n
 vs:c.kd≤2→c.vs.length=n∧c.out=[]
 out:(c.kd,c.ph)∈[(3,1),(4,1)]→c.out.length=c.i
 out2:(c.kd,c.ph)=(3,2)→c.out.length≤n
 nv:3≤c.kd→c.vs=[]
structure SJ(lb st wb wo n:Nat)(c:SeC):Prop where
 v:SeV n c.c
 s:SSl lb st wb wo n c
 a:Slots 80 c.A3 [(8,.pointer (some ⟨c.rb,0,none⟩)),(11,.pointer (some ⟨c.ab,0,none⟩))]
 nvv:3≤c.c.kd→c.vv= .slice none 0 0
structure SCU(c:SeC)(w:World):Prop where
 a:AnsN w c.ab
 r:Ans w c.rb
 ne:c.ab≠c.rb
 vv:w.ownsRow 0 2 1 c.vv c.c.vs.length (c.c.vs.map fun v=>.int .i64 v)
 ov:w.ownsRow 0 2 1 c.ov c.c.out.length (c.c.out.map fun v=>.int .i64 v)
 vn:c.vv.ownBlock≠some c.ab∧c.vv.ownBlock≠some c.rb
 on:c.ov.ownBlock≠some c.ab∧c.ov.ownBlock≠some c.rb
def SCR(c:SeC)(r:Nat):Prop:=r=c.ab∨r=c.rb∨c.vv.ownBlock=some r∨c.ov.ownBlock=some r
structure SA where
 an:SAn
 la:Option Addr
 ll:Nat
 lc:Nat
def SA.row(a:SA):Value:=.slice a.la a.ll a.lc
def SA.v(a:SA):AnsV:=⟨a.an.1,a.an.2.1,a.la,a.ll,a.lc⟩
def SAU(a:SA)(w:World):Prop:=w.ownsRow 0 2 1 a.row a.an.2.2.length (a.an.2.2.map fun v=>.int .i64 v)
def absS(y:SeC ⊕ SA):SRs:=match y with
 | .inl c=>.inl c.c
 | .inr a=>.inr a.an
def SLay(lb:Nat):Lay where
 S:=SS
 C:=SeC
 A:=SA
 SU:=SU lb
 SR:=SR lb
 CU:=SCU
 CR:=SCR
 AV:=SA.v
 AU:=SAU
 AR:=fun a r=>a.row.ownBlock=some r
 cf:=fun st c=>sstFr stK ⟨st,0,none⟩::c.fr
 df:=48
 first:= #[.pointer (some ⟨lb,0,none⟩)]
 capt:= #[]
 beg:=fun s _ o y=>y.1.wb=s.wb∧y.1.wo=s.wo∧(y.1.k,absS y.2)=s.k.begin o
 stp:=fun s c y=>y.1.wb=s.wb∧y.1.wo=s.wo∧(y.1.k,absS y.2)=s.k.step c.c
 J:=fun st s c=>SJ lb st s.wb s.wo s.n c
theorem row_slice{n:Nat}{v:Value}{xs:List Value}(h:w.ownsRow 0 2 1 v n xs):∃la ll lc,v= .slice la ll lc:=by
 rcases h.2 with⟨rfl,_⟩|⟨b,cap,cur,rfl,_⟩
 ·exact⟨_,_,_,rfl⟩
 ·exact⟨_,_,_,rfl⟩
theorem row_low{n:Nat}{v:Value}{xs:List Value}(h:w.ownsRow 0 2 1 v n xs){r:Nat}(hr:v.ownBlock=some r):r<w.heap.size:=by
 rcases h.2 with⟨rfl,_⟩|⟨b,cap,cur,rfl,_,h4,_⟩
 ·simp[Value.ownBlock]at hr
 ·simp only[Value.ownBlock,Option.some.injEq]at hr
  subst hr
  exact(alt h4)
theorem SCU.low{c:SeC}(h:SCU c w){r:Nat}(hr:SCR c r):r<w.heap.size:=by
 rcases hr with rfl|rfl|hr|hr
 ·exact(Array.getElem?_eq_some_iff.1 h.a.o).1
 ·obtain⟨_,_,_,h1⟩:=h.r.o
  exact(alt h1)
 ·exact row_low h.vv hr
 ·exact row_low h.ov hr
theorem SCU.same{c:SeC}(h:SCU c w)(hs:∀r,SCR c r→w'.heap[r]? =w.heap[r]?):SCU c w':=by
 refine⟨⟨(hs _ (.inl rfl)).trans h.a.o⟩,ans_same h.r (hs _ (.inr (.inl rfl))),h.ne,ownsRow_same2 h.vv fun b hb _=>hs b (.inr (.inr (.inl hb))),ownsRow_same2 h.ov fun b hb _=>hs b (.inr (.inr (.inr hb))),h.vn,h.on⟩
section
variable{s:SS}{c c':SeC}{k':SSt}{cs:List Frame}
theorem s_live{fs:List Frame}(hf:fs=(SLay lb).cf st c'++cs)(hU:SU lb ⟨k',s.wb,s.wo⟩ w')(hr:(k',.inl c'.c)=s.k.step c.c)(hJ:SJ lb st s.wb s.wo k'.ws.length c')(hcu:SCU c' w')(hcr:∀q,SCR c' q→SCR c q∨w.heap.size≤q)(hs:SU lb s w)(hdis:∀q,SCR c q→¬SR lb s q)(d:Nat):
 (SLay lb).Out st s (SCR c) ((SLay lb).stp s c) w cs (G (Frame.enter Try.prog 133 #[.pointer (some ⟨st,0,none⟩)] .normal) fs) (w'.at d):=by
 subst hf
 refine⟨⟨k',s.wb,s.wo⟩,.inl c',⟨rfl,rfl,hr⟩,hU.same fun _ _=>rfl,fun q h=>.inl h,hJ,hcu.same fun _ _=>rfl,hcr,fun q h h2=>?_,rfl⟩
 rcases hcr q h with h3|h3
 ·exact hdis q h3 h2
 ·exact absurd (hs.low (r:=q) h2) (by omega)
theorem s_ans{a:SA}(hU:SU lb ⟨k',s.wb,s.wo⟩ w')(hr:(k',.inr a.an)=s.k.step c.c)(hau:SAU a w')(har:∀q,a.row.ownBlock=some q→SCR c q∨w.heap.size≤q)(hs:SU lb s w)(hdis:∀q,SCR c q→¬SR lb s q)(d:Nat):
 (SLay lb).Out st s (SCR c) ((SLay lb).stp s c) w cs (back (.agg #[.bool a.an.1,.int .i64 a.an.2.1,.slice a.la a.ll a.lc]) cs) (w'.at d):=by
 refine⟨⟨k',s.wb,s.wo⟩,.inr a,⟨rfl,rfl,hr⟩,hU.same fun _ _=>rfl,fun q h=>.inl h,?_,har,fun q h h2=>?_,rfl⟩
 ·exact ownsRow_same2 (W':=w'.at d) hau fun _ _ _=>rfl
 ·rcases har q h with h3|h3
  ·exact hdis q h3 h2
  ·exact absurd (hs.low (r:=q) h2) (by omega)
theorem s_beg{o:Op4}{i:Nat}{fs:List Frame}(hf:fs=(SLay lb).cf st c'++cs)(hs:SU lb s w)(hU:∀r,r<w.heap.size→w'.heap[r]? =w.heap[r]?)(hr:(s.k,.inl c'.c)=s.k.begin o)(hJ:SJ lb st s.wb s.wo s.n c')(hcu:SCU c' w')(hcr:∀q,SCR c' q→w.heap.size≤q)(d:Nat):
 (SLay lb).Out st s (fun _=>False) ((SLay lb).beg s i o) w cs (G (Frame.enter Try.prog 133 #[.pointer (some ⟨st,0,none⟩)] .normal) fs) (w'.at d):=by
 subst hf
 refine⟨s,.inl c',⟨rfl,rfl,hr⟩,hs.same fun r h=>hU r (hs.low h),fun q h=>.inl h,hJ,hcu.same fun _ _=>rfl,fun q h=>.inr (hcr q h),fun q h h2=>?_,rfl⟩
 exact absurd (hs.low (r:=q) h2) (by have:=hcr q h;omega)
end
end
section
variable{F:Fz}{w w':World}{lb st:Nat}
structure SB(F:Fz)(w u:World)(ov:Value)(n:Nat)(kd a b0 c0:Int):Prop where
 row:u.ownsRow 0 2 1 ov n ((opVals n b0 c0).map fun v=>.int .i64 v)
 wf:Wf F u
 sz:w.heap.size+2≤u.heap.size
 old:∀r,r<w.heap.size→u.heap[r]? =w.heap[r]?
 ob:u.heap[w.heap.size]? =some (.cells #[.int .i64 kd,.int .i64 a,.int .i64 b0,.int .i64 c0] 47 (0,0))
 rb:u.heap[w.heap.size+1]? =some (.cells #[.bool false,.int .i64 0,.slice none 0 0] 44 (0,0))
 blk:∀g,ov.ownBlock=some g→w.heap.size+2≤g
def dS0(lb:Nat)(sv:Value)(ob rb n:Nat)(ov:Value):List (Nat×Value):=[(0,.pointer (some ⟨lb,0,none⟩)),(1,sv),(7,.pointer (some ⟨ob,0,none⟩)),(8,.pointer (some ⟨rb,0,none⟩)),(9,ov),(13,.int .i64 (n:Nat)),(14,.int .i64 (n:Nat))]
section
variable{s:SS}{kd a b0 c0:Int}{j:Nat}{sv:Value}
theorem do_go(hs:SU lb s w)(hwf:Wf F w){cs:List Frame}{main:Bool}{Stop:Goroutine→World→Prop}
 (h:∀ov u A,SB F w u ov s.n kd a b0 c0→Slots 80 A (dS0 lb sv w.heap.size (w.heap.size+1) s.n ov)→Own Try.prog main F Stop (G ((Go.Conc.base 48).at ⟨A,[]⟩ [.code sdos5,.inLoop sdos5,.inBlock 0,.code sdos9]) cs) u):
 Own Try.prog main F Stop (G (Frame.enter Try.prog 48 #[.pointer (some ⟨lb,0,none⟩),sv,.int .i64 j,.agg #[.int .i64 kd,.int .i64 a,.int .i64 b0,.int .i64 c0]] .normal) cs) w:=by
 have hU:=wf_under hwf
 refine do_0 (b:=b0) hU (Nat.le_refl _) hs.h fun A hA=>?_
 have sz2:((w.alloc (.cells #[.int .i64 kd,.int .i64 a,.int .i64 b0,.int .i64 c0] 47)).alloc (.cells #[.bool false,.int .i64 0,.slice none 0 0] 44)).heap.size=w.heap.size+2:=size2 _ _ _
 have e0:((w.alloc (.cells #[.int .i64 kd,.int .i64 a,.int .i64 b0,.int .i64 c0] 47)).alloc (.cells #[.bool false,.int .i64 0,.slice none 0 0] 44)).heap[w.heap.size]? =some (.cells #[.int .i64 kd,.int .i64 a,.int .i64 b0,.int .i64 c0] 47 (0,0)):=by
  rw[heap_alloc_lt _ _ (by simp)]
  exact heap_alloc_new _ _
 refine do_2 (kd:=kd) (a:=a) (b:=b0) (c0:=c0) (m0:=w.heap.size+2) (w0:=(w.alloc (.cells #[.int .i64 kd,.int .i64 a,.int .i64 b0,.int .i64 c0] 47)).alloc (.cells #[.bool false,.int .i64 0,.slice none 0 0] 44)) hs.wf.n2 hU (by omega) (by omega) e0 (fun ov u A hrow hwu hsz hold hg hA=>?_) s.n 0 _ _ _ (Nat.zero_add _) (World.ownsRow_nil _ _ _ _) ?_ (by rw[sz2];exact Nat.le_refl _) (fun _ _=>rfl) (fun g hg=>by simp[Value.ownBlock]at hg) hA
 ·exact h ov u A ⟨hrow,hwu,hsz,fun r hr=>(hold r (by omega)).trans (old2 _ _ _ hr),(hold _ (by omega)).trans e0,(hold _ (by omega)).trans (new2 _ _ _ _),hg⟩ hA
 ·exact(hwf.of_grew (grew_alloc hU (Nat.le_refl _) _)).of_grew (grew_alloc hU (by simp) _)
variable{u:World}{n:Nat}{ov:Value}
theorem SB.low(h:SB F w u ov n kd a b0 c0){g:Nat}(hg:ov.ownBlock=some g):g<u.heap.size:=row_low h.row hg
theorem SB.cuV(h:SB F w u ov n kd a b0 c0){c:SCl}(hv:c.vs=opVals n b0 c0)(ho:c.out=[]){A A1 A2 A3:Array Value}:SCU ⟨c,A,A1,A2,A3,u.heap.size,w.heap.size+1,ov,.slice none 0 0⟩ (u.alloc (.cells #[.bool false,.int .i64 0,.slice none 0 0] 44)):=by
 have h1:=h.sz
 refine⟨⟨heap_alloc_new _ _⟩,⟨_,_,_,old_alloc h.rb _⟩,by simp only;omega,?_,?_,⟨fun e=>?_,fun e=>?_⟩,⟨by simp[Value.ownBlock],by simp[Value.ownBlock]⟩⟩
 ·show(u.alloc _).ownsRow 0 2 1 ov c.vs.length (c.vs.map fun v=>.int .i64 v)
  rw[hv,opVals_len]
  exact h.row.alloc _
 ·show(u.alloc _).ownsRow 0 2 1 _ c.out.length (c.out.map fun v=>.int .i64 v)
  rw[ho]
  exact World.ownsRow_nil _ _ _ _
 ·exact absurd (h.low e) (by simp)
 ·have:=h.blk _ e
  simp only at this
  omega
theorem SB.cu0(h:SB F w u ov n kd a b0 c0){c:SCl}(hv:c.vs=[])(ho:c.out=[]){A A1 A2 A3:Array Value}:SCU ⟨c,A,A1,A2,A3,u.heap.size,w.heap.size+1,.slice none 0 0,.slice none 0 0⟩ (u.alloc (.cells #[.bool false,.int .i64 0,.slice none 0 0] 44)):=by
 have h1:=h.sz
 refine⟨⟨heap_alloc_new _ _⟩,⟨_,_,_,old_alloc h.rb _⟩,by simp only;omega,?_,?_,⟨by simp[Value.ownBlock],by simp[Value.ownBlock]⟩,⟨by simp[Value.ownBlock],by simp[Value.ownBlock]⟩⟩
 ·show(u.alloc _).ownsRow 0 2 1 _ c.vs.length (c.vs.map fun v=>.int .i64 v)
  rw[hv]
  exact World.ownsRow_nil _ _ _ _
 ·show(u.alloc _).ownsRow 0 2 1 _ c.out.length (c.out.map fun v=>.int .i64 v)
  rw[ho]
  exact World.ownsRow_nil _ _ _ _
theorem SB.old'(h:SB F w u ov n kd a b0 c0)(o:Obj):∀r,r<w.heap.size→(u.alloc o).heap[r]? =w.heap[r]?:=fun r hr=>by
 have:=h.sz
 rw[heap_alloc_lt _ _ (by omega),h.old r hr]
end
section
variable{s:SS}{a b0 c0:Int}{i:Nat}
theorem sbeg_1(hs:SU lb s w)(hwf:Wf F w)(b:Frame)(cs:List Frame):
 Own Try.prog false F ((SLay lb).Out st s (fun _=>False) ((SLay lb).beg s i ⟨1,a,b0,c0⟩) w (b::cs)) (G (Frame.enter Try.prog 48 #[.pointer (some ⟨lb,0,none⟩),stepperV st,.int .i64 i,.agg #[.int .i64 1,.int .i64 a,.int .i64 b0,.int .i64 c0]] .normal) (b::cs)) w:=by
 have hn:=hs.wf.n1
 obtain⟨t1,t2⟩:=triesOf_pos a
 refine do_go (sv:=stepperV st) hs hwf fun ov u A3 hB hA3=>?_
 have hsz:=hB.sz
 obtain⟨la,ll,lc,rfl⟩:=row_slice hB.row
 refine do_x1 (sv:=stepperV st) (wf_under hwf) (by omega) hB.ob hA3 fun A3 hA3=>?_
 refine ww_01 fun A2 hA2=>?_
 refine wr_0 fun A1 hA1=>?_
 refine bg_0 fun A hA=>?_
 refine own_sst_call (K:=stK) (.stop fun d=>?_)
 refine s_beg (st:=st) (c':=⟨⟨1,0,0,triesOf a,0,0,[],opVals s.n b0 c0,0⟩,A,A1,A2,A3,u.heap.size,w.heap.size+1,.slice la ll lc,.slice none 0 0⟩) (by rfl) hs (hB.old' _) (by simp[SSt.begin]) ⟨⟨by simp,t2,t1,hn,fun _=>⟨opVals_len _ _ _,rfl⟩,fun h=>by simp at h,fun h=>by simp at h,fun h=>by simp at h⟩,(by exact⟨hA,hA1,hA2⟩),hA3,fun h=>by simp at h⟩ (hB.cuV rfl rfl) (fun q hq=>?_) d
 rcases hq with rfl|rfl|hq|hq
 ·simp only;omega
 ·simp only;omega
 ·have:=hB.blk q hq;omega
 ·simp[Value.ownBlock]at hq
theorem sbeg_2(hs:SU lb s w)(hwf:Wf F w)(b:Frame)(cs:List Frame):
 Own Try.prog false F ((SLay lb).Out st s (fun _=>False) ((SLay lb).beg s i ⟨2,a,b0,c0⟩) w (b::cs)) (G (Frame.enter Try.prog 48 #[.pointer (some ⟨lb,0,none⟩),stepperV st,.int .i64 i,.agg #[.int .i64 2,.int .i64 a,.int .i64 b0,.int .i64 c0]] .normal) (b::cs)) w:=by
 have hn:=hs.wf.n1
 obtain⟨t1,t2⟩:=triesOf_pos a
 refine do_go (sv:=stepperV st) hs hwf fun ov u A3 hB hA3=>?_
 have hsz:=hB.sz
 obtain⟨la,ll,lc,rfl⟩:=row_slice hB.row
 refine do_x2 (sv:=stepperV st) (wf_under hwf) (by omega) hB.ob hA3 fun A3 hA3=>?_
 refine ww_02 fun A2 hA2=>?_
 refine wr_0 fun A1 hA1=>?_
 refine bg_0 fun A hA=>?_
 refine own_sst_call (K:=stK) (.stop fun d=>?_)
 refine s_beg (st:=st) (c':=⟨⟨2,0,0,triesOf a,0,0,[],opVals s.n b0 c0,0⟩,A,A1,A2,A3,u.heap.size,w.heap.size+1,.slice la ll lc,.slice none 0 0⟩) (by rfl) hs (hB.old' _) (by simp[SSt.begin]) ⟨⟨by simp,t2,t1,hn,fun _=>⟨opVals_len _ _ _,rfl⟩,fun h=>by simp at h,fun h=>by simp at h,fun h=>by simp at h⟩,(by exact⟨hA,hA1,hA2⟩),hA3,fun h=>by simp at h⟩ (hB.cuV rfl rfl) (fun q hq=>?_) d
 rcases hq with rfl|rfl|hq|hq
 ·simp only;omega
 ·simp only;omega
 ·have:=hB.blk q hq;omega
 ·simp[Value.ownBlock]at hq
theorem sbeg_3(hs:SU lb s w)(hwf:Wf F w)(b:Frame)(cs:List Frame):
 Own Try.prog false F ((SLay lb).Out st s (fun _=>False) ((SLay lb).beg s i ⟨3,a,b0,c0⟩) w (b::cs)) (G (Frame.enter Try.prog 48 #[.pointer (some ⟨lb,0,none⟩),stepperV st,.int .i64 i,.agg #[.int .i64 3,.int .i64 a,.int .i64 b0,.int .i64 c0]] .normal) (b::cs)) w:=by
 have hn:=hs.wf.n1
 obtain⟨t1,t2⟩:=triesOf_pos a
 refine do_go (sv:=stepperV st) hs hwf fun ov u A3 hB hA3=>?_
 have hsz:=hB.sz
 refine do_x3 (sv:=stepperV st) (wf_under hwf) (by omega) hB.ob hA3 fun A3 hA3=>?_
 refine rd_0 fun A1 hA1=>?_
 refine own_sst_call (K:=stK) (.stop fun d=>?_)
 refine s_beg (st:=st) (c':=⟨⟨3,0,0,triesOf a,0,0,[],[],0⟩,A1,A1,A1,A3,u.heap.size,w.heap.size+1,.slice none 0 0,.slice none 0 0⟩) (by rfl) hs (hB.old' _) (by simp[SSt.begin]) ⟨⟨by simp,t2,t1,hn,fun h=>absurd h (by simp),fun h=>by simp at h ⊢,fun h=>by simp at h,fun _=>rfl⟩,(by exact hA1),hA3,fun _=>rfl⟩ (hB.cu0 rfl rfl) (fun q hq=>?_) d
 rcases hq with rfl|rfl|hq|hq
 ·simp only;omega
 ·simp only;omega
 ·simp[Value.ownBlock]at hq
 ·simp[Value.ownBlock]at hq
theorem sbeg_4(hs:SU lb s w)(hwf:Wf F w)(b:Frame)(cs:List Frame):
 Own Try.prog false F ((SLay lb).Out st s (fun _=>False) ((SLay lb).beg s i ⟨4,a,b0,c0⟩) w (b::cs)) (G (Frame.enter Try.prog 48 #[.pointer (some ⟨lb,0,none⟩),stepperV st,.int .i64 i,.agg #[.int .i64 4,.int .i64 a,.int .i64 b0,.int .i64 c0]] .normal) (b::cs)) w:=by
 have hn:=hs.wf.n1
 obtain⟨t1,t2⟩:=triesOf_pos a
 refine do_go (sv:=stepperV st) hs hwf fun ov u A3 hB hA3=>?_
 have hsz:=hB.sz
 refine do_x4 (sv:=stepperV st) (wf_under hwf) (by omega) hB.ob hA3 fun A3 hA3=>?_
 have hh:SH lb s.wb s.wo s.n (u.alloc (.cells #[.bool false,.int .i64 0,.slice none 0 0] 44)):=hs.h.same (hB.old' _ _ (hs.low (.inl rfl)))
 refine rw_0 hh fun A hA=>?_
 refine own_sst_call (K:=stK) (.stop fun d=>?_)
 refine s_beg (st:=st) (c':=⟨⟨4,1,0,1,0,0,[],[],0⟩,A,A,A,A3,u.heap.size,w.heap.size+1,.slice none 0 0,.slice none 0 0⟩) (by rfl) hs (hB.old' _) (by simp[SSt.begin]) ⟨⟨by simp,(by decide:(1:Nat)≤1024),(by decide:(0:Nat)<1),hn,fun h=>absurd h (by simp),fun h=>by simp at h ⊢,fun h=>by simp at h,fun _=>rfl⟩,(by exact hA),hA3,fun _=>rfl⟩ (hB.cu0 rfl rfl) (fun q hq=>?_) d
 rcases hq with rfl|rfl|hq|hq
 ·simp only;omega
 ·simp only;omega
 ·simp[Value.ownBlock]at hq
 ·simp[Value.ownBlock]at hq
theorem sbeg_5(hs:SU lb s w)(hwf:Wf F w)(b:Frame)(cs:List Frame):
 Own Try.prog false F ((SLay lb).Out st s (fun _=>False) ((SLay lb).beg s i ⟨5,a,b0,c0⟩) w (b::cs)) (G (Frame.enter Try.prog 48 #[.pointer (some ⟨lb,0,none⟩),stepperV st,.int .i64 i,.agg #[.int .i64 5,.int .i64 a,.int .i64 b0,.int .i64 c0]] .normal) (b::cs)) w:=by
 have hn:=hs.wf.n1
 obtain⟨t1,t2⟩:=triesOf_pos a
 refine do_go (sv:=stepperV st) hs hwf fun ov u A3 hB hA3=>?_
 have hsz:=hB.sz
 refine do_x5 (sv:=stepperV st) (wf_under hwf) (by omega) hB.ob hA3 fun A3 hA3=>?_
 refine nw_0 fun A1 hA1=>?_
 refine own_sst_call (K:=stK) (.stop fun d=>?_)
 refine s_beg (st:=st) (c':=⟨⟨5,0,0,1,0,0,[],[],a⟩,A1,A1,A1,A3,u.heap.size,w.heap.size+1,.slice none 0 0,.slice none 0 0⟩) (by rfl) hs (hB.old' _) (by simp[SSt.begin]) ⟨⟨by simp,(by decide:(1:Nat)≤1024),(by decide:(0:Nat)<1),hn,fun h=>absurd h (by simp),fun h=>by simp at h ⊢,fun h=>by simp at h,fun _=>rfl⟩,(by exact hA1),hA3,fun _=>rfl⟩ (hB.cu0 rfl rfl) (fun q hq=>?_) d
 rcases hq with rfl|rfl|hq|hq
 ·simp only;omega
 ·simp only;omega
 ·simp[Value.ownBlock]at hq
 ·simp[Value.ownBlock]at hq
theorem sbeg_other{kd:Int}(h1:kd≠1)(h2:kd≠2)(h3:kd≠3)(h4:kd≠4)(h5:kd≠5)(hs:SU lb s w)(hwf:Wf F w)(b:Frame)(cs:List Frame):
 Own Try.prog false F ((SLay lb).Out st s (fun _=>False) ((SLay lb).beg s i ⟨kd,a,b0,c0⟩) w (b::cs)) (G (Frame.enter Try.prog 48 #[.pointer (some ⟨lb,0,none⟩),stepperV st,.int .i64 i,.agg #[.int .i64 kd,.int .i64 a,.int .i64 b0,.int .i64 c0]] .normal) (b::cs)) w:=by
 refine do_go (sv:=stepperV st) hs hwf fun ov u A3 hB hA3=>?_
 have hsz:=hB.sz
 have hU:=wf_under hwf
 refine do_x0 (sv:=stepperV st) (n:=s.n) hU (by omega) (by simpa using h1) (by simpa using h2) (by simpa using h3) (by simpa using h4) (by simpa using h5) hB.ob ⟨_,_,_,hB.rb⟩ (fun k=>not_held hU (by simp only;omega)) hA3 fun w' h6 h7=>.stop fun d=>?_
 refine⟨s,.inr ⟨(false,0,[]),none,0,0⟩,⟨rfl,rfl,by simp[SSt.begin,absS,h1,h2,h3,h4,h5]⟩,hs.same fun r hr=>?_,fun r hr=>.inl hr,World.ownsRow_nil _ _ _ _,fun q h=>by simp[SLay,SA.row,Value.ownBlock]at h,fun q h=>by simp[SLay,SA.row,Value.ownBlock]at h,rfl⟩
 have hlt:=hs.low hr
 exact(h7 r (by omega) (by omega)).trans (hB.old r hlt)
end
end
end Go.Proofs.Ytlcgkpapnpdfpaa
