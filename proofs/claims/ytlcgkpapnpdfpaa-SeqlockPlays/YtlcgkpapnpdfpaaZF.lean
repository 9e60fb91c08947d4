/-
  Of SeqlockPlays: every run by a schedule is the machine's of the same steps. No condition.
  Part 6 of 6.
-/
import Derived.Test.YtlcgkpapnpdfpaaZE
set_option linter.unusedSimpArgs false
set_option linter.unusedVariables false
set_option linter.unusedSectionVars false
set_option maxRecDepth 100000
set_option maxHeartbeats 8000000
namespace Go.Proofs.Ytlcgkpapnpdfpaa
open Go Go.Conc Go.RowKit Go.Proofs
section
open Go.ChangeShapes Go.WideShapes Go.ChangeAt
section
variable{H:Type}{enc:TypeId×Value→H}{W:World}
theorem ints_in8{t e:TypeId}(ht:Try.prog.underlying t=some (.slice e))(he:Try.prog.underlying e=some (.int .i64))(hc:Try.prog.cellsOf e=1){v:Value}{d:DataW H}{p:List MemPlace}(hv:∃a l c,v= .slice a l c)
 (h:DataW.Trod enc Try.prog W 0 (fun _=>true) true t v d p) (hz:W.noneFrozen p) (hl:∀x∈p,x.block<W.heap.size):
 ∃(a:Option Addr) (vs:List Int) (c b o:Nat),v= .slice a vs.length c∧vs.length≤Rows.uptoBulk d∧(0<vs.length→a=some ⟨b,o,none⟩∧b<W.heap.size∧∃c e z,W.heap[b]? =some (.cells c e z)∧∀(k:Nat) (u:Int),vs[k]? =some u→
  c[o+k]? =some (.int .i64 u)∧(decide (z.1≤o+k) && decide (o+k<z.2))=false∧W.cell? ⟨b,o+k,none⟩=some (.int .i64 u)∧W.frozen? ⟨b,o+k,none⟩=false):=by
 obtain⟨fuel,hf⟩:=h
 obtain⟨a0,l0,c0,rfl⟩:=hv
 rcases open_ints ht he hc hf with⟨h1,h2⟩|⟨a,len,cap,zs,h1,hb,hlc,_,hzl,h2,h3,_⟩
 ·simp[Value.cells]at h1
  obtain⟨rfl,rfl,rfl⟩:=h1
  exact⟨none,[],0,0,0,rfl,Nat.zero_le _,fun h=>by simp at h⟩
 ·simp only[if_true]at hzl
  simp[Value.cells]at h1
  obtain⟨rfl,rfl,rfl⟩:=h1
  simp only[Prod.mk.injEq]at h2
  obtain⟨rfl,rfl⟩:=h2
  have el:(zs.take l0).length=l0:=by simp;omega
  refine⟨some a,zs.take l0,c0,a.block,a.off,by rw[el],?_,fun hp=>?_⟩
  ·have:=(bulk_slice (H:=H) (lits .i64 (zs.take l0)) (lits .i64 (zs.drop l0))).1
   simpa [lits]using this
  ·rw[el]at hp
   obtain⟨b,o,spot⟩:=a
   have hs:spot=none:=by
    have:=World.cell?_spot (h3 0 (by omega))
    simpa [Addr.add]using this
   subst hs
   have hc0:=h3 0 (by omega)
   rw[add_plain]at hc0
   obtain⟨c,e',z,ho,_⟩:=cell_in hc0
   have hfr:∀k,k<zs.length→W.frozen? ⟨b,o+k,none⟩=false:=fun k hk=>hz b (o+k) (by simp only[MemPlace.row,List.mem_map,List.mem_range];exact⟨k,hk,rfl⟩)
   refine⟨rfl,(alt ho),c,e',z,ho,fun k u hk=>?_⟩
   have hkl:=(List.getElem?_eq_some_iff.1 hk).1
   rw[el]at hkl
   have hu:zs.getD k 0=u:=by
    rw[List.getElem?_take_of_lt hkl]at hk
    simp[List.getD,hk]
   have hck:=h3 k (by omega)
   rw[add_plain,hu]at hck
   obtain⟨c',e2,z',ho',hcc⟩:=cell_in hck
   rw[ho]at ho'
   cases ho'
   exact⟨hcc,frozen_in ho (hfr k (by omega)),hck,hfr k (by omega)⟩
theorem threads_in8{v:Value}{d:DataW H}{p:List MemPlace}(hv:∃a l c,v= .slice a l c)(h:DataW.Trod enc Try.prog W 0 (fun _=>true) true 23 v d p)(hz:W.noneFrozen p):
 ∃(a:Option Addr) (tl tc b o:Nat) (oa:Nat→Option Addr) (ol oc:Nat→Nat) (ops:Nat→List Op4),v= .slice a tl tc∧tl≤Rows.uptoBulk d∧(∀j,j<tl→ol j≤Rows.uptoBulk d)∧
  ∀(S:List Int) (sa:Option Addr),S.length<9223372036854775808→(0<S.length→∃sb so c e z,sa=some ⟨sb,so,none⟩∧W.heap[sb]? =some (.cells c e z)∧∀(k:Nat) (u:Value),(S.map fun i:Int=>Value.int .i64 i)[k]? =some u→c[so+k]? =some u∧(decide (z.1≤so+k) && decide (so+k<z.2))=false)→
   OpsIn W (fun _=>False) (min tl 64) b o tl a oa ol oc ops S sa:=by
 obtain⟨fuel,hf⟩:=h
 obtain⟨a0,l0,c0,rfl⟩:=hv
 rcases Deep.open_slice1 Try.underlying23 cells34 hf with⟨h1,h2⟩|⟨a,len,cap,m,n,V,D,Pl,h1,hb,hlc,_,hm,h2,hx⟩
 ·simp[Value.cells]at h1
  obtain⟨rfl,rfl,rfl⟩:=h1
  refine⟨none,0,0,0,0,fun _=>none,fun _=>0,fun _=>0,fun _=>[],rfl,Nat.zero_le _,fun j hj=>by omega,fun S sa hl hS=>⟨rfl,fun h=>by simp at h,fun h=>by simp at h,fun j hj=>by simp at hj,fun j hj=>by simp at hj,fun j hj=>by simp at hj,hl,fun hp=>?_⟩⟩
  obtain⟨sb,so,c,e,z,e1,e2,e3⟩:=hS hp
  exact⟨sb,so,c,e,z,e1,fun h=>h,e2,e3⟩
 ·simp only[if_true]at hm
  subst hm
  simp[Value.cells]at h1
  obtain⟨rfl,rfl,rfl⟩:=h1
  simp only[Prod.mk.injEq]at h2
  obtain⟨rfl,rfl⟩:=h2
  have each:∀j,j<l0→∃q:Option Addr×Nat×Nat×Nat×Nat×(Nat→Op4),V j= .slice q.1 q.2.1 q.2.2.1∧q.2.1≤q.2.2.1∧q.2.1≤Rows.uptoBulk (D j)∧∀k,k<q.2.1→q.1=some ⟨q.2.2.2.1,q.2.2.2.2.1,none⟩∧OpLies W q.2.2.2.1 (q.2.2.2.2.1+k*4) (q.2.2.2.2.2 k):=fun j hj=>by
   obtain⟨x1,x2,x3,x4,x5,x6,e1,e2,e3,e4⟩:=ops_in (hx j (by omega)).2 (fun b o hm=>hz b o (List.mem_append_right _ (List.mem_flatMap.2 ⟨j,List.mem_range.2 (by omega),hm⟩)))
   exact⟨⟨x1,x2,x3,x4,x5,x6⟩,e1,e2,e3,e4⟩
  obtain⟨q,hq⟩:=Deep.choose_lt each
  have hbs:=bulk_slice (H:=H) ((List.range l0).map D) ((List.range (c0 - l0)).map fun j=>D (l0+j))
  refine⟨some a,l0,c0,a.block,a.off,fun j=>(q j).1,fun j=>(q j).2.1,fun j=>(q j).2.2.1,fun j=>(List.range (min (q j).2.1 65536)).map (q j).2.2.2.2.2,rfl,by simpa using hbs.1,fun j hj=>Nat.le_trans (hq j hj).2.2.1 (hbs.2 _ (List.mem_map.2 ⟨j,List.mem_range.2 hj,rfl⟩)),fun S sa hl hS=>?_⟩
  have hsp:0<l0→a=⟨a.block,a.off,none⟩:=fun hp=>by
   obtain⟨b,o,spot⟩:=a
   have hs:spot=none:=by
    have:=World.cell?_spot (hx 0 (by omega)).1
    simpa [Addr.add]using this
   subst hs
   rfl
  have hcell:∀j,j<l0→W.cell? ⟨a.block,a.off+j,none⟩=some (.slice (q j).1 (q j).2.1 (q j).2.2.1):=fun j hj=>by
   have:=(hx j (by omega)).1
   rw[hsp (by omega),add_plain,(hq j hj).1]at this
   exact this
  refine⟨rfl,fun hp=>by rw[← hsp (by omega)],fun hp=>?_,fun j hj=>⟨hcell j (by omega),?_,(hq j (by omega)).2.1⟩,fun j hj=>by simp,fun j hj k x hk=>?_,hl,fun hp=>?_⟩
  ·obtain⟨c,e,z,ho,_⟩:=cell_in (hcell 0 (by omega))
   exact(alt ho)
  ·exact hz a.block (a.off+j) (List.mem_append_left _ (by simp only[MemPlace.row,List.mem_map,List.mem_range];exact⟨j,by omega,rfl⟩))
  ·have hkl:=(List.getElem?_eq_some_iff.1 hk).1
   simp only[List.length_map,List.length_range]at hkl
   have hx':(q j).2.2.2.2.2 k=x:=by
    rw[List.getElem?_map,List.getElem?_range hkl]at hk
    simpa using hk
   obtain⟨e1,e2⟩:=(hq j (by omega)).2.2.2 k (by omega)
   rw[hx']at e2
   exact⟨_,_,e1,fun h=>h,e2.f0,e2.f1,e2.f2,e2.f3,e2.g0,e2.g1,e2.g2,e2.g3⟩
  ·obtain⟨sb,so,c,e,z,e1,e2,e3⟩:=hS hp
   exact⟨sb,so,c,e,z,e1,fun h=>h,e2,e3⟩
end
section
variable{H:Type}{enc:TypeId×Value→H}{W:World}
theorem ints_len8{t e:TypeId}(ht:Try.prog.underlying t=some (.slice e))(he:Try.prog.underlying e=some (.int .i64))(hc:Try.prog.cellsOf e=1){a:Option Addr}{l c:Nat}{d:DataW H}{p:List MemPlace}
 (h:DataW.Trod enc Try.prog W 0 (fun _=>true) true t (.slice a l c) d p):l<9223372036854775808:=by
 obtain⟨fuel,hf⟩:=h
 rcases open_ints ht he hc hf with⟨h1,h2⟩|⟨a,len,cap,zs,h1,hb,hlc,hm,hzl,h2,h3,_⟩
 ·simp[Value.cells]at h1
  omega
 ·simp[Value.cells]at h1
  unfold maxLen at hm
  omega
theorem cells22:Try.prog.cellsOf 22=1:=by kernel_rfl
theorem cells23:Try.prog.cellsOf 23=1:=by kernel_rfl
theorem cells24:Try.prog.cellsOf 24=1:=by kernel_rfl
theorem slice_one{t e:TypeId}(ht:Try.prog.underlying t=some (.slice e)){n:Nat}{v:Value}{y:DataW H×List MemPlace}(h:DataW.trod enc Try.prog W 0 (fun _=>true) true n t [v]=some y):(∃a l c,v= .slice a l c)∧DataW.Trod enc Try.prog W 0 (fun _=>true) true t v y.1 y.2:=by
 obtain⟨y1,y2⟩:=y
 have hs:∃a l c,v= .slice a l c:=by
  rcases Deep.open_slice ht h with⟨h1,_⟩|⟨a,len,cap,m,n,D,Pl,h1,_⟩
  ·cases h1;exact⟨_,_,_,rfl⟩
  ·cases h1;exact⟨_,_,_,rfl⟩
 refine⟨hs,n,?_⟩
 obtain⟨a,l,c,rfl⟩:=hs
 exact h
theorem script_in{v:Value}{d:DataW H}{p:List MemPlace}(hv:Value.okWide Try.prog W .any W.heap.size 26 v)(h:DataW.Trod enc Try.prog W 0 (fun _=>true) true 26 v d p)(hz:W.noneFrozen p)(hl:∀x∈p,x.block<W.heap.size):
 ∃(va ta sa:Option Addr) (vs:List Int) (vc tl tc sc n tb o:Nat) (S:List Int) (mo:Int) (oa:Nat→Option Addr) (ol oc:Nat→Nat) (ops:Nat→List Op4),v= .agg #[.slice va vs.length vc,.slice ta tl tc,.slice sa S.length sc,.int .i64 mo]∧
  InRow W va vs∧vs.length<9223372036854775808∧OpsIn W (fun _=>False) n tb o tl ta oa ol oc ops S sa:=by
 obtain⟨cs,rfl,hcs⟩:=okWide_struct Try.underlying26 hv
 obtain⟨fuel,hf⟩:=h
 obtain⟨xs,n',hk',hxy,hlen,hxl,hfd⟩:=DataW.trod_struct Try.underlying26 hf
 obtain⟨l⟩:=cs
 match xs,hxl,l,hcs with
 | [y0,y1,y2,y3],_,[v0,v1,v2,v3],_=>
   have q0:=hfd 0 _ rfl
   have q1:=hfd 1 _ rfl
   have q2:=hfd 2 _ rfl
   have q3:=hfd 3 _ rfl
   simp[cells22,cells23,cells24,cells3,Value.cells]at q0 q1 q2 q3
   simp only[Prod.mk.injEq]at hxy
   obtain⟨_,hp⟩:=hxy
   obtain⟨s0,t0⟩:=slice_one Try.underlying22 q0
   obtain⟨s1,t1⟩:=slice_one Try.underlying23 q1
   obtain⟨s2,t2⟩:=slice_one Try.underlying24 q2
   obtain⟨mo,r3,_,_⟩:=DataW.trod_int Try.underlying3 q3
   cases r3
   have z0:W.noneFrozen y0.2:=fun b o h=>hz b o (by rw[hp];simp[h])
   have z1:W.noneFrozen y1.2:=fun b o h=>hz b o (by rw[hp];simp[h])
   have z2:W.noneFrozen y2.2:=fun b o h=>hz b o (by rw[hp];simp[h])
   have l0:∀x∈y0.2,x.block<W.heap.size:=fun x hx=>hl x (by rw[hp];simp[hx])
   have l2:∀x∈y2.2,x.block<W.heap.size:=fun x hx=>hl x (by rw[hp];simp[hx])
   obtain⟨va,vs,vc,vb,vo,rfl,_,hV⟩:=ints_in8 Try.underlying22 Try.underlying2 cells2 s0 t0 z0 l0
   obtain⟨sa,S,sc,sb,so,rfl,_,hS⟩:=ints_in8 Try.underlying24 Try.underlying3 cells3 s2 t2 z2 l2
   obtain⟨ta,tl,tc,tb,o,oa,ol,oc,ops,rfl,_,_,hI⟩:=threads_in8 s1 t1 z1
   have hvl:=ints_len8 Try.underlying22 Try.underlying2 cells2 t0
   have hsl:=ints_len8 Try.underlying24 Try.underlying3 cells3 t2
   have hI:=hI S sa hsl fun hp=>by
    obtain⟨e1,e2,c,e,z,e3,e4⟩:=hS hp
    refine⟨sb,so,c,e,z,e1,e3,fun k u hu=>?_⟩
    rw[List.getElem?_map,Option.map_eq_some_iff]at hu
    obtain⟨i,hi,rfl⟩:=hu
    exact⟨(e4 k i hi).1,(e4 k i hi).2.1⟩
   exact⟨va,ta,sa,vs,vc,tl,tc,sc,min tl 64,tb,o,S,mo,oa,ol,oc,ops,rfl,fun k x hx=>by
    obtain⟨e1,e2,c,e,z,e3,e4⟩:=hV (by have:=(List.getElem?_eq_some_iff.1 hx).1;omega)
    exact⟨vb,vo,e1,(e4 k x hx).2.2.1⟩,hvl,hI⟩
end
theorem splays_lifted(os:Os)(started:os.Started)(H:Type)(enc:TypeId×Value→H):
 ReturnsInLeavingWide {} Try.checked os 3 .any (Rows.seqlockPlaysSpec.pre6 enc Try.prog Try.f3 Rows.seqlockPlaysRow.domain false) (Rows.seqlockPlaysSpec.post enc Try.prog Try.f3 false true false false):=by
 refine returnsInLeavingWide_of_change_sized (C:=Try.checked) Try.own started Try.func3
  (ChangeSpec.witness6 (enc:=enc) (C:=Try.checked) false ⟨#[],#[.agg #[.slice none 0 0,.slice none 0 0,.slice none 0 0,.int .i64 0]],[]⟩ 8 (by kernel_rfl) (by kernel_rfl) (by kernel_rfl) (by kernel_rfl)) ?_
 intro W base args ds gs before hval0 hW _ hsz0 _
 have hval:∀(j:Nat) t v,Try.f3.params[j]? =some t→args[j]? =some v→Value.okWide Try.prog W .any base t v:=hval0
 have hW':=hW
 obtain⟨p,q,hA0,hV,rfl,hfz,_⟩:=hW
 have hA:DataW.TrodAll enc Try.prog W 0 (fun _=>true) true Try.f3.params.toList args.toList ds p:=hA0
 rw[Try.params3]at hA hval
 obtain⟨v0,d0,rfl,rfl,h0⟩:=trodAll_one hA
 obtain⟨rfl,rfl⟩:=trodVars_none hV
 clear hA0 hval0
 simp only[List.append_nil,List.nil_append]at hW' hfz
 have hlt:∀x∈p,x.block<W.heap.size:=fun x hx=>by simpa using hW'.lt x hx
 obtain⟨va,ta,sa,vs,vc,tl,tc,sc,n,tb,o,S,mo,oa,ol,oc,ops,rfl,hI1,hI2,hI3⟩:=script_in (hval 0 26 v0 rfl rfl) h0 hfz hlt
 obtain⟨M,hM⟩:∃M:Nat,min (max mo 0) 1048576=(M:Int):=⟨(min (max mo 0) 1048576).toNat,by omega⟩
 have hbes:=bes_splays (An:=⟨W.heap.size,W⟩) (W:=W) (vc:=vc) (tc:=tc) (sc:=sc) hI1 hI2 hI3 hM
 obtain⟨N,last,o',w',t',g1,g2,g3,g4⟩:=bes_good (An:=⟨W.heap.size,W⟩) (Post:=fun v w'=>LawPost W v w'∧(⟨W.heap.size,W⟩:Anchor).Holds w') (W:=W) ⟨rfl,rfl,rfl,Nat.le_refl _,fun r o _ h _=>h⟩ (Bes.bind hbes fun g w h=>Bes.stop ⟨h.1,fun d=>by
  obtain⟨v,e1,e2⟩:=h.2 d
  exact⟨v,e1,fun hh=>⟨e2 hh,hh⟩⟩⟩)
 refine⟨N,last,o',w',t',g1,g2,g3,g4.mono fun v hF=>?_⟩
 obtain⟨⟨rfl,hk⟩,hh⟩:=hF
 have hbelow:=below_of hh hk
 have r1:=Below.trod Try.laidOut (by kernel_rfl) (of_decide_eq_true (by kernel_rfl)) h0 hbelow (fun x hx=>hlt x hx)
 refine⟨_,_,_,[],p,[],hW',?_,?_,rfl,hbelow.frame _,fun h=>by cases h⟩
 ·exact trodAll_mk1 (shut_bool Try.underlying4 true)
 ·exact trodAll_mk1 r1
theorem seqlockPlays_holds:Rows.SeqlockPlaysSaid:=
 OpenClaim.holds_of_wide_leaving 3 Try.f3 rfl rfl rfl rfl rfl rfl rfl ⟨rfl,rfl,rfl,rfl,rfl⟩ rfl rfl rfl rfl rfl (by kernel_rfl) Try.func3 (by kernel_rfl)
  (of_decide_eq_true (by kernel_rfl)) (by unfold Func.isWrapper;first|(rw[if_pos (by decide +kernel)];kernel_rfl)|(rw[if_neg (by decide +kernel)];exact⟨rfl,rfl⟩))
  (fun os started H enc _=>splays_lifted os started H enc)
end
end Go.Proofs.Ytlcgkpapnpdfpaa
