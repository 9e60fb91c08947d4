/-
  Of StackRight: whatever threads push and pop by whatever schedule, with tags: nothing is lost, nothing is doubled. No condition.
  Part 3 of 5.
-/
import Derived.Test.YtlcgkpapnpdfpaaZB
import Derived.Laws.BitsLemmas
import Derived.Laws.Bits64
import Derived.Deep.RegionLaw
import Derived.Deep.RegionLawGrows
import Derived.Deep.DeepAppendRoom
import Derived.ArgAppend
import Derived.Laws.LoneSync
set_option linter.unusedSimpArgs false
set_option linter.unusedVariables false
set_option linter.unusedSectionVars false
set_option maxRecDepth 100000
set_option maxHeartbeats 8000000
namespace Go.Proofs.Ytlcgkpapnpdfpaa
open Go Go.Conc Go.RowKit Go.Proofs
noncomputable section
variable{F:Fz}{w:World}
theorem grew4{ab:Nat}(h:∀k,¬held F ⟨ab,k,none⟩)(x y z u:Value):Grew F w ((((w.setCell ⟨ab,0,none⟩ x).setCell ⟨ab,1,none⟩ y).setCell ⟨ab,2,none⟩ z).setCell ⟨ab,3,none⟩ u) 0:=
 (grew3 h x y z).trans (grew_setCell rfl (h 3) u)
theorem opW_new(X:World)(x y z u x' y' z' u':Value):((((X.alloc (.cells #[x,y,z,u] 47)).setCell ⟨X.heap.size,0,none⟩ x').setCell ⟨X.heap.size,1,none⟩ y').setCell ⟨X.heap.size,2,none⟩ z').setCell ⟨X.heap.size,3,none⟩ u'=X.alloc (.cells #[x',y',z',u'] 47):=by go_simp
@[go_sem] theorem neq_nilfE(f:Fn)(x c:Array Value)(w:World)(es:Array Event):(binOp .neq 98 (.func f x c) .nilFunc).events Try.prog w es=es:=by kernel_rfl
def dgBody:Code:=Try.f99.body.getD .skip
def dgs0:=pC [] dgBody
def dgr0:=pC [zt] dgBody
def dgb0:=pC [zf] dgBody
def dgl1:=pC [zf,zt] dgBody
def dgs2:=pC [zf,zt,zt] dgBody
def dgr1:=pC [zf,zt,zt,zt] dgBody
def dgs3:=pC [zf,zt,zt,zf] dgBody
def dgc12:=pC [zf,zt,zt,zf,zt] dgBody
def dgs4:=pC [zf,zt,zt,zf,zf] dgBody
def dgb1:=pC [zf,zt,zt,zf,zf,zt] dgBody
def dgs5:=pC [zf,zt,zt,zf,zf,zt,zt] dgBody
def dgr2:=pC [zf,zt,zt,zf,zf,zt,zt,zt] dgBody
def dgs6:=pC [zf,zt,zt,zf,zf,zt,zt,zf] dgBody
def dgr3:=pC [zf,zt,zt,zf,zf,zt,zt,zf,zt] dgBody
def dgs7:=pC [zf,zt,zt,zf,zf,zt,zt,zf,zf] dgBody
def dgs8:=pC [zf,zt,zt,zf,zf,zt,zt,zf,zf,zt] dgBody
def dgr4:=pC [zf,zt,zt,zf,zf,zt,zt,zf,zf,zt,zt] dgBody
def dgc16:=pC [zf,zt,zt,zf,zf,zt,zt,zf,zf,zt,zf] dgBody
def dgr5:=pC [zf,zt,zt,zf,zf,zt,zt,zf,zf,zt,zf,zt] dgBody
def dgr6:=pC [zf,zt,zt,zf,zf,zt,zt,zf,zf,zf] dgBody
def dgr7:=pC [zf,zt,zt,zf,zf,zf] dgBody
theorem dgs0':dgs0= .seq dgr0 dgb0:=by kernel_rfl
theorem dgr0':dgr0= .region 0 (oC dgr0) false:=by kernel_rfl
theorem dgb0':dgb0= .block 0 dgl1:=by kernel_rfl
theorem dgl1':dgl1= .loop dgs2:=by kernel_rfl
theorem dgs2':dgs2= .seq dgr1 dgs3:=by kernel_rfl
theorem dgr1':dgr1= .region 1 (oC dgr1) false:=by kernel_rfl
theorem dgs3':dgs3= .seq dgc12 dgs4:=by kernel_rfl
theorem dgc12':dgc12= .cond (.tmp 12) .skip (.exit 0):=by kernel_rfl
theorem dgs4':dgs4= .seq dgb1 dgr7:=by kernel_rfl
theorem dgb1':dgb1= .block 1 dgs5:=by kernel_rfl
theorem dgs5':dgs5= .seq dgr2 dgs6:=by kernel_rfl
theorem dgr2':dgr2= .region 2 (oC dgr2) false:=by kernel_rfl
theorem dgs6':dgs6= .seq dgr3 dgs7:=by kernel_rfl
theorem dgr3':dgr3= .region 3 (oC dgr3) false:=by kernel_rfl
theorem dgs7':dgs7= .seq dgs8 dgr6:=by kernel_rfl
theorem dgs8':dgs8= .seq dgr4 dgc16:=by kernel_rfl
theorem dgr4':dgr4= .region 4 (oC dgr4) false:=by kernel_rfl
theorem dgc16':dgc16= .cond (.tmp 16) dgr5 .skip:=by kernel_rfl
theorem dgr5':dgr5= .region 5 (oC dgr5) false:=by kernel_rfl
theorem dgr6':dgr6= .region 6 (oC dgr6) true:=by kernel_rfl
theorem dgr7':dgr7= .region 7 (oC dgr7) false:=by kernel_rfl
theorem enter_dg(args:Array Value):Frame.enter Try.prog 99 args .normal=(Go.Conc.base 99).at {tmps:=args++Array.replicate (33 - args.size) undef,defers:=[]} [.code dgs0]:=enter_at args Try.func99 rfl
theorem callable99:Callable 99:=callable Try.func99 rfl rfl
def dgT(s:Nat→Value):Array Value:= #[s 0,s 1,s 2,s 3,s 4,s 5,s 6,s 7,s 8,s 9,s 10,s 11,s 12,s 13,s 14,s 15,s 16,s 17,s 18,s 19,s 20,s 21,s 22,s 23,s 24,s 25,s 26,s 27,s 28,s 29,s 30,s 31,s 32]
theorem dgT_of{A:Array Value}(h:A.size=33):∃s,A=dgT s:=by
 obtain⟨s,hs,_⟩:=arr_lit A h
 exact⟨s,hs⟩
theorem dg_0{sv:Value}{ob db ib av:Nat}{oa:Option Addr}{ol oc:Nat}(c1:w.cell? ⟨ob,0,none⟩=some (.slice oa ol oc))(z1:w.frozen? ⟨ob,0,none⟩=false){cs:List Frame}{main:Bool}{Stop:Goroutine→World→Prop}
 (h:∀A,Slots 33 A [(0,sv),(1,.pointer (some ⟨ob,0,none⟩)),(2,.pointer (some ⟨db,0,none⟩)),(3,.pointer (some ⟨ib,0,none⟩)),(4,.pointer (some ⟨av,0,none⟩)),(9,.slice oa ol oc),(10,.int .i64 ol),(11,.int .i64 (0:Nat))]→Own Try.prog main F Stop (G ((Go.Conc.base 99).at ⟨A,[]⟩ [.code dgs2,.inLoop dgs2,.inBlock 0]) cs) w):
 Own Try.prog main F Stop (G (Frame.enter Try.prog 99 #[sv,.pointer (some ⟨ob,0,none⟩),.pointer (some ⟨db,0,none⟩),.pointer (some ⟨ib,0,none⟩),.pointer (some ⟨av,0,none⟩)] .normal) cs) w:=by
 rw[enter_dg]
 walk_nrm
 refine ogSR dgs0' dgr0' ?_
 simp only[dgr0,dgBody,Try.f99,zz,Nat.reduceAdd]
 (refine oW fun dd K hK=>?_;go_simp;refine qL hK ?_;clear hK K)
 iterate 2 (refine oW fun dd K hK=>?_;go_simp;refine qT hK ?_;clear hK K)
 refine ogE ?_
 rw[dgb0']
 refine ogB ?_
 rw[dgl1']
 refine ogP ?_
 refine h _ ?_
 exact⟨rfl,rfl,rfl,rfl,rfl,rfl,rfl,rfl,rfl,trivial⟩
theorem dg_3{sv:Value}{ob db ib av:Nat}{oa:Option Addr}{ol oc:Nat}{A:Array Value}(hA:Slots 33 A [(0,sv),(1,.pointer (some ⟨ob,0,none⟩)),(2,.pointer (some ⟨db,0,none⟩)),(3,.pointer (some ⟨ib,0,none⟩)),(4,.pointer (some ⟨av,0,none⟩)),(9,.slice oa ol oc),(10,.int .i64 ol),(11,.int .i64 ol)]){c:Frame}{cs:List Frame}{main:Bool}{Stop:Goroutine→World→Prop}
 (h:Own Try.prog main F Stop (G (c.finish (.tuple #[])) cs) w):
 Own Try.prog main F Stop (G ((Go.Conc.base 99).at ⟨A,[]⟩ [.code dgs2,.inLoop dgs2,.inBlock 0]) (c::cs)) w:=by
 obtain⟨hsz,h0,h1,h2,h3,h4,h9,h10,h11,_⟩:=hA
 obtain⟨s,rfl⟩:=dgT_of hsz
 change s 0=_ at h0
 change s 1=_ at h1
 change s 2=_ at h2
 change s 3=_ at h3
 change s 4=_ at h4
 change s 9=_ at h9
 change s 10=_ at h10
 change s 11=_ at h11
 clear hsz
 simp only[dgT,h0,h1,h2,h3,h4,h9,h10,h11]
 clear h0 h1 h2 h3 h4 h9 h10 h11
 have hlt:decide ((ol:Int)<(ol:Int))=false:=by simp
 refine ogSR dgs2' dgr1' ?_
 simp only[dgr1,dgBody,Try.f99,zz,Nat.reduceAdd]
 (refine oW fun dd K hK=>?_;go_simp;refine qT hK ?_;clear hK K)
 refine ogE ?_
 refine ogSE dgs3' ?_
 rw[dgc12']
 refine ogF ?_
 simp only[Bool.false_eq_true,if_false]
 refine own_go rfl (fun d=>stepG_exit rfl) ?_
 refine own_go rfl (fun d=>stepG_end) ?_
 refine own_go rfl (fun d=>stepG_leave (fn:=Try.f99) (v:=.tuple #[]) rfl rfl Try.func99 (by simp[results,Try.f99]) (by simp[results,Try.f99,go_sem])) ?_
 exact h
theorem dg_1{n:Nat}(hU:Under F n)(hn:n≤w.heap.size){sv:Value}{ob db ib av:Nat}{opb oo ol oc k df:Nat}{i:Nat}{kd a b c0:Int}{first capt:Array Value}(hdf:Callable df)(hkl:k<ol)(hol:ol≤65536)(cd:w.cell? ⟨db,0,none⟩=some (.func (.func df) first capt))(zd:w.frozen? ⟨db,0,none⟩=false)(ci:w.cell? ⟨ib,0,none⟩=some (.int .i64 i))(zi:w.frozen? ⟨ib,0,none⟩=false)(ld:db<w.heap.size)(li:ib<w.heap.size)(f0:w.cell? ⟨opb,oo+k*4,none⟩=some (.int .i64 kd))(f1:w.cell? ⟨opb,oo+k*4+1,none⟩=some (.int .i64 a))(f2:w.cell? ⟨opb,oo+k*4+2,none⟩=some (.int .i64 b))(f3:w.cell? ⟨opb,oo+k*4+3,none⟩=some (.int .i64 c0))(g0:w.frozen? ⟨opb,oo+k*4,none⟩=false)(g1:w.frozen? ⟨opb,oo+k*4+1,none⟩=false)(g2:w.frozen? ⟨opb,oo+k*4+2,none⟩=false)(g3:w.frozen? ⟨opb,oo+k*4+3,none⟩=false){A:Array Value}(hA:Slots 33 A [(0,sv),(1,.pointer (some ⟨ob,0,none⟩)),(2,.pointer (some ⟨db,0,none⟩)),(3,.pointer (some ⟨ib,0,none⟩)),(4,.pointer (some ⟨av,0,none⟩)),(9,.slice (some ⟨opb,oo,none⟩) ol oc),(10,.int .i64 ol),(11,.int .i64 k)]){cs:List Frame}{main:Bool}{Stop:Goroutine→World→Prop}
 (h:∀A,Slots 33 A [(0,sv),(1,.pointer (some ⟨ob,0,none⟩)),(2,.pointer (some ⟨db,0,none⟩)),(3,.pointer (some ⟨ib,0,none⟩)),(4,.pointer (some ⟨av,0,none⟩)),(7,.pointer (some ⟨w.heap.size,0,none⟩)),(8,.pointer (some ⟨w.heap.size+1,0,none⟩)),(9,.slice (some ⟨opb,oo,none⟩) ol oc),(10,.int .i64 ol),(11,.int .i64 k)]→Own Try.prog main F Stop (G (Frame.enter Try.prog df (first++ #[sv,.int .i64 i,.agg #[.int .i64 kd,.int .i64 a,.int .i64 b,.int .i64 c0]]++capt) .normal) (((Go.Conc.base 99).at ⟨A,[]⟩ [.inRegion (oC dgr5) [4,5],.code dgr6,.inBlock 1,.code dgr7,.inLoop dgs2,.inBlock 0])::cs)) ((w.alloc (.cells #[.int .i64 kd,.int .i64 a,.int .i64 b,.int .i64 c0] 47)).alloc (.cells #[.bool false,.int .i64 0,.slice none 0 0] 44))):
 Own Try.prog main F Stop (G ((Go.Conc.base 99).at ⟨A,[]⟩ [.code dgs2,.inLoop dgs2,.inBlock 0]) cs) w:=by
 obtain⟨hsz,h0,h1,h2,h3,h4,h9,h10,h11,_⟩:=hA
 obtain⟨s,rfl⟩:=dgT_of hsz
 change s 0=_ at h0
 change s 1=_ at h1
 change s 2=_ at h2
 change s 3=_ at h3
 change s 4=_ at h4
 change s 9=_ at h9
 change s 10=_ at h10
 change s 11=_ at h11
 clear hsz
 simp only[dgT,h0,h1,h2,h3,h4,h9,h10,h11]
 clear h0 h1 h2 h3 h4 h9 h10 h11
 have hlt:decide ((k:Int)<(ol:Int))=true:=by simp;omega
 have hlt2:decide (k<ol)=true:=by simp;omega
 refine ogSR dgs2' dgr1' ?_
 simp only[dgr1,dgBody,Try.f99,zz,Nat.reduceAdd]
 (refine oW fun dd K hK=>?_;go_simp;refine qT hK ?_;clear hK K)
 refine ogE ?_
 refine ogSE dgs3' ?_
 rw[dgc12']
 refine ogT ?_
 simp only[if_true]
 refine ogK ?_
 refine ogSE dgs4' ?_
 rw[dgb1']
 refine ogB ?_
 refine ogSR dgs5' dgr2' ?_
 simp only[dgr2,dgBody,Try.f99,zz,Nat.reduceAdd]
 (refine oW fun dd K hK=>?_;go_simp;refine qX hK ?_;clear hK K)
 (refine oW fun dd K hK=>?_;go_simp;refine hK _ _ ⟨⟨⟨0,Grew.refl _ _⟩,fun e he=>by(have hm:=mem_listed he;clear he hK;simp[go_sem,f0,f1,f2,f3,g0,g1,g2,g3]at hm;rcases hm with rfl|rfl|rfl|rfl<;>exact evT_read _ _)⟩,Own.at ?_ dd⟩;clear hK K)
 (refine oW fun dd K hK=>?_;go_simp;refine qA hK hU ?_;clear hK K)
 (refine oW fun dd K hK=>?_;go_simp;refine hK _ _ ⟨⟨⟨0,grew4 (fun k=>not_held hU (show n≤w.heap.size by omega)) _ _ _ _⟩,fun e he=>by(have hm:=mem_listed he;clear he hK;simp[go_sem,storedEv]at hm;rcases hm with rfl|rfl|rfl|rfl<;>exact evT_write _ _ ((fun k=>not_held hU (show n≤w.heap.size by omega)) _))⟩,?_⟩;clear hK K;simp only[setCell_at'];refine Own.at ?_ dd)
 have e1:=opW_new w (.int .i64 0) (.int .i64 0) (.int .i64 0) (.int .i64 0) (.int .i64 kd) (.int .i64 a) (.int .i64 b) (.int .i64 c0)
 rw[e1]
 clear e1
 refine ogE ?_
 refine ogSR dgs6' dgr3' ?_
 simp only[dgr3,dgBody,Try.f99,zz,Nat.reduceAdd]
 (refine oW fun dd K hK=>?_;go_simp;refine qA hK hU ?_;clear hK K)
 refine ogE ?_
 refine ogSE dgs7' ?_
 refine ogSR dgs8' dgr4' ?_
 simp only[dgr4,dgBody,Try.f99,zz,Nat.reduceAdd]
 (refine oW fun dd K hK=>?_;go_simp;refine qL hK ?_;clear hK K)
 (refine oW fun dd K hK=>?_;go_simp;refine qT hK ?_;clear hK K)
 refine ogE ?_
 rw[dgc16']
 refine ogT ?_
 simp only[if_true]
 rw[dgr5']
 refine ogR ?_
 simp only[dgr5,dgBody,Try.f99,zz,Nat.reduceAdd]
 (refine oW fun dd K hK=>?_;go_simp;refine qL hK ?_;clear hK K)
 (refine oW fun dd K hK=>?_;go_simp;refine qT hK ?_;clear hK K)
 (refine oW fun dd K hK=>?_;go_simp;refine qL hK ?_;clear hK K)
 (refine oW fun dd K hK=>?_;go_simp;refine hK _ _ ⟨⟨⟨0,Grew.refl _ _⟩,fun e he=>by(have hm:=mem_listed he;clear he hK;simp[go_sem]at hm;rcases hm with rfl|rfl|rfl|rfl<;>exact evT_read _ _)⟩,Own.at ?_ dd⟩;clear hK K)
 refine own_call (f:=df) (args:=first++ #[sv,.int .i64 i,.agg #[.int .i64 kd,.int .i64 a,.int .i64 b,.int .i64 c0]]++capt) rfl rfl (by decide) (fun w=>by simp[execOp,Act.eval,resolve,invoke,Deferred.ofValue,hdf.run]) (fun w=>by simp[execOp,Act.eval,resolve,invoke,Deferred.ofValue,hdf.run,hdf.quiet]) ?_
 refine h _ ?_
 exact⟨rfl,rfl,rfl,rfl,rfl,rfl,rfl,rfl,rfl,rfl,rfl,trivial⟩
end
section
variable{F:Fz}{w w':World}
theorem info44:∃i,Try.prog.info? 44=some i∧i.zero=some (.agg #[.bool false,.int .i64 0,.slice none 0 0])∧i.size=3∧i.bytes=40:=by
 have h:(Try.prog.info? 44).map (fun i=>(i.size,i.bytes))=some (3,40):=by kernel_rfl
 have h0:(Try.prog.info? 44).bind (·.zero)=some (.agg #[.bool false,.int .i64 0,.slice none 0 0]):=by kernel_rfl
 obtain⟨i,hi,h1⟩:=Option.map_eq_some_iff.1 h
 rw[hi]at h0
 simp only[Prod.mk.injEq]at h1
 exact⟨i,hi,h0,h1.1,h1.2⟩
theorem cell_three_new(w:World)(x y z:Value)(t:TypeId):∀j u,[x,y,z][j]? =some u→(w.alloc (.cells #[x,y,z] t)).cell? ((⟨w.heap.size,0,none⟩:Addr).add j)=some u:=by
 intro j u h
 have hb:=heap_alloc_new w (.cells #[x,y,z] t)
 have e:(⟨w.heap.size,0,none⟩:Addr).add j=⟨w.heap.size,j,none⟩:=by cases j<;>simp[Addr.add]
 rw[e]
 unfold World.cell?
 simp only
 rw[hb]
 simpa using h
theorem mask_same{j r:Nat}(hg:Grew F w w' j)(h:(mask F w').heap[r]? =(mask F w).heap[r]?)(hr:r<w.heap.size):w'.heap[r]? =w.heap[r]?:=by
 rw[mask_get,mask_get]at h
 obtain⟨o,ho⟩:∃o,w.heap[r]? =some o:=⟨_,Array.getElem?_eq_getElem hr⟩
 rcases hg.objs r o ho with⟨c,e,z,c',rfl,h2,_⟩|h2
 ·rw[ho,h2]at h
  simp only[Option.map_some,maskObj,Option.some.injEq,Obj.cells.injEq,and_true]at h
  rw[ho,h2,h]
 ·rw[ho,h2]
theorem own_weaken{P:Program}{main:Bool}{F2:Fz}{Stop:Goroutine→World→Prop}{g:Goroutine}(hF:∀a,held F a→held F2 a)(h:Own P main F2 Stop g w):Own P main F Stop g w:=by
 induction h with
 | stop h=>exact .stop h
 | step' hr g' w' es hs hg _ ih=>
   exact .step' hr g' w' es hs (fun d=>by
    obtain⟨⟨j,h1⟩,h2⟩:=hg d
    exact⟨⟨j,h1.tape,h1.drawn,h1.os,h1.output,h1.size,h1.objs,fun a ha=>h1.keep a (hF a ha)⟩,fun e he=>⟨fun hw=>by obtain⟨a,e1,e2⟩:=(h2 e he).1 hw;exact⟨a,e1,fun x=>e2 (hF a x)⟩,(h2 e he).2⟩⟩) ih
structure SG(F:Fz)(av ib aa ab n i:Nat)(v x y z:Value)(u:World):Prop where
 wf:Wf F u
 la0:Lies u ⟨av,0,none⟩ (.slice (some ⟨aa,0,none⟩) n n)
 li0:Lies u ⟨ib,0,none⟩ (.int .i64 i)
 arr:∃c,u.heap[aa]? =some (.cells c 42 (0,0))∧c[i]? =some v
 an:u.heap[ab]? =some (.cells #[x,y,z] 44 (0,0))
section
variable{av ib aa ab n i:Nat}{v x y z:Value}{u:World}
theorem SG.at(h:SG F av ib aa ab n i v x y z u)(d:Nat):SG F av ib aa ab n i v x y z (u.at d):=⟨⟨h.wf.own⟩,h.la0.at d,h.li0.at d,h.arr,h.an⟩
theorem SG.la(h:SG F av ib aa ab n i v x y z u):Lies u ⟨aa,i,none⟩ v:=by obtain⟨c,h1,h2⟩:=h.arr;exact⟨⟨c,_,h1,h2⟩,rfl⟩
theorem SG.alloc{nn:Nat}(hU:Under F nn)(ht:nn≤u.heap.size)(h:SG F av ib aa ab n i v x y z u)(o:Obj):SG F av ib aa ab n i v x y z (u.alloc o):=
 ⟨h.wf.of_grew (grew_alloc hU ht o),h.la0.alloc o,h.li0.alloc o,by obtain⟨c,h1,h2⟩:=h.arr;exact⟨c,(heap_alloc_lt _ _ (alt h1)).trans h1,h2⟩,(heap_alloc_lt _ _ (Array.getElem?_eq_some_iff.1 h.an).1).trans h.an⟩
theorem SG.ca(h:SG F av ib aa ab n i v x y z u):u.cell? ⟨av,0,none⟩=some (.slice (some ⟨aa,0,none⟩) n n):=h.la0.c
theorem SG.za(h:SG F av ib aa ab n i v x y z u):u.frozen? ⟨av,0,none⟩=false:=h.la0.z
theorem SG.ci(h:SG F av ib aa ab n i v x y z u):u.cell? ⟨ib,0,none⟩=some (.int .i64 i):=h.li0.c
theorem SG.zi(h:SG F av ib aa ab n i v x y z u):u.frozen? ⟨ib,0,none⟩=false:=h.li0.z
theorem SG.cl(h:SG F av ib aa ab n i v x y z u):u.cell? ⟨aa,i,none⟩=some v:=h.la.c
theorem SG.zl(h:SG F av ib aa ab n i v x y z u):u.frozen? ⟨aa,i,none⟩=false:=h.la.z
theorem SG.c0(h:SG F av ib aa ab n i v x y z u):u.cell? ⟨ab,0,none⟩=some x:=by simp[World.cell?,h.an]
theorem SG.c1(h:SG F av ib aa ab n i v x y z u):u.cell? ⟨ab,1,none⟩=some y:=by simp[World.cell?,h.an]
theorem SG.c2(h:SG F av ib aa ab n i v x y z u):u.cell? ⟨ab,2,none⟩=some z:=by simp[World.cell?,h.an]
theorem SG.zz(h:SG F av ib aa ab n i v x y z u)(k:Nat):u.frozen? ⟨ab,k,none⟩=false:=by simp[World.frozen?,h.an]
end
structure NotedA(F:Fz)(aa ab i m:Nat)(v x y z:Value)(xs:List Value)(w w':World)(v':Value):Prop where
 wf:Wf F w'
 row:w'.ownsRow 0 44 3 v' (m+1) (xs++[x,y,z])
 arr:∀c,w.heap[aa]? =some (.cells c 42 (0,0))→w'.heap[aa]? =some (.cells (c.setIfInBounds i v') 42 (0,0))
 size:w.heap.size≤w'.heap.size
 own:∀b,Value.ownBlock v'=some b→some b=Value.ownBlock v∨w.heap.size≤b
 old:∀r,r<w.heap.size→r≠aa→some r≠Value.ownBlock v→w'.heap[r]? =w.heap[r]?
theorem dg_2a{sv:Value}{ansb:Bool}{ansn:Int}{la:Option Addr}{ll lc:Nat}{ob db ib av ab k:Nat}{oa:Option Addr}{ol oc:Nat}(ha:Ans w ab)(hnh:∀k,¬held F ⟨ab,k,none⟩){A:Array Value}(hA:Slots 33 A [(0,sv),(1,.pointer (some ⟨ob,0,none⟩)),(2,.pointer (some ⟨db,0,none⟩)),(3,.pointer (some ⟨ib,0,none⟩)),(4,.pointer (some ⟨av,0,none⟩)),(8,.pointer (some ⟨ab,0,none⟩)),(9,.slice oa ol oc),(10,.int .i64 ol),(11,.int .i64 k)]){cs:List Frame}{main:Bool}{Stop:Goroutine→World→Prop}
 (h:∀A,Slots 33 A [(0,sv),(1,.pointer (some ⟨ob,0,none⟩)),(2,.pointer (some ⟨db,0,none⟩)),(3,.pointer (some ⟨ib,0,none⟩)),(4,.pointer (some ⟨av,0,none⟩)),(8,.pointer (some ⟨ab,0,none⟩)),(9,.slice oa ol oc),(10,.int .i64 ol),(11,.int .i64 k)]→Own Try.prog main F Stop (G ((Go.Conc.base 99).at ⟨A,[]⟩ [.code dgr6,.inBlock 1,.code dgr7,.inLoop dgs2,.inBlock 0]) cs) (((w.setCell ⟨ab,0,none⟩ (.bool ansb)).setCell ⟨ab,1,none⟩ (.int .i64 ansn)).setCell ⟨ab,2,none⟩ (.slice la ll lc))):
 Own Try.prog main F Stop (G (((Go.Conc.base 99).at ⟨A,[]⟩ [.inRegion (oC dgr5) [4,5],.code dgr6,.inBlock 1,.code dgr7,.inLoop dgs2,.inBlock 0]).finish (.agg #[.bool ansb,.int .i64 ansn,.slice la ll lc])) cs) w:=by
 obtain⟨hsz,h0,h1,h2,h3,h4,h8,h9,h10,h11,_⟩:=hA
 obtain⟨s,rfl⟩:=dgT_of hsz
 change s 0=_ at h0
 change s 1=_ at h1
 change s 2=_ at h2
 change s 3=_ at h3
 change s 4=_ at h4
 change s 8=_ at h8
 change s 9=_ at h9
 change s 10=_ at h10
 change s 11=_ at h11
 clear hsz
 simp only[dgT,h0,h1,h2,h3,h4,h8,h9,h10,h11]
 clear h0 h1 h2 h3 h4 h8 h9 h10 h11
 obtain⟨x0,x1,x2,c0,c1,c2⟩:=ha.c
 have z0:=ha.z 0
 have z1:=ha.z 1
 have z2:=ha.z 2
 rw[Frame.finish_at]
 simp only[dgr5,dgBody,Try.f99,zz,Nat.reduceAdd]
 walk_nrm
 (refine oW fun dd K hK=>?_;go_simp;refine hK _ _ ⟨⟨⟨0,grew3 hnh _ _ _⟩,fun e he=>by(have hm:=mem_listed he;clear he hK;simp[go_sem,storedEv,c0,c1,c2,z0,z1,z2]at hm;rcases hm with rfl|rfl|rfl<;>exact evT_write _ _ (hnh _))⟩,?_⟩;clear hK K;simp only[setCell_at'];refine Own.at ?_ dd)
 refine ogE ?_
 refine h _ ?_
 exact⟨rfl,rfl,rfl,rfl,rfl,rfl,rfl,rfl,rfl,rfl,trivial⟩
theorem dg_2b{nn:Nat}(hU:Under F nn)(htop:nn≤w.heap.size){sv x y z v:Value}{xs:List Value}(hx:x.oneCell'=true∧y.oneCell'=true∧z.oneCell'=true){ob db ib av aa ab n i k m:Nat}{oa:Option Addr}{ol oc:Nat}(hin:i<n)(hm:m<65536)
 (hs:SG F av ib aa ab n i v x y z w) (hrow:w.ownsRow 0 44 3 v m xs) (hFa:F aa=none) (hFv:∀b,Value.ownBlock v=some b→F b=none) (hne:some aa≠Value.ownBlock v∧some ab≠Value.ownBlock v∧some av≠Value.ownBlock v∧some ib≠Value.ownBlock v) (hall:∀r c e z0,w.heap[r]? =some (.cells c e z0)→r≠aa→some r≠Value.ownBlock v→0<c.size→∃z,F r=some z∧z≠(0,0)) {A:Array Value} (hA:Slots 33 A [(0,sv),(1,.pointer (some ⟨ob,0,none⟩)),(2,.pointer (some ⟨db,0,none⟩)),(3,.pointer (some ⟨ib,0,none⟩)),(4,.pointer (some ⟨av,0,none⟩)),(8,.pointer (some ⟨ab,0,none⟩)),(9,.slice oa ol oc),(10,.int .i64 ol),(11,.int .i64 k)]) {cs:List Frame} {main:Bool} {Stop:Goroutine→World→Prop} {kk:List Item}
 (h:∀(w':World) (v':Value) (A:Array Value),NotedA F aa ab i m v x y z xs w w' v'→Slots 33 A [(0,sv),(1,.pointer (some ⟨ob,0,none⟩)),(2,.pointer (some ⟨db,0,none⟩)),(3,.pointer (some ⟨ib,0,none⟩)),(4,.pointer (some ⟨av,0,none⟩)),(8,.pointer (some ⟨ab,0,none⟩)),(9,.slice oa ol oc),(10,.int .i64 ol),(11,.int .i64 k)]→Own Try.prog main F Stop (G ((Go.Conc.base 99).at ⟨A,[]⟩ kk) cs) w'):
 Own Try.prog main F Stop (G ((Go.Conc.base 99).at ⟨A,[]⟩ (.code dgr6::kk)) cs) w:=by
 obtain⟨hsz,h0,h1,h2,h3,h4,h8,h9,h10,h11,_⟩:=hA
 obtain⟨s,rfl⟩:=dgT_of hsz
 change s 0=_ at h0
 change s 1=_ at h1
 change s 2=_ at h2
 change s 3=_ at h3
 change s 4=_ at h4
 change s 8=_ at h8
 change s 9=_ at h9
 change s 10=_ at h10
 change s 11=_ at h11
 clear hsz
 simp only[dgT,h0,h1,h2,h3,h4,h8,h9,h10,h11]
 clear h0 h1 h2 h3 h4 h8 h9 h10 h11
 have hS:∀u d,SG F av ib aa ab n i v x y z u→SG F av ib aa ab n i v x y z (World.at u d):=fun u d h=>h.at d
 rw[dgr6']
 refine own_drawnM (SG F av ib aa ab n i v x y z) (last:=10) run_mixed (ll_of (by kernel_rfl)) (by decide) ?_
 simp only[dgr6,dgBody,Try.f99,zz,Nat.reduceAdd]
 have hZ:∀a u d,Own Try.prog main F Stop (G ((Go.Conc.base 99).at a (.inRegion (oC dgr6) [10]::kk)) cs) u→Own Try.prog main F Stop (G ((Go.Conc.base 99).at a (.inRegion (oC dgr6) [10]::kk)) cs) (World.at u d):=fun a u d h=>h.at d
 simp only[dgr6,dgBody,Try.f99,zz,Nat.reduceAdd]at hZ
 refine anyM_take hS hZ (i:=0) (v:=.slice (some ⟨aa,0,none⟩) n n) hs rfl rfl (by kernel_rfl) (by kernel_rfl) (by kernel_rfl) (fun u hu=>.inl ⟨rfl,fun d=>⟨by simp[go_sem,execOp,Act.eval,hu.ca,hu.za],fun e he=>by have hm:=mem_listed he;simp[go_sem,execOp,Act.eval,hu.ca,hu.za]at hm;subst hm;exact evT_read _ _⟩⟩) ?_
 walk_nrm
 refine anyM_take hS hZ (i:=1) (v:=.int .i64 i) hs rfl rfl (by kernel_rfl) (by kernel_rfl) (by kernel_rfl) (fun u hu=>.inl ⟨rfl,fun d=>⟨by simp[go_sem,execOp,Act.eval,hu.ci,hu.zi],fun e he=>by have hm:=mem_listed he;simp[go_sem,execOp,Act.eval,hu.ci,hu.zi]at hm;subst hm;exact evT_read _ _⟩⟩) ?_
 walk_nrm
 refine anyM_take hS hZ (i:=2) (v:=.slice (some ⟨aa,0,none⟩) n n) hs rfl rfl (by kernel_rfl) (by kernel_rfl) (by kernel_rfl) (fun u hu=>.inl ⟨rfl,fun d=>⟨by simp[go_sem,execOp,Act.eval,hu.ca,hu.za],fun e he=>by have hm:=mem_listed he;simp[go_sem,execOp,Act.eval,hu.ca,hu.za]at hm;subst hm;exact evT_read _ _⟩⟩) ?_
 walk_nrm
 refine anyM_take hS hZ (i:=3) (v:=.int .i64 i) hs rfl rfl (by kernel_rfl) (by kernel_rfl) (by kernel_rfl) (fun u hu=>.inl ⟨rfl,fun d=>⟨by simp[go_sem,execOp,Act.eval,hu.ci,hu.zi],fun e he=>by have hm:=mem_listed he;simp[go_sem,execOp,Act.eval,hu.ci,hu.zi]at hm;subst hm;exact evT_read _ _⟩⟩) ?_
 walk_nrm
 refine anyM_take hS hZ (i:=4) (v:=.pointer (some ⟨aa,i,none⟩)) hs rfl rfl (by kernel_rfl) (by kernel_rfl) (by kernel_rfl) (fun u hu=>.inl ⟨rfl,fun d=>⟨by simp[go_sem,execOp,Act.eval,hin],fun e he=>by have hm:=mem_listed he;simp[go_sem,execOp,Act.eval,hin]at hm⟩⟩) ?_
 walk_nrm
 refine anyM_take hS hZ (i:=5) (v:=v) hs rfl rfl (by kernel_rfl) (by kernel_rfl) (by kernel_rfl) (fun u hu=>.inl ⟨rfl,fun d=>⟨by simp[go_sem,execOp,Act.eval,hu.cl,hu.zl],fun e he=>by have hm:=mem_listed he;simp[go_sem,execOp,Act.eval,hu.cl,hu.zl]at hm;subst hm;exact evT_read _ _⟩⟩) ?_
 walk_nrm
 refine anyM_take hS hZ (i:=6) (v:=.agg #[x,y,z]) hs rfl rfl (by kernel_rfl) (by kernel_rfl) (by kernel_rfl) (fun u hu=>.inl ⟨rfl,fun d=>⟨by simp[go_sem,execOp,Act.eval,hu.c0,hu.c1,hu.c2,hu.zz],fun e he=>by have hm:=mem_listed he;simp[go_sem,execOp,Act.eval,hu.c0,hu.c1,hu.c2,hu.zz]at hm;rcases hm with rfl|rfl|rfl<;>exact evT_read _ _⟩⟩) ?_
 walk_nrm
 refine anyM_all (r:=[7]) (by kernel_rfl) (by kernel_rfl) (fun i hi hil=>?_)
 simp only[List.mem_cons,List.not_mem_nil,or_false]at hi
 subst hi
 refine opm_k rfl rfl (fun d K' hK'=>?_)
 go_simp
 refine hK' _ _ ⟨⟨⟨0,grew_alloc hU (show nn≤(w.at d).heap.size from htop) _⟩,fun e he=>by(have hm:=mem_listed he;simp[go_sem]at hm)⟩,(hs.at d).alloc hU (show nn≤(w.at d).heap.size from htop) _,?_⟩
 clear hK' K'
 rw[alloc_at']
 refine anyM_at hS hZ _ _ _ _ ?_ d
 have hn4:=cell_three_new w x y z 44
 have hb4:=heap_alloc_new w (.cells #[x,y,z] 44)
 have hW4:∀r,r<w.heap.size→(w.alloc (.cells #[x,y,z] 44)).heap[r]? =w.heap[r]?:=fun r hr=>heap_alloc_lt _ _ hr
 have hsz4:(w.alloc (.cells #[x,y,z] 44)).heap.size=w.heap.size+1:=by simp
 replace hs:=hs.alloc hU htop (.cells #[x,y,z] 44)
 generalize w.alloc (.cells #[x,y,z] 44)=W4 at*
 refine anyM_all (r:=[8]) (by kernel_rfl) (by kernel_rfl) (fun i hi hil=>?_)
 simp only[List.mem_cons,List.not_mem_nil,or_false]at hi
 subst hi
 obtain⟨i0,hi0,hz0,hz1,hz2⟩:=info44
 have hFn:∀b,nn≤b→F b=none:=fun b hb=>by
  cases e:F b with
  | none=>rfl
  | some z=>exact absurd (hU b z e) (by omega)
 have hvlt:∀b,Value.ownBlock v=some b→b<w.heap.size:=fun b hb=>(hrow.lt b hb).2
 refine opm_lift (S':=fun _=>false) (px:=false) (ready0.shut false) (by simp) rfl rfl rfl hs.wf (fun d=>?_)
 have hrowm:(mask F (W4.at d)).ownsRow 0 44 3 v m xs:=ownsRow_same2 hrow fun b hb hbn=>by
  rw[mask_at_none (hFv b hb)]
  exact hW4 b (hvlt b hb)
 obtain⟨v',u,hr,hown,hgrow,_⟩:=run_append_own (P:=Try.prog) (mask F (W4.at d)) 0 42 42 44 i0 _ 3 40 Try.underlying42 hi0 hz0 hz1 hz2 rfl (by decide) v m xs hrowm ⟨w.heap.size,0,none⟩ 1 1 [x,y,z] rfl
  (fun j u hu=>(mask_at_cell _).trans (hn4 j u hu)) (fun q hq=>by simp at hq;rcases hq with rfl|rfl|rfl;exact hx.1;exact hx.2.1;exact hx.2.2) (by unfold maxLen;omega) (by omega) (Nat.zero_le _)
 refine⟨v',u,run_append_op (.tmp 27) (.tmp 29) 42 rfl rfl rfl hr,fun w' hu hg hwf'=>?_⟩
 subst hu
 obtain⟨jj,hgr⟩:=hg
 have hkeep:∀r,r<w.heap.size+1→some r≠Value.ownBlock v→w'.heap[r]? =W4.heap[r]?:=fun r h2 h3=>by
  have:=hgrow.block r (by rw[mask_size];show r<W4.heap.size;omega) h3
  have hlt:r<(W4.at d).heap.size:=show r<W4.heap.size by omega
  exact mask_same (w:=W4.at d) hgr this hlt
 have hsize:w.heap.size+1≤w'.heap.size:=by
  have:=hgrow.size
  rw[mask_size,mask_size]at this
  have h2:(W4.at d).heap.size=w.heap.size+1:=hsz4
  omega
 have hlav:=hs.la0.lt
 have hlib:=hs.li0.lt
 simp only at hlav hlib
 obtain⟨ca,har1,har2⟩:=hs.arr
 have hlaa:=(alt har1)
 have hlab:=(Array.getElem?_eq_some_iff.1 hs.an).1
 have hs':SG F av ib aa ab n i v x y z w':=⟨hwf',hs.la0.same (hkeep av (by omega) hne.2.2.1),hs.li0.same (hkeep ib (by omega) hne.2.2.2),⟨ca,(hkeep aa (by omega) hne.1).trans har1,har2⟩,(hkeep ab (by omega) hne.2.1).trans hs.an⟩
 obtain⟨b1,cap1,cur1,rfl,hb1,hb2⟩:=slice_form2 hown
 have hcur:0<cur1.size:=by
  rcases hown.2 with⟨_,h0⟩|⟨g3,cap3,cur3,h0,_,h3,h4,_,h5,_⟩
  ·omega
  ·cases h0
   rw[hb2]at h3
   cases h3
   omega
 have hb3:F b1=none∧w'.heap[b1]? =some (.cells cur1 44 (0,0))∧(some b1=Value.ownBlock v∨w.heap.size≤b1):=by
  by_cases hlt:b1<w.heap.size
  ·by_cases hv:some b1=Value.ownBlock v
   ·have hf:=hFv b1 hv.symm
    exact⟨hf,by rw[mask_at_none hf]at hb2;exact hb2,.inl hv⟩
   ·exfalso
    have hk:=(hkeep b1 (by omega) hv).trans (hW4 b1 hlt)
    rw[mask_get]at hb2
    obtain⟨o,ho⟩:∃o,w.heap[b1]? =some o:=⟨_,Array.getElem?_eq_getElem hlt⟩
    rw[hk,ho]at hb2
    cases o with
    | cells c e z0=>
      simp only[Option.map_some,maskObj,Option.some.injEq,Obj.cells.injEq]at hb2
      obtain⟨rfl,rfl,hz⟩:=hb2
      by_cases ha:b1=aa
      ·subst ha
       have h1:=(hW4 b1 hlt).symm.trans har1
       rw[ho]at h1
       simp only[Option.some.injEq,Obj.cells.injEq]at h1
       exact absurd h1.2.1 (by decide)
      ·obtain⟨z,hz1,hz2⟩:=hall b1 _ _ _ ho ha hv hcur
       rw[hz1]at hz
       exact hz2 hz
    | _=>simp[maskObj]at hb2
  ·have hf:=hFn b1 (by omega)
   exact⟨hf,by rw[mask_at_none hf]at hb2;exact hb2,.inr (by omega)⟩
 obtain⟨hfb,hb3,hb4⟩:=hb3
 have hrow':w'.ownsRow 0 44 3 (.slice (some ⟨b1,0,none⟩) (m+1) cap1) (m+1) (xs++[x,y,z]):=ownsRow_same2 hown fun b hb hbn=>by
  simp only[Value.ownBlock,Option.some.injEq]at hb
  subst hb
  exact(mask_at_none hfb).symm
 have nb1:b1≠aa:=by
  rintro rfl
  have h1:=(hkeep b1 (by omega) hne.1).trans har1
  rw[hb3]at h1
  simp only[Option.some.injEq,Obj.cells.injEq]at h1
  exact absurd h1.2.1 (by decide)
 refine⟨hs',?_⟩
 clear hs
 have hs:=hs'
 walk_nrm
 refine anyM_take hS hZ (i:=9) (v:=.pointer (some ⟨aa,i,none⟩)) hs rfl rfl (by kernel_rfl) (by kernel_rfl) (by kernel_rfl) (fun u hu=>.inl ⟨rfl,fun d=>⟨by simp[go_sem,execOp,Act.eval,hin],fun e he=>by have hm:=mem_listed he;simp[go_sem,execOp,Act.eval,hin]at hm⟩⟩) ?_
 walk_nrm
 refine anyM_end (by kernel_rfl) ?_ _
 have cl:=hs'.cl
 have zl:=hs'.zl
 have hnh:¬held F ⟨aa,i,none⟩:=not_held' hFa
 clear hZ hS hr hown hgrow hrowm hall
 (refine oW fun dd K hK=>?_;go_simp;refine hK _ _ ⟨⟨⟨0,grew_setCell rfl hnh _⟩,fun e he=>by(have hm:=mem_listed he;clear he hK;simp[go_sem,storedEv,cl,zl]at hm;subst hm;exact evT_write _ _ hnh)⟩,?_⟩;clear hK K;rw[setCell_at'];refine Own.at ?_ dd)
 refine ogE ?_
 refine h _ (.slice (some ⟨b1,0,none⟩) (m+1) cap1) _ ?_ ⟨rfl,rfl,rfl,rfl,rfl,rfl,rfl,rfl,rfl,rfl,trivial⟩
 refine⟨hwf'.of_grew (grew_setCell rfl hnh _),ownsRow_same2 hrow' fun b hb _=>heap_setCell_ne _ _ _ (by simp only[Value.ownBlock,Option.some.injEq]at hb;subst hb;exact nb1),fun c hc=>?_,by simp;omega,fun b hb=>by simp only[Value.ownBlock,Option.some.injEq]at hb;subst hb;exact hb4,fun r h1 h2 h3=>?_⟩
 ·have h1:=(hkeep aa (by omega) hne.1).trans (hW4 aa (alt hc))
  rw[hc]at h1
  simp[World.setCell,Array.getElem?_modify,h1]
 ·rw[heap_setCell_ne _ _ _ h2,hkeep r (by omega) h3,hW4 r h1]
theorem dg_2c{sv:Value}{ob db ib av ab k:Nat}{oa:Option Addr}{ol oc:Nat}(hk:k<10000000){A:Array Value}(hA:Slots 33 A [(0,sv),(1,.pointer (some ⟨ob,0,none⟩)),(2,.pointer (some ⟨db,0,none⟩)),(3,.pointer (some ⟨ib,0,none⟩)),(4,.pointer (some ⟨av,0,none⟩)),(8,.pointer (some ⟨ab,0,none⟩)),(9,.slice oa ol oc),(10,.int .i64 ol),(11,.int .i64 k)]){cs:List Frame}{main:Bool}{Stop:Goroutine→World→Prop}
 (h:∀A,Slots 33 A [(0,sv),(1,.pointer (some ⟨ob,0,none⟩)),(2,.pointer (some ⟨db,0,none⟩)),(3,.pointer (some ⟨ib,0,none⟩)),(4,.pointer (some ⟨av,0,none⟩)),(9,.slice oa ol oc),(10,.int .i64 ol),(11,.int .i64 (k+1:Nat))]→Own Try.prog main F Stop (G ((Go.Conc.base 99).at ⟨A,[]⟩ [.code dgs2,.inLoop dgs2,.inBlock 0]) cs) w):
 Own Try.prog main F Stop (G ((Go.Conc.base 99).at ⟨A,[]⟩ [.inBlock 1,.code dgr7,.inLoop dgs2,.inBlock 0]) cs) w:=by
 obtain⟨hsz,h0,h1,h2,h3,h4,h8,h9,h10,h11,_⟩:=hA
 obtain⟨s,rfl⟩:=dgT_of hsz
 change s 0=_ at h0
 change s 1=_ at h1
 change s 2=_ at h2
 change s 3=_ at h3
 change s 4=_ at h4
 change s 8=_ at h8
 change s 9=_ at h9
 change s 10=_ at h10
 change s 11=_ at h11
 clear hsz
 simp only[dgT,h0,h1,h2,h3,h4,h8,h9,h10,h11]
 clear h0 h1 h2 h3 h4 h8 h9 h10 h11
 have hk64:IntKind.i64.wrap ((k:Int)+1)=(k:Int)+1:=IntWalk.i64_in _ (by omega)
 refine ogI ?_
 rw[dgr7']
 refine ogR ?_
 simp only[dgr7,dgBody,Try.f99,zz,Nat.reduceAdd]
 iterate 2 (refine oW fun dd K hK=>?_;go_simp;refine qT hK ?_;clear hK K)
 refine ogE ?_
 refine ogL ?_
 refine h _ ?_
 exact⟨rfl,rfl,rfl,rfl,rfl,rfl,rfl,rfl,rfl,trivial⟩
end
noncomputable section
variable{F:Fz}{w w':World}
open Classical in
def FU(F:Fz)(mine:Nat→Prop)(w:World):Fz:=fun r=>if mine r then none else match w.heap[r]? with
 | some (.cells c _ z)=>some (0,max (max c.size z.2) ((F r).getD (0,0)).2)
 | _=>none
section
variable{mine:Nat→Prop}
theorem fu_mine{r:Nat}(h:mine r):FU F mine w r=none:=if_pos h
theorem fu_cells{r:Nat}{c:Array Value}{e:TypeId}{z:Nat×Nat}(h:¬mine r)(ho:w.heap[r]? =some (.cells c e z)):FU F mine w r=some (0,max (max c.size z.2) ((F r).getD (0,0)).2):=by
 unfold FU
 rw[if_neg h,ho]
theorem fu_some{r:Nat}{z:Nat×Nat}(h:FU F mine w r=some z):¬mine r∧∃c e z0,w.heap[r]? =some (.cells c e z0)∧z=(0,max (max c.size z0.2) ((F r).getD (0,0)).2):=by
 unfold FU at h
 split at h
 ·cases h
 ·rename_i hm
  split at h
  ·rename_i c e z0 ho
   cases h
   exact⟨hm,c,e,z0,ho,rfl⟩
  ·cases h
theorem fu_wf:Wf (FU F mine w) w:=by
 constructor
 intro r z h
 obtain⟨_,c,e,z0,ho,rfl⟩:=fu_some h
 exact⟨c,e,z0,ho,fun k h1 h2=>by simp only;omega⟩
theorem fu_under:Under (FU F mine w) w.heap.size:=by
 intro r z h
 obtain⟨_,c,e,z0,ho,_⟩:=fu_some h
 exact(alt ho)
theorem fu_held(hw:Wf F w)(hm:∀r,mine r→F r=none){a:Addr}(h:held F a):held (FU F mine w) a:=by
 obtain⟨z,hz,h1,h2⟩:=h
 obtain⟨c,e,z0,ho,_⟩:=hw.own _ _ hz
 have hn:¬mine a.block:=fun h=>by rw[hm _ h]at hz;cases hz
 refine⟨_,fu_cells hn ho,Nat.zero_le _,?_⟩
 rw[hz]
 simp only[Option.getD_some]
 omega
theorem fu_same(hg:Gd (FU F mine w) w w'){r:Nat}(hm:¬mine r)(hr:r<w.heap.size):w'.heap[r]? =w.heap[r]?:=by
 obtain⟨o,ho⟩:∃o,w.heap[r]? =some o:=⟨_,Array.getElem?_eq_getElem hr⟩
 rcases hg.objs r _ ho with⟨c1,e2,z1,c',h1,h2,h3⟩|h2
 ·subst h1
  have:c'=c1:=by
   apply Array.ext h3
   intro j hj1 hj2
   have hh:held (FU F mine w) ⟨r,j,none⟩:=⟨_,fu_cells hm ho,Nat.zero_le _,by simp only;omega⟩
   have:=hg.keep _ hh
   simp only[World.cell?,h2]at this
   have e3:(w.at w'.drawn).heap[r]? =some (.cells c1 e2 z1):=ho
   rw[e3]at this
   simpa [hj1,hj2]using this
  subst this
  rw[h2,ho]
 ·rw[h2,ho]
end
structure AnsV where
 ok:Bool
 n:Int
 la:Option Addr
 ll:Nat
 lc:Nat
def AnsV.v(a:AnsV):Value:=.agg #[.bool a.ok,.int .i64 a.n,.slice a.la a.ll a.lc]
def AnsV.cells(a:AnsV):List Value:=[.bool a.ok,.int .i64 a.n,.slice a.la a.ll a.lc]
structure Lay where
 S:Type
 C:Type
 A:Type
 SU:S→World→Prop
 SR:S→Nat→Prop
 CU:C→World→Prop
 CR:C→Nat→Prop
 AV:A→AnsV
 AU:A→World→Prop
 AR:A→Nat→Prop
 cf:Nat→C→List Frame
 df:FuncId
 first:Array Value
 capt:Array Value
 beg:S→Nat→Op4→S×(C ⊕ A)→Prop
 stp:S→C→S×(C ⊕ A)→Prop
 J:Nat→S→C→Prop
def stepperV(st:Nat):Value:=.iface 173 (.pointer (some ⟨st,0,none⟩))
def Lay.Out(L:Lay)(st:Nat)(s:L.S)(R0:Nat→Prop)(Rel:L.S×(L.C ⊕ L.A)→Prop)(w:World)(cs:List Frame)(a:Goroutine)(w':World):Prop:=
 ∃s' r,Rel (s',r)∧L.SU s' w'∧(∀q,L.SR s' q→L.SR s q∨R0 q∨w.heap.size≤q)∧
  match r with
  | .inl c=>L.J st s' c∧L.CU c w'∧(∀q,L.CR c q→R0 q∨w.heap.size≤q)∧(∀q,L.CR c q→¬L.SR s' q)∧a=G (Frame.enter Try.prog 133 #[.pointer (some ⟨st,0,none⟩)] .normal) (L.cf st c++cs)
  | .inr an=>L.AU an w'∧(∀q,L.AR an q→R0 q∨w.heap.size≤q)∧(∀q,L.AR an q→¬L.SR s' q)∧a=back (L.AV an).v cs
structure Lay.Ok(L:Lay):Prop where
 call:Callable L.df
 jb:∀st s s' c i o r,L.J st s c→L.beg s i o (s',r)→L.J st s' c
 js:∀st s s' c c1 r,L.J st s c→L.stp s c1 (s',r)→L.J st s' c
 plain:∀st c,L.cf st c≠[]∧∀u∈L.cf st c,Plain u
 sS:∀s w w',L.SU s w→w.heap.size≤w'.heap.size→(∀r,L.SR s r→w'.heap[r]? =w.heap[r]?)→L.SU s w'
 sC:∀c w w',L.CU c w→w.heap.size≤w'.heap.size→(∀r,L.CR c r→w'.heap[r]? =w.heap[r]?)→L.CU c w'
 sA:∀a w w',L.AU a w→w.heap.size≤w'.heap.size→(∀r,L.AR a r→w'.heap[r]? =w.heap[r]?)→L.AU a w'
 lS:∀s w r,L.SU s w→L.SR s r→r<w.heap.size
 lC:∀c w r,L.CU c w→L.CR c r→r<w.heap.size
 lA:∀a w r,L.AU a w→L.AR a r→r<w.heap.size
 beg:∀s i o st (F:Fz) (w:World) (c:Frame) (cs:List Frame),L.SU s w→Wf F w→(∀r,L.SR s r→F r=none)→
  Own Try.prog false F (L.Out st s (fun _=>False) (L.beg s i o) w (c::cs)) (G (Frame.enter Try.prog L.df (L.first++ #[stepperV st,.int .i64 i,o.v]++L.capt) .normal) (c::cs)) w
 stp:∀s c st (F:Fz) (w:World) (b:Frame) (cs:List Frame),L.J st s c→L.SU s w→L.CU c w→(∀q,L.CR c q→¬L.SR s q)→Wf F w→(∀r,L.SR s r∨L.CR c r→F r=none)→
  Own Try.prog false F (L.Out st s (L.CR c) (L.stp s c) w (b::cs)) (back (.tuple #[]) (L.cf st c++b::cs)) w
structure Thr(L:Lay)where
 k:Nat
 call:Option (L.C×Array Value×Nat)
 ans:List L.A
 row:Value
structure OX(L:Lay)where
 s:L.S
 th:Nat→Thr L
structure Par where
 n:Nat
 aa:Nat
 av:Nat
 db:Nat
 ib:Nat→Nat
 ob:Nat→Nat
 ops:Nat→List Op4
 oa:Nat→Option Addr
 oc:Nat→Nat
 I:Nat→Option Obj
def Fixed(I:Nat→Option Obj)(w:World):Prop:=∀r o,I r=some o→w.heap[r]? =some o
structure Par.Ok(p:Par)(L:Lay):Prop where
 cells:∀r o,p.I r=some o→∃c e z,o= .cells c e z
 len:∀i,i<p.n→(p.ops i).length≤65536
 inI:p.I p.av≠none∧∀i,i<p.n→p.I (p.ib i)≠none
 av:∀w,Fixed p.I w→Lies w ⟨p.av,0,none⟩ (.slice (some ⟨p.aa,0,none⟩) p.n p.n)
 db:∀w,Fixed p.I w→Lies w ⟨p.db,0,none⟩ (.func (.func L.df) L.first L.capt)
 ib:∀w,Fixed p.I w→∀i,i<p.n→Lies w ⟨p.ib i,0,none⟩ (.int .i64 i)
 ob:∀w,Fixed p.I w→∀i,i<p.n→Lies w ⟨p.ob i,0,none⟩ (.slice (p.oa i) (p.ops i).length (p.oc i))
 op:∀w,Fixed p.I w→∀i,i<p.n→∀k o,(p.ops i)[k]? =some o→∃opb oo,p.oa i=some ⟨opb,oo,none⟩∧
  w.cell? ⟨opb,oo+k*4,none⟩=some (.int .i64 o.kd)∧w.cell? ⟨opb,oo+k*4+1,none⟩=some (.int .i64 o.a)∧w.cell? ⟨opb,oo+k*4+2,none⟩=some (.int .i64 o.b)∧w.cell? ⟨opb,oo+k*4+3,none⟩=some (.int .i64 o.c)∧
  w.frozen? ⟨opb,oo+k*4,none⟩=false∧w.frozen? ⟨opb,oo+k*4+1,none⟩=false∧w.frozen? ⟨opb,oo+k*4+2,none⟩=false∧w.frozen? ⟨opb,oo+k*4+3,none⟩=false
variable{L:Lay}{p:Par}{g:Gate}
def TR(t:Thr L)(r:Nat):Prop:=Value.ownBlock t.row=some r∨(∃a∈t.ans,L.AR a r)∨∃c A ab,t.call=some (c,A,ab)∧(r=ab∨L.CR c r)
def dgS(p:Par)(st i k:Nat):List (Nat×Value):=[(0,stepperV st),(1,.pointer (some ⟨p.ob i,0,none⟩)),(2,.pointer (some ⟨p.db,0,none⟩)),(3,.pointer (some ⟨p.ib i,0,none⟩)),(4,.pointer (some ⟨p.av,0,none⟩)),(9,.slice (p.oa i) (p.ops i).length (p.oc i)),(10,.int .i64 (p.ops i).length),(11,.int .i64 k)]
def dgS8(p:Par)(st i k ab:Nat):List (Nat×Value):=[(0,stepperV st),(1,.pointer (some ⟨p.ob i,0,none⟩)),(2,.pointer (some ⟨p.db,0,none⟩)),(3,.pointer (some ⟨p.ib i,0,none⟩)),(4,.pointer (some ⟨p.av,0,none⟩)),(8,.pointer (some ⟨ab,0,none⟩)),(9,.slice (p.oa i) (p.ops i).length (p.oc i)),(10,.int .i64 (p.ops i).length),(11,.int .i64 k)]
structure ThrU(L:Lay)(p:Par)(st i:Nat)(t:Thr L)(w:World):Prop where
 row:w.ownsRow 0 44 3 t.row t.ans.length ((t.ans.map fun a=>(L.AV a).cells).flatten)
 au:∀a∈t.ans,L.AU a w
 al:t.ans.length=t.k
 kl:t.k≤(p.ops i).length
 ar:∀a∈t.ans,∀r,L.AR a r→some r≠Value.ownBlock t.row
 call:∀c A ab,t.call=some (c,A,ab)→Slots 33 A (dgS8 p st i t.k ab)∧Ans w ab∧L.CU c w∧¬L.CR c ab∧some ab≠Value.ownBlock t.row∧(∀r,L.CR c r→some r≠Value.ownBlock t.row)∧(∀a∈t.ans,∀r,L.AR a r→r≠ab∧¬L.CR c r)∧t.k<(p.ops i).length
structure OU(L:Lay)(p:Par)(g:Gate)(x:OX L)(w:World):Prop where
 fix:Fixed p.I w
 su:L.SU x.s w
 arr:∃c,w.heap[p.aa]? =some (.cells c 42 (0,0))∧c.size=p.n∧∀i,i<p.n→c[i]? =some (x.th i).row
 thr:∀i,i<p.n→ThrU L p (g.st i) i (x.th i) w
 ts:∀i,i<p.n→∀r,TR (x.th i) r→¬L.SR x.s r∧r≠p.aa
 sa:¬L.SR x.s p.aa
 jj:∀i,i<p.n→∀c A ab,(x.th i).call=some (c,A,ab)→L.J (g.st i) x.s c
 tt:∀i j,i<p.n→j<p.n→i≠j→∀r,TR (x.th i) r→¬TR (x.th j) r
 inone:∀r,(L.SR x.s r∨r=p.aa∨∃i,i<p.n∧TR (x.th i) r)→p.I r=none
def OR(L:Lay)(p:Par)(x:OX L)(r:Nat):Prop:=L.SR x.s r∨r=p.aa∨∃i,i<p.n∧TR (x.th i) r
def dgFr(A:Array Value):Frame:=(Go.Conc.base 99).at ⟨A,[]⟩ [.inRegion (oC dgr5) [4,5],.code dgr6,.inBlock 1,.code dgr7,.inLoop dgs2,.inBlock 0]
inductive Adv(L:Lay)(p:Par)(i:Nat):L.S×Thr L→L.S×Thr L→Prop
 | done {s:L.S} {t:Thr L}:t.call=none→t.k=(p.ops i).length→Adv L p i (s,t) (s,t)
 | live {s s':L.S} {t:Thr L} {o:Op4} {c:L.C} {A:Array Value} {ab:Nat}:(p.ops i)[t.k]? =some o→L.beg s i o (s',.inl c)→Adv L p i (s,t) (s',{t with call:=some (c,A,ab)})
 | imm {s s':L.S} {t:Thr L} {o:Op4} {an:L.A} {row:Value} {y:L.S×Thr L}:(p.ops i)[t.k]? =some o→L.beg s i o (s',.inr an)→Adv L p i (s',⟨t.k+1,none,t.ans++[an],row⟩) y→Adv L p i (s,t) y
inductive Stp(L:Lay)(p:Par)(i:Nat):L.S×Thr L→L.S×Thr L→Prop
 | live {s s':L.S} {t:Thr L} {c c':L.C} {A:Array Value} {ab:Nat}:t.call=some (c,A,ab)→L.stp s c (s',.inl c')→Stp L p i (s,t) (s',{t with call:=some (c',A,ab)})
 | ans {s s':L.S} {t:Thr L} {c:L.C} {A:Array Value} {ab:Nat} {an:L.A} {row:Value} {y:L.S×Thr L}:t.call=some (c,A,ab)→L.stp s c (s',.inr an)→Adv L p i (s',⟨t.k+1,none,t.ans++[an],row⟩) y→Stp L p i (s,t) y
def opsUsers(L:Lay)(p:Par)(g:Gate):Users where
 X:=OX L
 U:=OU L p g
 R:=OR L p
 I:=p.I
 fr:=fun x i=>match(x.th i).call with
  | some (c,A,_)=>L.cf (g.st i) c++[dgFr A]
  | none=>[]
 liv:=fun x i=>(x.th i).call.isSome
 stp:=fun x i y=>Stp L p i (x.s,x.th i) (y.s,y.th i)∧∀j,j≠i→y.th j=x.th j
 bor:=fun x i y=>Adv L p i (x.s,x.th i) (y.s,y.th i)∧∀j,j≠i→y.th j=x.th j
 nw:=fun x i=>(x.th i).call=none∧(x.th i).k=0
 fid:=99
 cap:=fun i=> #[.pointer (some ⟨p.ob i,0,none⟩),.pointer (some ⟨p.db,0,none⟩),.pointer (some ⟨p.ib i,0,none⟩),.pointer (some ⟨p.av,0,none⟩)]
end
section
variable{F:Fz}{w w':World}{L:Lay}{p:Par}{g:Gate}{x y:OX L}{i:Nat}
def upd(x:OX L)(i:Nat)(s:L.S)(t:Thr L):OX L:=⟨s,fun j=>if j=i then t else x.th j⟩
theorem upd_self{s:L.S}{t:Thr L}:(upd x i s t).th i=t:=if_pos rfl
theorem upd_ne{s:L.S}{t:Thr L}{j:Nat}(h:j≠i):(upd x i s t).th j=x.th j:=if_neg h
def NF(L:Lay)(p:Par)(x:OX L)(r:Nat):Prop:=¬OR L p x r∧p.I r=none
theorem fixed_lt(h:Fixed p.I w){r:Nat}(hr:p.I r≠none):r<w.heap.size:=by
 cases e:p.I r with
 | none=>exact absurd e hr
 | some o=>exact(Array.getElem?_eq_some_iff.1 (h r o e)).1
theorem fixed_stable(h:Fixed p.I w)(hs:∀r,p.I r≠none→w'.heap[r]? =w.heap[r]?):Fixed p.I w':=by
 intro r o e
 rw[hs r (by rw[e];simp)]
 exact h r o e
theorem ans_same{ab:Nat}(h:Ans w ab)(hs:w'.heap[ab]? =w.heap[ab]?):Ans w' ab:=by
 obtain⟨x,y,z,h⟩:=h.o
 exact⟨⟨x,y,z,hs.trans h⟩⟩
theorem ThrU.low{st:Nat}{t:Thr L}(hL:L.Ok)(h:ThrU L p st i t w){r:Nat}(hr:TR t r):r<w.heap.size:=by
 rcases hr with h1|⟨a,ha,h1⟩|⟨c,A,ab,h1,h2⟩
 ·rcases h.row.2 with h2|⟨b,cap,cur,h2,h3,h4,_⟩
  ·rw[h2.1]at h1;simp[Value.ownBlock]at h1
  ·rw[h2]at h1
   simp only[Value.ownBlock,Option.some.injEq]at h1
   subst h1
   exact(alt h4)
 ·exact hL.lA a w r (h.au a ha) h1
 ·obtain⟨_,h3,h4,_⟩:=h.call c A ab h1
  rcases h2 with rfl|h2
  ·obtain⟨_,_,_,h5⟩:=h3.o
   exact(alt h5)
  ·exact hL.lC c w r h4 h2
theorem ThrU.stable{st:Nat}{t:Thr L}(hL:L.Ok)(h:ThrU L p st i t w)(hsz:w.heap.size≤w'.heap.size)(hs:∀r,TR t r→w'.heap[r]? =w.heap[r]?):ThrU L p st i t w':=by
 refine⟨ownsRow_same2 h.row fun b hb _=>hs b (.inl hb),fun a ha=>hL.sA a w w' (h.au a ha) hsz fun r hr=>hs r (.inr (.inl ⟨a,ha,hr⟩)),h.al,h.kl,h.ar,?_⟩
 intro c A ab hc
 obtain⟨h1,h2,h3,h4⟩:=h.call c A ab hc
 exact⟨h1,ans_same h2 (hs _ (.inr (.inr ⟨c,A,ab,hc,.inl rfl⟩))),hL.sC c w w' h3 hsz fun r hr=>hs r (.inr (.inr ⟨c,A,ab,hc,.inr hr⟩)),h4⟩
theorem OU.aalt(h:OU L p g x w):p.aa<w.heap.size:=by
 obtain⟨c,h1,_⟩:=h.arr
 exact(alt h1)
theorem OU.low(hL:L.Ok)(h:OU L p g x w){r:Nat}(hr:OR L p x r):r<w.heap.size:=by
 rcases hr with h1|rfl|⟨i,hi,h1⟩
 ·exact hL.lS _ _ _ h.su h1
 ·exact h.aalt
 ·exact(h.thr i hi).low hL h1
theorem OU.stable(hL:L.Ok)(h:OU L p g x w)(hsz:w.heap.size≤w'.heap.size)(hs:∀r,OR L p x r∨p.I r≠none→w'.heap[r]? =w.heap[r]?):OU L p g x w':=by
 refine⟨fixed_stable h.fix fun r hr=>hs r (.inr hr),hL.sS _ w w' h.su hsz fun r hr=>hs r (.inl (.inl hr)),?_,fun i hi=>(h.thr i hi).stable hL hsz fun r hr=>hs r (.inl (.inr (.inr ⟨i,hi,hr⟩))),h.ts,h.sa,h.jj,h.tt,h.inone⟩
 obtain⟨c,h1,h2⟩:=h.arr
 exact⟨c,(hs _ (.inl (.inr (.inl rfl)))).trans h1,h2⟩
theorem OU.inone'(h:OU L p g x w){r:Nat}(hr:OR L p x r∨w.heap.size≤r):p.I r=none:=by
 rcases hr with h1|h1
 ·exact h.inone r h1
 ·cases e:p.I r with
  | none=>rfl
  | some o=>exact absurd (fixed_lt (r:=r) h.fix (by rw[e];simp)) (by omega)
def MineC(L:Lay)(x:OX L)(i:Nat)(r:Nat):Prop:=L.SR x.s r∨∃c A ab,(x.th i).call=some (c,A,ab)∧L.CR c r
theorem mine_or(hi:i<p.n){r:Nat}(h:MineC L x i r):OR L p x r:=by
 rcases h with h|⟨c,A,ab,h1,h2⟩
 ·exact .inl h
 ·exact .inr (.inr ⟨i,hi,.inr (.inr ⟨c,A,ab,h1,.inr h2⟩)⟩)
theorem OU.other(h:OU L p g x w)(hi:i<p.n){j r:Nat}(hj:j<p.n)(hne:j≠i)(hr:TR (x.th j) r):¬MineC L x i r:=by
 rintro(h1|⟨c,A,ab,h1,h2⟩)
 ·exact(h.ts j hj r hr).1 h1
 ·exact h.tt j i hj hi hne r hr (.inr (.inr ⟨c,A,ab,h1,.inr h2⟩))
theorem OU.aaM(h:OU L p g x w)(hi:i<p.n):¬MineC L x i p.aa:=by
 rintro(h1|⟨c,A,ab,h1,h2⟩)
 ·exact h.sa h1
 ·exact(h.ts i hi _ (.inr (.inr ⟨c,A,ab,h1,.inr h2⟩))).2 rfl
theorem OU.rowM(h:OU L p g x w)(hi:i<p.n){r:Nat}(hr:Value.ownBlock (x.th i).row=some r):¬MineC L x i r:=by
 rintro(h1|⟨c,A,ab,h1,h2⟩)
 ·exact(h.ts i hi r (.inl hr)).1 h1
 ·exact((h.thr i hi).call c A ab h1).2.2.2.2.2.1 r h2 hr.symm
theorem OU.ansM(h:OU L p g x w)(hi:i<p.n){a:L.A}{r:Nat}(ha:a∈(x.th i).ans)(hr:L.AR a r):¬MineC L x i r:=by
 rintro(h1|⟨c,A,ab,h1,h2⟩)
 ·exact(h.ts i hi r (.inr (.inl ⟨a,ha,hr⟩))).1 h1
 ·exact(((h.thr i hi).call c A ab h1).2.2.2.2.2.2.1 a ha r hr).2 h2
theorem OU.abM(h:OU L p g x w)(hi:i<p.n){c:L.C}{A:Array Value}{ab:Nat}(hc:(x.th i).call=some (c,A,ab)):¬MineC L x i ab:=by
 rintro(h1|⟨c1,A1,ab1,h1,h2⟩)
 ·exact(h.ts i hi ab (.inr (.inr ⟨c,A,ab,hc,.inl rfl⟩))).1 h1
 ·rw[hc]at h1
  cases h1
  exact((h.thr i hi).call c A ab hc).2.2.2.1 h2
theorem ou_next(hL:L.Ok)(h:OU L p g x w)(hi:i<p.n)(hsz:w.heap.size≤w'.heap.size)(hsame:∀r,r<w.heap.size→¬MineC L x i r→w'.heap[r]? =w.heap[r]?){s':L.S}(hs:L.SU s' w')(hsr:∀q,L.SR s' q→MineC L x i q∨w.heap.size≤q){call':Option (L.C×Array Value×Nat)}
 (hJ:∀st c,L.J st x.s c→L.J st s' c)
 (hcall:∀c A ab,call'=some (c,A,ab)→L.J (g.st i) s' c∧Slots 33 A (dgS8 p (g.st i) i (x.th i).k ab)∧L.CU c w'∧(∀q,L.CR c q→MineC L x i q∨w.heap.size≤q)∧(∀q,L.CR c q→¬L.SR s' q)∧(x.th i).k<(p.ops i).length∧((∃c0 A0,(x.th i).call=some (c0,A0,ab))∨(Ans w ab∧NF L p x ab))):
 OU L p g (upd x i s' {x.th i with call:=call'}) w'∧∀r,OR L p (upd x i s' {x.th i with call:=call'}) r→OR L p x r∨w.heap.size≤r∨∃c A,call'=some (c,A,r):=by
 have hab:∀c A ab,call'=some (c,A,ab)→¬MineC L x i ab∧Ans w ab∧ab<w.heap.size∧some ab≠Value.ownBlock (x.th i).row∧(∀a∈(x.th i).ans,∀r,L.AR a r→r≠ab)∧ab≠p.aa∧(∀j,j<p.n→j≠i→¬TR (x.th j) ab)∧p.I ab=none:=by
  intro c A ab hc
  obtain⟨_,_,_,_,_,_,h6⟩:=hcall c A ab hc
  rcases h6 with⟨c0,A0,h6⟩|⟨h6,h7⟩
  ·obtain⟨_,k2,_,k4,k5,_,k7,_⟩:=(h.thr i hi).call c0 A0 ab h6
   have hT:TR (x.th i) ab:=.inr (.inr ⟨c0,A0,ab,h6,.inl rfl⟩)
   exact⟨h.abM hi h6,k2,(h.thr i hi).low hL hT,k5,fun a ha r hr=>(k7 a ha r hr).1,(h.ts i hi ab hT).2,fun j hj hne hh=>h.tt j i hj hi hne ab hh hT,h.inone ab (.inr (.inr ⟨i,hi,hT⟩))⟩
  ·refine⟨fun hm=>h7.1 (mine_or hi hm),h6,?_,?_,?_,?_,?_,h7.2⟩
   ·obtain⟨_,_,_,h8⟩:=h6.o
    exact(alt h8)
   ·intro e
    exact h7.1 (.inr (.inr ⟨i,hi,.inl e.symm⟩))
   ·rintro a ha r hr rfl
    exact h7.1 (.inr (.inr ⟨i,hi,.inr (.inl ⟨a,ha,hr⟩)⟩))
   ·rintro rfl
    exact h7.1 (.inr (.inl rfl))
   ·intro j hj _ hh
    exact h7.1 (.inr (.inr ⟨j,hj,hh⟩))
 have hT:∀r,TR {x.th i with call:=call'} r→(TR (x.th i) r∧¬MineC L x i r)∨(∃c A,call'=some (c,A,r))∨∃c A ab,call'=some (c,A,ab)∧L.CR c r:=by
  rintro r (h1|⟨a,ha,h1⟩|⟨c,A,ab,h1,h2⟩)
  ·exact .inl ⟨.inl h1,h.rowM hi h1⟩
  ·exact .inl ⟨.inr (.inl ⟨a,ha,h1⟩),h.ansM hi ha h1⟩
  ·rcases h2 with rfl|h2
   ·exact .inr (.inl ⟨c,A,h1⟩)
   ·exact .inr (.inr ⟨c,A,ab,h1,h2⟩)
 have hO:∀r,OR L p (upd x i s' {x.th i with call:=call'}) r→OR L p x r∨w.heap.size≤r∨∃c A,call'=some (c,A,r):=by
  rintro r (h1|rfl|⟨j,hj,h1⟩)
  ·rcases hsr r h1 with h2|h2
   ·exact .inl (mine_or hi h2)
   ·exact .inr (.inl h2)
  ·exact .inl (.inr (.inl rfl))
  ·by_cases e:j=i
   ·subst e
    rw[upd_self]at h1
    rcases hT r h1 with h2|h2|⟨c,A,ab,h2,h3⟩
    ·exact .inl (.inr (.inr ⟨j,hj,h2.1⟩))
    ·exact .inr (.inr h2)
    ·rcases(hcall c A ab h2).2.2.2.1 r h3 with h4|h4
     ·exact .inl (mine_or hj h4)
     ·exact .inr (.inl h4)
   ·rw[upd_ne e]at h1
    exact .inl (.inr (.inr ⟨j,hj,h1⟩))
 have hAA:¬L.SR s' p.aa:=by
  intro h1
  rcases hsr _ h1 with h2|h2
  ·exact h.aaM hi h2
  ·have:=h.aalt;omega
 have hX:∀r,TR {x.th i with call:=call'} r→∀j,j<p.n→j≠i→¬TR (x.th j) r:=by
  intro r hr j hj hne hh
  rcases hT r hr with h2|⟨c,A,h2⟩|⟨c,A,ab,h2,h3⟩
  ·exact h.tt j i hj hi hne r hh h2.1
  ·exact(hab c A r h2).2.2.2.2.2.2.1 j hj hne hh
  ·rcases(hcall c A ab h2).2.2.2.1 r h3 with h4|h4
   ·exact h.other hi hj hne hh h4
   ·have:=(h.thr j hj).low hL hh;omega
 have hJJ:∀j,j<p.n→∀c A ab,((upd x i s' {x.th i with call:=call'}).th j).call=some (c,A,ab)→L.J (g.st j) s' c:=by
  intro j hj c A ab hc
  by_cases e:j=i
  ·subst e
   rw[upd_self]at hc
   exact(hcall c A ab hc).1
  ·rw[upd_ne e]at hc
   exact hJ _ c (h.jj j hj c A ab hc)
 refine⟨⟨?_,hs,?_,?_,?_,hAA,hJJ,?_,?_⟩,hO⟩
 ·refine fixed_stable h.fix fun r hr=>hsame r (fixed_lt h.fix hr) fun hm=>hr (h.inone r (mine_or hi hm))
 ·obtain⟨c,h1,h2,h3⟩:=h.arr
  refine⟨c,(hsame _ h.aalt (h.aaM hi)).trans h1,h2,fun j hj=>?_⟩
  by_cases e:j=i
  ·subst e;rw[upd_self];exact h3 j hj
  ·rw[upd_ne e];exact h3 j hj
 ·intro j hj
  by_cases e:j=i
  ·subst e
   rw[upd_self]
   have ht:=h.thr j hj
   refine⟨ownsRow_same2 ht.row fun b hb _=>hsame b (ht.low hL (.inl hb)) (h.rowM hj hb),fun a ha=>hL.sA a w w' (ht.au a ha) hsz fun r hr=>hsame r (ht.low hL (.inr (.inl ⟨a,ha,hr⟩))) (h.ansM hj ha hr),ht.al,ht.kl,ht.ar,?_⟩
   intro c A ab hc
   obtain⟨_,k1,k2,k3,k4,k5,k6⟩:=hcall c A ab hc
   obtain⟨m1,m2,m3,m4,m5,m6,m7,m8⟩:=hab c A ab hc
   refine⟨k1,ans_same m2 (hsame ab m3 m1),k2,?_,m4,?_,?_,k5⟩
   ·intro hh
    rcases k3 ab hh with h4|h4
    ·exact m1 h4
    ·omega
   ·intro r hr e
    rcases k3 r hr with h4|h4
    ·exact h.rowM hj e.symm h4
    ·have:=ht.low hL (.inl e.symm);omega
   ·intro a ha r hr
    refine⟨m5 a ha r hr,fun hh=>?_⟩
    rcases k3 r hh with h4|h4
    ·exact h.ansM hj ha hr h4
    ·have:=ht.low hL (.inr (.inl ⟨a,ha,hr⟩));omega
  ·rw[upd_ne e]
   exact(h.thr j hj).stable hL hsz fun r hr=>hsame r ((h.thr j hj).low hL hr) (h.other hi hj e hr)
 ·intro j hj r hr
  by_cases e:j=i
  ·subst e
   rw[upd_self]at hr
   rcases hT r hr with⟨h2,h3⟩|⟨c,A,h2⟩|⟨c,A,ab,h2,h3⟩
   ·refine⟨fun hh=>?_,(h.ts j hj r h2).2⟩
    rcases hsr r hh with h4|h4
    ·exact h3 h4
    ·have:=(h.thr j hj).low hL h2;omega
   ·obtain⟨m1,m2,m3,m4,m5,m6,m7,m8⟩:=hab c A r h2
    refine⟨fun hh=>?_,m6⟩
    rcases hsr r hh with h4|h4
    ·exact m1 h4
    ·omega
   ·obtain⟨_,k1,k2,k3,k4,k5,k6⟩:=hcall c A ab h2
    refine⟨k4 r h3,?_⟩
    rintro rfl
    rcases k3 _ h3 with h4|h4
    ·exact h.aaM hj h4
    ·have:=h.aalt;omega
  ·rw[upd_ne e]at hr
   refine⟨fun hh=>?_,(h.ts j hj r hr).2⟩
   rcases hsr r hh with h4|h4
   ·exact h.other hi hj e hr h4
   ·have:=(h.thr j hj).low hL hr;omega
 ·intro j k hj hk hne r h1 h2
  by_cases e:j=i
  ·subst e
   rw[upd_self]at h1
   rw[upd_ne (fun e=>hne e.symm)]at h2
   exact hX r h1 k hk (fun e=>hne e.symm) h2
  ·rw[upd_ne e]at h1
   by_cases e2:k=i
   ·subst e2
    rw[upd_self]at h2
    exact hX r h2 j hj e h1
   ·rw[upd_ne e2]at h2
    exact h.tt j k hj hk hne r h1 h2
 ·intro r hr
  rcases hO r hr with h1|h1|⟨c,A,h1⟩
  ·exact h.inone r h1
  ·exact h.inone' (.inr h1)
  ·exact(hab c A r h1).2.2.2.2.2.2.2
end
section
variable{F:Fz}{w w':World}{L:Lay}{p:Par}{g:Gate}{x y:OX L}{i:Nat}
theorem NotedA.at{aa ab i m:Nat}{v a b c:Value}{xs:List Value}{v':Value}(h:NotedA F aa ab i m v a b c xs w w' v')(d:Nat):NotedA F aa ab i m v a b c xs w (w'.at d) v':=
 ⟨⟨h.wf.own⟩,h.row,h.arr,h.size,h.own,h.old⟩
theorem ou_noted(hL:L.Ok)(hP:p.Ok L)(hi:i<p.n){an:L.A}{ab:Nat}(h:OU L p g x w)(hc:(x.th i).call=none)(hk:(x.th i).k<(p.ops i).length)(hau:L.AU an w)(hna:∀r,L.AR an r→NF L p x r∧r≠ab){F2:Fz}{a b c:Value}(hac:(L.AV an).cells=[a,b,c]){v':Value}
 (hn:NotedA F2 p.aa ab i (x.th i).k (x.th i).row a b c (((x.th i).ans.map fun a=>(L.AV a).cells).flatten) w w' v'):
 OU L p g (upd x i x.s ⟨(x.th i).k+1,none,(x.th i).ans++[an],v'⟩) w'∧(∀r,OR L p (upd x i x.s ⟨(x.th i).k+1,none,(x.th i).ans++[an],v'⟩) r→OR L p x r∨L.AR an r∨w.heap.size≤r):=by
 have ht:=h.thr i hi
 have hsame:∀r,r<w.heap.size→r≠p.aa→some r≠Value.ownBlock (x.th i).row→w'.heap[r]? =w.heap[r]?:=hn.old
 have hT:∀r,TR (⟨(x.th i).k+1,none,(x.th i).ans++[an],v'⟩:Thr L) r→TR (x.th i) r∨L.AR an r∨w.heap.size≤r:=by
  rintro r (h1|⟨a,ha,h1⟩|⟨c,A,ab,h1,h2⟩)
  ·rcases hn.own r h1 with h2|h2
   ·exact .inl (.inl h2.symm)
   ·exact .inr (.inr h2)
  ·rcases List.mem_append.1 ha with ha|ha
   ·exact .inl (.inr (.inl ⟨a,ha,h1⟩))
   ·rw[List.mem_singleton]at ha
    subst ha
    exact .inr (.inl h1)
  ·cases h1
 have hO:∀r,OR L p (upd x i x.s ⟨(x.th i).k+1,none,(x.th i).ans++[an],v'⟩) r→OR L p x r∨L.AR an r∨w.heap.size≤r:=by
  rintro r (h1|rfl|⟨j,hj,h1⟩)
  ·exact .inl (.inl h1)
  ·exact .inl (.inr (.inl rfl))
  ·by_cases e:j=i
   ·subst e
    rw[upd_self]at h1
    rcases hT r h1 with h2|h2|h2
    ·exact .inl (.inr (.inr ⟨j,hj,h2⟩))
    ·exact .inr (.inl h2)
    ·exact .inr (.inr h2)
   ·rw[upd_ne e]at h1
    exact .inl (.inr (.inr ⟨j,hj,h1⟩))
 have hrow:∀r,some r=Value.ownBlock (x.th i).row→TR (x.th i) r:=fun r hr=>.inl hr.symm
 have hrowI:∀r,p.I r≠none→some r≠Value.ownBlock (x.th i).row:=fun r hr e=>hr (h.inone r (.inr (.inr ⟨i,hi,hrow r e⟩)))
 have haaI:∀r,p.I r≠none→r≠p.aa:=fun r hr e=>hr (h.inone r (.inr (.inl e)))
 have hX:∀r,TR (⟨(x.th i).k+1,none,(x.th i).ans++[an],v'⟩:Thr L) r→∀j,j<p.n→j≠i→¬TR (x.th j) r:=by
  intro r hr j hj hne hh
  rcases hT r hr with h2|h2|h2
  ·exact h.tt j i hj hi hne r hh h2
  ·exact(hna r h2).1.1 (.inr (.inr ⟨j,hj,hh⟩))
  ·have:=(h.thr j hj).low hL hh;omega
 refine⟨⟨fixed_stable h.fix fun r hr=>hsame r (fixed_lt h.fix hr) (haaI r hr) (hrowI r hr),hL.sS _ w w' h.su hn.size fun r hr=>hsame r (hL.lS _ _ _ h.su hr) (by rintro rfl;exact h.sa hr) fun e=>(h.ts i hi r (hrow r e)).1 hr,?_,?_,?_,h.sa,?_,?_,?_⟩,hO⟩
 ·obtain⟨c,h1,h2,h3⟩:=h.arr
  refine⟨_,hn.arr c h1,by simpa using h2,fun j hj=>?_⟩
  by_cases e:j=i
  ·subst e
   rw[upd_self,Array.getElem?_setIfInBounds_self_of_lt (by omega)]
  ·rw[upd_ne e,Array.getElem?_setIfInBounds_ne (fun e1=>e e1.symm)]
   exact h3 j hj
 ·intro j hj
  by_cases e:j=i
  ·subst e
   rw[upd_self]
   refine⟨?_,?_,?_,?_,?_,fun c A ab h1=>by cases h1⟩
   ·have:=hn.row
    simp only[List.map_append,List.map_cons,List.map_nil,List.flatten_append,List.flatten_cons,List.flatten_nil,List.append_nil,List.length_append,List.length_cons,List.length_nil,hac,ht.al]
    exact this
   ·intro a ha
    rcases List.mem_append.1 ha with ha|ha
    ·exact hL.sA a w w' (ht.au a ha) hn.size fun r hr=>hsame r (ht.low hL (.inr (.inl ⟨a,ha,hr⟩))) (h.ts j hj r (.inr (.inl ⟨a,ha,hr⟩))).2 (ht.ar a ha r hr)
    ·rw[List.mem_singleton]at ha
     subst ha
     exact hL.sA a w w' hau hn.size fun r hr=>hsame r (hL.lA a w r hau hr) (fun e=>(hna r hr).1.1 (.inr (.inl e))) (fun e=>(hna r hr).1.1 (.inr (.inr ⟨j,hj,hrow r e⟩)))
   ·simp[ht.al]
   ·exact hk
   ·intro a ha r hr e
    rcases hn.own r e.symm with h2|h2
    ·rcases List.mem_append.1 ha with ha|ha
     ·exact ht.ar a ha r hr h2
     ·rw[List.mem_singleton]at ha
      subst ha
      exact(hna r hr).1.1 (.inr (.inr ⟨j,hj,hrow r h2⟩))
    ·rcases List.mem_append.1 ha with ha|ha
     ·have:=ht.low hL (.inr (.inl ⟨a,ha,hr⟩));omega
     ·rw[List.mem_singleton]at ha
      subst ha
      have:=hL.lA a w r hau hr;omega
  ·rw[upd_ne e]
   exact(h.thr j hj).stable hL hn.size fun r hr=>hsame r ((h.thr j hj).low hL hr) (h.ts j hj r hr).2 fun e1=>h.tt j i hj hi e r hr (hrow r e1)
 ·intro j hj r hr
  by_cases e:j=i
  ·subst e
   rw[upd_self]at hr
   rcases hT r hr with h2|h2|h2
   ·exact h.ts j hj r h2
   ·exact⟨fun hh=>(hna r h2).1.1 (.inl hh),fun e=>(hna r h2).1.1 (.inr (.inl e))⟩
   ·refine⟨fun hh=>?_,?_⟩
    ·have:=hL.lS _ _ _ h.su hh;omega
    ·rintro rfl
     have:=h.aalt;omega
  ·rw[upd_ne e]at hr
   exact h.ts j hj r hr
 ·intro j hj c A ab hc
  by_cases e:j=i
  ·subst e
   rw[upd_self]at hc
   cases hc
  ·rw[upd_ne e]at hc
   exact h.jj j hj c A ab hc
 ·intro j k hj hk2 hne r h1 h2
  by_cases e:j=i
  ·subst e
   rw[upd_self]at h1
   rw[upd_ne (fun e=>hne e.symm)]at h2
   exact hX r h1 k hk2 (fun e=>hne e.symm) h2
  ·rw[upd_ne e]at h1
   by_cases e2:k=i
   ·subst e2
    rw[upd_self]at h2
    exact hX r h2 j hj e h1
   ·rw[upd_ne e2]at h2
    exact h.tt j k hj hk2 hne r h1 h2
 ·intro r hr
  rcases hO r hr with h1|h1|h1
  ·exact h.inone r h1
  ·exact(hna r h1).1.2
  ·exact h.inone' (.inr h1)
theorem own_note(hL:L.Ok)(hP:p.Ok L)(hi:i<p.n){an:L.A}{ab:Nat}{A0:Array Value}(h:OU L p g x w)(hc:(x.th i).call=none)(hk:(x.th i).k<(p.ops i).length)(hau:L.AU an w)(hna:∀r,L.AR an r→NF L p x r∧r≠ab)(ha:Ans w ab)(hnb:NF L p x ab)(hwf:Wf F w)(hF:∀r,OR L p x r∨r=ab→F r=none)(hA:Slots 33 A0 (dgS8 p (g.st i) i (x.th i).k ab)){cs:List Frame}{Stop:Goroutine→World→Prop}
 (K:∀w' A v',OU L p g (upd x i x.s ⟨(x.th i).k+1,none,(x.th i).ans++[an],v'⟩) w'→(∀r,OR L p (upd x i x.s ⟨(x.th i).k+1,none,(x.th i).ans++[an],v'⟩) r→OR L p x r∨L.AR an r∨w.heap.size≤r)→w.heap.size≤w'.heap.size→Wf F w'→Slots 33 A (dgS p (g.st i) i ((x.th i).k+1))→
   Own Try.prog false F Stop (G ((Go.Conc.base 99).at ⟨A,[]⟩ [.code dgs2,.inLoop dgs2,.inBlock 0]) cs) w'):
 Own Try.prog false F Stop (back (L.AV an).v (dgFr A0::cs)) w:=by
 have hkl:=hP.len i hi
 refine dg_2a (lc:=(L.AV an).lc) ha (fun k hh=>?_) hA fun A1 hA1=>?_
 ·obtain⟨z,hz,_⟩:=hh
  rw[hF ab (.inr rfl)]at hz
  cases hz
 have hsz:((((w.setCell ⟨ab,0,none⟩ (.bool (L.AV an).ok)).setCell ⟨ab,1,none⟩ (.int .i64 (L.AV an).n)).setCell ⟨ab,2,none⟩ (.slice (L.AV an).la (L.AV an).ll (L.AV an).lc))).heap.size=w.heap.size:=by simp
 have hne:∀r,r≠ab→((((w.setCell ⟨ab,0,none⟩ (.bool (L.AV an).ok)).setCell ⟨ab,1,none⟩ (.int .i64 (L.AV an).n)).setCell ⟨ab,2,none⟩ (.slice (L.AV an).la (L.AV an).ll (L.AV an).lc))).heap[r]? =w.heap[r]?:=by
  intro r hr
  rw[heap_setCell_ne _ _ _ hr,heap_setCell_ne _ _ _ hr,heap_setCell_ne _ _ _ hr]
 have hab:((((w.setCell ⟨ab,0,none⟩ (.bool (L.AV an).ok)).setCell ⟨ab,1,none⟩ (.int .i64 (L.AV an).n)).setCell ⟨ab,2,none⟩ (.slice (L.AV an).la (L.AV an).ll (L.AV an).lc))).heap[ab]? =some (.cells #[.bool (L.AV an).ok,.int .i64 (L.AV an).n,.slice (L.AV an).la (L.AV an).ll (L.AV an).lc] 44 (0,0)):=by
  obtain⟨a,b,c,h1⟩:=ha.o
  rw[heap_setCell_eq (heap_setCell_eq (heap_setCell_eq h1 _) _) _]
  rfl
 generalize (((w.setCell ⟨ab,0,none⟩ (.bool (L.AV an).ok)).setCell ⟨ab,1,none⟩ (.int .i64 (L.AV an).n)).setCell ⟨ab,2,none⟩ (.slice (L.AV an).la (L.AV an).ll (L.AV an).lc))=W at hsz hne hab ⊢
 have hU:OU L p g x W:=h.stable hL (by omega) fun r hr=>hne r (by
  rintro rfl
  rcases hr with hr|hr
  ·exact hnb.1 hr
  ·exact hr hnb.2)
 have hauW:L.AU an W:=hL.sA an w W hau (by omega) fun r hr=>hne r (hna r hr).2
 have hwfW:Wf F W:=by
  constructor
  intro r z hz
  obtain⟨c,e,z0,h1,h2⟩:=hwf.own r z hz
  refine⟨c,e,z0,(hne r ?_).trans h1,h2⟩
  rintro rfl
  rw[hF r (.inr rfl)]at hz
  cases hz
 have ht:=hU.thr i hi
 have hmF:∀r,(r=p.aa∨some r=Value.ownBlock (x.th i).row)→F r=none:=by
  rintro r (rfl|hr)
  ·exact hF _ (.inl (.inr (.inl rfl)))
  ·exact hF _ (.inl (.inr (.inr ⟨i,hi,.inl hr.symm⟩)))
 obtain⟨c0,harr,hcs,hci⟩:=hU.arr
 have hrI:∀r,p.I r≠none→some r≠Value.ownBlock (x.th i).row:=fun r hr e=>hr (h.inone r (.inr (.inr ⟨i,hi,.inl e.symm⟩)))
 have key:=dg_2b (F:=FU F (fun r=>r=p.aa∨some r=Value.ownBlock (x.th i).row) W) (w:=W) (nn:=W.heap.size) (main:=false) (cs:=cs) (kk:=[.inBlock 1,.code dgr7,.inLoop dgs2,.inBlock 0]) (Stop:=fun a u=>∃v' A,a=G ((Go.Conc.base 99).at ⟨A,[]⟩ [.inBlock 1,.code dgr7,.inLoop dgs2,.inBlock 0]) cs∧NotedA (FU F (fun r=>r=p.aa∨some r=Value.ownBlock (x.th i).row) W) p.aa ab i (x.th i).k (x.th i).row (.bool (L.AV an).ok) (.int .i64 (L.AV an).n) (.slice (L.AV an).la (L.AV an).ll (L.AV an).lc) (((x.th i).ans.map fun a=>(L.AV a).cells).flatten) W u v'∧Slots 33 A (dgS8 p (g.st i) i (x.th i).k ab))
  fu_under (Nat.le_refl _) ⟨rfl,rfl,rfl⟩ hi (by omega) ⟨fu_wf,hP.av W hU.fix,hP.ib W hU.fix i hi,⟨c0,harr,hci i hi⟩,hab⟩ (by rw[← ht.al];exact ht.row) (fu_mine (.inl rfl)) (fun b hb=>fu_mine (.inr hb.symm)) ⟨fun e=>(h.ts i hi _ (.inl e.symm)).2 rfl,fun e=>hnb.1 (.inr (.inr ⟨i,hi,.inl e.symm⟩)),hrI _ hP.inI.1,hrI _ (hP.inI.2 i hi)⟩
  (fun r c e z0 h1 h2 h3 h4=>⟨_,fu_cells (fun hm=>hm.elim h2 h3) h1,fun e=>by simp only[Prod.mk.injEq]at e;omega⟩) hA1 fun w2 v' A2 hn hA2=>.stop fun d=>⟨v',A2,rfl,hn.at d,hA2⟩
 refine(own_weaken (fun a ha=>fu_held hwfW hmF ha) key).bind fun a u hs=>?_
 obtain⟨v',A2,rfl,hn,hA2⟩:=hs u.drawn
 have hn:NotedA _ p.aa ab i (x.th i).k (x.th i).row (.bool (L.AV an).ok) (.int .i64 (L.AV an).n) (.slice (L.AV an).la (L.AV an).ll (L.AV an).lc) (((x.th i).ans.map fun a=>(L.AV a).cells).flatten) W u v':=hn
 refine dg_2c (by omega) hA2 fun A3 hA3=>?_
 obtain⟨q1,q2⟩:=ou_noted hL hP hi hU hc hk hauW hna rfl hn
 refine K u A3 v' q1 (fun r hr=>?_) (by have:=hn.size;omega) ?_ hA3
 ·rcases q2 r hr with h1|h1|h1
  ·exact .inl h1
  ·exact .inr (.inl h1)
  ·exact .inr (.inr (by omega))
 ·constructor
  intro r z hz
  obtain⟨c,e,z0,h1,h2⟩:=hwfW.own r z hz
  refine⟨c,e,z0,(hn.old r (alt h1) ?_ ?_).trans h1,h2⟩
  ·rintro rfl
   rw[hmF _ (.inl rfl)]at hz
   cases hz
  ·intro e
   rw[hmF _ (.inr e)]at hz
   cases hz
end
section
variable{F:Fz}{w w' w0:World}{L:Lay}{p:Par}{g:Gate}{x y x0:OX L}{i:Nat}
theorem OU.at(hL:L.Ok)(h:OU L p g x w)(d:Nat):OU L p g x (w.at d):=h.stable hL (Nat.le_refl _) fun _ _=>rfl
theorem wf_none(hw0:Wf F w0){r:Nat}(h:w0.heap.size≤r):F r=none:=by
 cases e:F r with
 | none=>rfl
 | some z=>
   obtain⟨c,e1,z0,h1,_⟩:=hw0.own r z e
   have:=(alt h1)
   omega
theorem wf_under(hw0:Wf F w0):Under F w0.heap.size:=by
 intro r z h
 obtain⟨c,e1,z0,h1,_⟩:=hw0.own r z h
 exact(alt h1)
theorem nf_after(hL:L.Ok)(h:OU L p g x w)(hi:i<p.n){s':L.S}{r:Nat}(hr:(∃c A ab,(x.th i).call=some (c,A,ab)∧L.CR c r)∨w.heap.size≤r)(hs:¬L.SR s' r):NF L p (upd x i s' {x.th i with call:=none}) r:=by
 have hM:∀q,(∃c A ab,(x.th i).call=some (c,A,ab)∧L.CR c q)→MineC L x i q:=fun q h=>.inr h
 refine⟨?_,?_⟩
 ·rintro(h1|rfl|⟨j,hj,h1⟩)
  ·exact hs h1
  ·rcases hr with hr|hr
   ·exact h.aaM hi (hM _ hr)
   ·have:=h.aalt;omega
  ·by_cases e:j=i
   ·subst e
    rw[upd_self]at h1
    rcases h1 with h1|⟨a,ha,h1⟩|⟨c,A,ab,h1,_⟩
    ·rcases hr with hr|hr
     ·exact h.rowM hj h1 (hM _ hr)
     ·have:=(h.thr j hj).low hL (.inl h1);omega
    ·rcases hr with hr|hr
     ·exact h.ansM hj ha h1 (hM _ hr)
     ·have:=(h.thr j hj).low hL (.inr (.inl ⟨a,ha,h1⟩));omega
    ·cases h1
   ·rw[upd_ne e]at h1
    rcases hr with hr|hr
    ·exact h.other hi hj e h1 (hM _ hr)
    ·have:=(h.thr j hj).low hL h1;omega
 ·rcases hr with hr|hr
  ·exact h.inone r (mine_or hi (hM _ hr))
  ·exact h.inone' (.inr hr)
theorem nf_ab(hL:L.Ok)(h:OU L p g x w)(hi:i<p.n){s':L.S}(hsr:∀q,L.SR s' q→MineC L x i q∨w.heap.size≤q){c0:L.C}{A0:Array Value}{ab:Nat}(hc:(x.th i).call=some (c0,A0,ab)):NF L p (upd x i s' {x.th i with call:=none}) ab:=by
 have hT:TR (x.th i) ab:=.inr (.inr ⟨c0,A0,ab,hc,.inl rfl⟩)
 obtain⟨_,k2,_,k4,k5,_,k7,_⟩:=(h.thr i hi).call c0 A0 ab hc
 refine⟨?_,h.inone ab (.inr (.inr ⟨i,hi,hT⟩))⟩
 rintro(h1|e1|⟨j,hj,h1⟩)
 ·rcases hsr ab h1 with h2|h2
  ·exact h.abM hi hc h2
  ·have:=(h.thr i hi).low hL hT;omega
 ·exact(h.ts i hi ab hT).2 e1
 ·by_cases e:j=i
  ·subst e
   rw[upd_self]at h1
   rcases h1 with h1|⟨a,ha,h1⟩|⟨c,A,ab,h1,_⟩
   ·exact k5 h1.symm
   ·exact(k7 a ha ab h1).1 rfl
   ·cases h1
  ·rw[upd_ne e]at h1
   exact h.tt j i hj hi e ab h1 hT
theorem nf_fresh(hL:L.Ok)(h:OU L p g x w)(hi:i<p.n){s':L.S}(hsr:∀q,L.SR s' q→MineC L x i q∨w.heap.size≤q){ab:Nat}(hlt:ab<w.heap.size)(hn:NF L p x ab)(hc:(x.th i).call=none):NF L p (upd x i s' {x.th i with call:=none}) ab:=by
 refine⟨?_,hn.2⟩
 rintro(h1|e1|⟨j,hj,h1⟩)
 ·rcases hsr ab h1 with h2|h2
  ·exact hn.1 (mine_or hi h2)
  ·omega
 ·exact hn.1 (.inr (.inl e1))
 ·by_cases e:j=i
  ·subst e
   rw[upd_self]at h1
   have h2:TR (x.th j) ab:=by
    rcases h1 with h1|h1|⟨c,A,ab,h1,_⟩
    ·exact .inl h1
    ·exact .inr (.inl h1)
    ·cases h1
   exact hn.1 (.inr (.inr ⟨j,hj,h2⟩))
  ·rw[upd_ne e]at h1
   exact hn.1 (.inr (.inr ⟨j,hj,h1⟩))
def TEnd(L:Lay)(p:Par)(g:Gate)(i:Nat)(y:OX L)(cs:List Frame)(a:Goroutine):Prop:=
 ((opsUsers L p g).liv y i=true∧a=G (Frame.enter Try.prog 133 #[.pointer (some ⟨g.st i,0,none⟩)] .normal) ((opsUsers L p g).fr y i++cs))∨((opsUsers L p g).liv y i=false∧∃v,a=back v cs)
def AdvTo(L:Lay)(p:Par)(g:Gate)(i:Nat)(x0:OX L)(w0:World)(S:OX L→Prop)(x:OX L)(cs:List Frame)(a:Goroutine)(u:World):Prop:=
 ∃y,S y∧(∀j,j≠i→y.th j=x.th j)∧OU L p g y u∧(∀r,OR L p y r→OR L p x0 r∨w0.heap.size≤r)∧TEnd L p g i y cs a
theorem own_adv(hL:L.Ok)(hP:p.Ok L)(hi:i<p.n)(hF0:∀r,OR L p x0 r→F r=none)(hw0:Wf F w0)(c:Frame)(cs:List Frame):∀(m:Nat) (x:OX L) (w:World) (A:Array Value),(p.ops i).length - (x.th i).k=m→OU L p g x w→(x.th i).call=none→Wf F w→w0.heap.size≤w.heap.size→(∀r,OR L p x r→OR L p x0 r∨w0.heap.size≤r)→Slots 33 A (dgS p (g.st i) i (x.th i).k)→
 Own Try.prog false F (AdvTo L p g i x0 w0 (fun y=>Adv L p i (x.s,x.th i) (y.s,y.th i)) x (c::cs)) (G ((Go.Conc.base 99).at ⟨A,[]⟩ [.code dgs2,.inLoop dgs2,.inBlock 0]) (c::cs)) w:=by
 have hFn:∀r,OR L p x0 r∨w0.heap.size≤r→F r=none:=fun r h=>h.elim (hF0 r) (wf_none hw0)
 intro m
 induction m with
 | zero=>
   intro x w A hm h hc hwf hsz hO hA
   have hk:(x.th i).k=(p.ops i).length:=by have:=(h.thr i hi).kl;omega
   rw[hk]at hA
   refine dg_3 hA (.stop fun d=>⟨x,.done hc hk,fun j _=>rfl,h.at hL d,hO,.inr ⟨?_,_,rfl⟩⟩)
   show(x.th i).call.isSome=false
   rw[hc]
   rfl
 | succ m ih=>
   intro x w A hm h hc hwf hsz hO hA
   have hk:(x.th i).k<(p.ops i).length:=by omega
   obtain⟨o,ho⟩:∃o,(p.ops i)[(x.th i).k]? =some o:=⟨_,List.getElem?_eq_getElem hk⟩
   obtain⟨opb,oo,hoa,f0,f1,f2,f3,g0,g1,g2,g3⟩:=hP.op w h.fix i hi _ o ho
   have hdb:=hP.db w h.fix
   have hib:=hP.ib w h.fix i hi
   have hA':=hA
   unfold dgS at hA'
   rw[hoa]at hA'
   refine dg_1 (wf_under hwf) (Nat.le_refl _) hL.call hk (hP.len i hi) hdb.c hdb.z hib.c hib.z hdb.lt hib.lt f0 f1 f2 f3 g0 g1 g2 g3 hA' fun A1 hA1=>?_
   have hA1':Slots 33 A1 (dgS8 p (g.st i) i (x.th i).k (w.heap.size+1)):=by
    unfold dgS8
    rw[hoa]
    obtain⟨b0,b1,b2,b3,b4,b5,b6,b7,b8⟩:=hA1
    exact⟨b0,b1,b2,b3,b4,b5,b7,b8⟩
   have e1:∀r,r<w.heap.size→((w.alloc (.cells #[.int .i64 o.kd,.int .i64 o.a,.int .i64 o.b,.int .i64 o.c] 47)).alloc (.cells #[.bool false,.int .i64 0,.slice none 0 0] 44)).heap[r]? =w.heap[r]?:=fun r hr=>by
    rw[heap_alloc_lt _ _ (by simp;omega),heap_alloc_lt _ _ hr]
   have e2:((w.alloc (.cells #[.int .i64 o.kd,.int .i64 o.a,.int .i64 o.b,.int .i64 o.c] 47)).alloc (.cells #[.bool false,.int .i64 0,.slice none 0 0] 44)).heap[w.heap.size+1]? =some (.cells #[.bool false,.int .i64 0,.slice none 0 0] 44 (0,0)):=by
    have:=heap_alloc_new (w.alloc (.cells #[.int .i64 o.kd,.int .i64 o.a,.int .i64 o.b,.int .i64 o.c] 47)) (.cells #[.bool false,.int .i64 0,.slice none 0 0] 44)
    simpa using this
   have e3:((w.alloc (.cells #[.int .i64 o.kd,.int .i64 o.a,.int .i64 o.b,.int .i64 o.c] 47)).alloc (.cells #[.bool false,.int .i64 0,.slice none 0 0] 44)).heap.size=w.heap.size+2:=by simp
   generalize (w.alloc (.cells #[.int .i64 o.kd,.int .i64 o.a,.int .i64 o.b,.int .i64 o.c] 47)).alloc (.cells #[.bool false,.int .i64 0,.slice none 0 0] 44)=W at e1 e2 e3 ⊢
   have hx:OU L p g x W:=h.stable hL (by omega) fun r hr=>e1 r (hr.elim (h.low hL) (fixed_lt h.fix))
   have hans:Ans W (w.heap.size+1):=⟨⟨_,_,_,e2⟩⟩
   have hnf:NF L p x (w.heap.size+1):=⟨fun hh=>by have:=h.low hL hh;omega,h.inone' (.inr (by omega))⟩
   have hwf1:Wf F W:=by
    constructor
    intro r z hz
    obtain⟨c,e,z0,h1,h2⟩:=hwf.own r z hz
    exact⟨c,e,z0,(e1 r (alt h1)).trans h1,h2⟩
   have hSF:∀r,L.SR x.s r→F r=none:=fun r hr=>hFn r (hO r (.inl hr))
   have key:=own_gd (hL.beg x.s i o (g.st i) (FU F (fun r=>L.SR x.s r) W) W (dgFr A1) (c::cs) hx.su fu_wf fun r hr=>fu_mine hr)
   refine(own_weaken (fun a ha=>fu_held hwf1 hSF ha) key).bind fun a u hs=>?_
   obtain⟨hgd,s',res,hrel,hsu,hsr,hres⟩:=hs u.drawn
   have hgd:Gd (FU F (fun r=>L.SR x.s r) W) W u:=hgd
   have hsu:L.SU s' u:=hsu
   have hus:W.heap.size≤u.heap.size:=hgd.size
   have hsame:∀r,r<W.heap.size→¬MineC L x i r→u.heap[r]? =W.heap[r]?:=fun r hr hm=>fu_same hgd (fun hh=>hm (.inl hh)) hr
   have hsr2:∀q,L.SR s' q→MineC L x i q∨W.heap.size≤q:=by
    intro q hq
    rcases hsr q hq with h1|h1|h1
    ·exact .inl (.inl h1)
    ·exact h1.elim
    ·exact .inr h1
   have hwf2:Wf F u:=by
    constructor
    intro r z hz
    obtain⟨c,e,z0,h1,h2⟩:=hwf1.own r z hz
    refine⟨c,e,z0,(fu_same hgd (fun hh=>?_) (alt h1)).trans h1,h2⟩
    rw[hSF r hh]at hz
    cases hz
   cases res with
   | inl c1=>
     obtain⟨hjj,hcu,hcr,hcs,rfl⟩:=hres
     have hcu:L.CU c1 u:=hcu
     obtain⟨q1,q2⟩:=ou_next hL hx hi hus hsame hsu hsr2 (call':=some (c1,A1,w.heap.size+1)) (fun _ c2 h2=>hL.jb _ _ _ _ _ _ _ h2 hrel) (by
      intro c A ab e
      cases e
      exact⟨hjj,hA1',hcu,fun q hq=>(hcr q hq).elim False.elim .inr,hcs,hk,.inr ⟨hans,hnf⟩⟩)
     refine .stop fun d=>⟨_,?_,fun j hj=>upd_ne hj,q1.at hL d,fun r hr=>?_,.inl ⟨?_,?_⟩⟩
     ·show Adv L p i (x.s,x.th i) (s',(upd x i s' {x.th i with call:=some (c1,A1,w.heap.size+1)}).th i)
      rw[upd_self]
      exact .live ho hrel
     ·rcases q2 r hr with h1|h1|⟨c2,A2,h1⟩
      ·exact hO r h1
      ·exact .inr (by omega)
      ·cases h1
       exact .inr (by omega)
     ·show((upd x i s' {x.th i with call:=some (c1,A1,w.heap.size+1)}).th i).call.isSome=true
      rw[upd_self]
      rfl
     ·simp only[opsUsers,upd_self,List.append_assoc,List.cons_append,List.nil_append]
   | inr an=>
     obtain⟨hau,har,has,rfl⟩:=hres
     have hau:L.AU an u:=hau
     obtain⟨q1,q2⟩:=ou_next hL hx hi hus hsame hsu hsr2 (call':=none) (fun _ c2 h2=>hL.jb _ _ _ _ _ _ _ h2 hrel) (by intro c A ab e;cases e)
     have hq2:∀r,OR L p (upd x i s' {x.th i with call:=none}) r→OR L p x0 r∨w0.heap.size≤r:=by
      intro r hr
      rcases q2 r hr with h1|h1|⟨c2,A2,h1⟩
      ·exact hO r h1
      ·exact .inr (by omega)
      ·cases h1
     have hti:(upd x i s' {x.th i with call:=none}).th i={x.th i with call:=none}:=upd_self
     have hAn:∀q,L.AR an q→W.heap.size≤q:=fun q hq=>(har q hq).elim False.elim id
     refine own_note hL hP hi (ab:=w.heap.size+1) q1 (by rw[hti]) (by rw[hti];exact hk) hau (fun r hr=>⟨nf_after hL hx hi (.inr (hAn r hr)) (has r hr),fun e=>by have:=hAn r hr;omega⟩) (ans_same hans (hsame _ (by omega) fun hm=>hnf.1 (mine_or hi hm))) (nf_fresh hL hx hi hsr2 (by omega) hnf hc) hwf2 ?_ (by rw[hti];exact hA1') ?_
     ·rintro r (h1|rfl)
      ·exact hFn r (hq2 r h1)
      ·exact hFn _ (.inr (by omega))
     ·intro w' A2 v' r1 r2 r3 r4 r5
      rw[hti]at r1 r2 r5
      have hti2:∀t:Thr L,(upd (upd x i s' {x.th i with call:=none}) i (upd x i s' {x.th i with call:=none}).s t).th i=t:=fun t=>upd_self
      refine(ih _ w' A2 (by rw[hti2];simp only;omega) r1 (by rw[hti2]) r4 (by omega) ?_ (by rw[hti2];exact r5)).bind fun a u hs=>.stop fun d=>?_
      ·intro r hr
       rcases r2 r hr with h1|h1|h1
       ·exact hq2 r h1
       ·exact .inr (by have:=hAn r h1;omega)
       ·exact .inr (by omega)
      ·obtain⟨y,k1,k2,k3,k4,k5⟩:=hs d
       refine⟨y,?_,fun j hj=>?_,k3,k4,k5⟩
       ·rw[hti2]at k1
        exact .imm ho hrel k1
       ·rw[k2 j hj,upd_ne hj,upd_ne hj]
end
section
variable{F:Fz}{w w' w0:World}{L:Lay}{p:Par}{g:Gate}{x y x0:OX L}{i:Nat}
theorem plain_dg(A:Array Value):Plain (dgFr A):=⟨rfl,rfl,⟨_,Try.func99⟩⟩
theorem own_stp(hL:L.Ok)(hP:p.Ok L)(hi:i<p.n)(h:OU L p g x w){c0:L.C}{A:Array Value}{ab:Nat}(hc:(x.th i).call=some (c0,A,ab))(hwf:Wf F w)(hF:∀r,OR L p x r→F r=none)(c:Frame)(cs:List Frame):
 Own Try.prog false F (AdvTo L p g i x w (fun y=>Stp L p i (x.s,x.th i) (y.s,y.th i)) x (c::cs)) (back (.tuple #[]) (L.cf (g.st i) c0++dgFr A::c::cs)) w:=by
 obtain⟨hA,hans,hcu0,k4,k5,k6,k7,hk⟩:=(h.thr i hi).call c0 A ab hc
 have hT:TR (x.th i) ab:=.inr (.inr ⟨c0,A,ab,hc,.inl rfl⟩)
 have hablt:ab<w.heap.size:=(h.thr i hi).low hL hT
 have hdis:∀q,L.CR c0 q→¬L.SR x.s q:=fun q hq=>(h.ts i hi q (.inr (.inr ⟨c0,A,ab,hc,.inr hq⟩))).1
 have hMF:∀r,(L.SR x.s r∨L.CR c0 r)→F r=none:=fun r hr=>hF r (hr.elim .inl fun hr=>.inr (.inr ⟨i,hi,.inr (.inr ⟨c0,A,ab,hc,.inr hr⟩)⟩))
 have key:=own_gd (hL.stp x.s c0 (g.st i) (FU F (fun r=>L.SR x.s r∨L.CR c0 r) w) w (dgFr A) (c::cs) (h.jj i hi c0 A ab hc) h.su hcu0 hdis fu_wf fun r hr=>fu_mine hr)
 refine(own_weaken (fun a ha=>fu_held hwf hMF ha) key).bind fun a u hs=>?_
 obtain⟨hgd,s',res,hrel,hsu,hsr,hres⟩:=hs u.drawn
 have hgd:Gd (FU F (fun r=>L.SR x.s r∨L.CR c0 r) w) w u:=hgd
 have hsu:L.SU s' u:=hsu
 have hus:w.heap.size≤u.heap.size:=hgd.size
 have hCM:∀q,L.CR c0 q→MineC L x i q:=fun q hq=>.inr ⟨c0,A,ab,hc,hq⟩
 have hsame:∀r,r<w.heap.size→¬MineC L x i r→u.heap[r]? =w.heap[r]?:=fun r hr hm=>fu_same hgd (fun hh=>hm (hh.elim .inl (hCM r))) hr
 have hsr2:∀q,L.SR s' q→MineC L x i q∨w.heap.size≤q:=by
  intro q hq
  rcases hsr q hq with h1|h1|h1
  ·exact .inl (.inl h1)
  ·exact .inl (hCM q h1)
  ·exact .inr h1
 have hwf2:Wf F u:=by
  constructor
  intro r z hz
  obtain⟨c,e,z0,h1,h2⟩:=hwf.own r z hz
  refine⟨c,e,z0,(fu_same hgd (fun hh=>?_) (alt h1)).trans h1,h2⟩
  rw[hMF r hh]at hz
  cases hz
 cases res with
 | inl c1=>
   obtain⟨hjj,hcu,hcr,hcs,rfl⟩:=hres
   have hcu:L.CU c1 u:=hcu
   obtain⟨q1,q2⟩:=ou_next hL h hi hus hsame hsu hsr2 (call':=some (c1,A,ab)) (fun _ c2 h2=>hL.js _ _ _ _ _ _ h2 hrel) (by
    intro c A1 ab1 e
    cases e
    exact⟨hjj,hA,hcu,fun q hq=>(hcr q hq).elim (fun h1=>.inl (hCM q h1)) .inr,hcs,hk,.inl ⟨c0,A,hc⟩⟩)
   refine .stop fun d=>⟨_,?_,fun j hj=>upd_ne hj,q1.at hL d,fun r hr=>?_,.inl ⟨?_,?_⟩⟩
   ·show Stp L p i (x.s,x.th i) (s',(upd x i s' {x.th i with call:=some (c1,A,ab)}).th i)
    rw[upd_self]
    exact .live hc hrel
   ·rcases q2 r hr with h1|h1|⟨c2,A2,h1⟩
    ·exact .inl h1
    ·exact .inr h1
    ·cases h1
     exact .inl (.inr (.inr ⟨i,hi,hT⟩))
   ·show((upd x i s' {x.th i with call:=some (c1,A,ab)}).th i).call.isSome=true
    rw[upd_self]
    rfl
   ·simp only[opsUsers,upd_self,List.append_assoc,List.cons_append,List.nil_append]
 | inr an=>
   obtain⟨hau,har,has,rfl⟩:=hres
   have hau:L.AU an u:=hau
   obtain⟨q1,q2⟩:=ou_next hL h hi hus hsame hsu hsr2 (call':=none) (fun _ c2 h2=>hL.js _ _ _ _ _ _ h2 hrel) (by intro c A ab e;cases e)
   have hFn:∀r,OR L p x r∨w.heap.size≤r→F r=none:=fun r h=>h.elim (hF r) (wf_none hwf)
   have hq2:∀r,OR L p (upd x i s' {x.th i with call:=none}) r→OR L p x r∨w.heap.size≤r:=by
    intro r hr
    rcases q2 r hr with h1|h1|⟨c2,A2,h1⟩
    ·exact .inl h1
    ·exact .inr h1
    ·cases h1
   have hti:(upd x i s' {x.th i with call:=none}).th i={x.th i with call:=none}:=upd_self
   have hOA:∀q,L.AR an q→OR L p x q∨w.heap.size≤q:=fun q hq=>(har q hq).elim (fun h1=>.inl (mine_or hi (hCM q h1))) .inr
   refine own_note hL hP hi (ab:=ab) q1 (by rw[hti]) (by rw[hti];exact hk) hau (fun r hr=>⟨nf_after hL h hi ((har r hr).elim (fun h1=>.inl ⟨c0,A,ab,hc,h1⟩) .inr) (has r hr),?_⟩) (ans_same hans (hsame _ hablt (h.abM hi hc))) (nf_ab hL h hi hsr2 hc) hwf2 ?_ (by rw[hti];exact hA) ?_
   ·rintro rfl
    rcases har _ hr with h1|h1
    ·exact k4 h1
    ·omega
   ·rintro r (h1|rfl)
    ·exact hFn r (hq2 r h1)
    ·exact hFn _ (.inl (.inr (.inr ⟨i,hi,hT⟩)))
   ·intro w' A2 v' r1 r2 r3 r4 r5
    rw[hti]at r1 r2 r5
    have hti2:∀t:Thr L,(upd (upd x i s' {x.th i with call:=none}) i (upd x i s' {x.th i with call:=none}).s t).th i=t:=fun t=>upd_self
    refine(own_adv hL hP hi hF hwf c cs _ _ w' A2 rfl r1 (by rw[hti2]) r4 (by omega) ?_ (by rw[hti2];exact r5)).bind fun a u hs=>.stop fun d=>?_
    ·intro r hr
     rcases r2 r hr with h1|h1|h1
     ·exact hq2 r h1
     ·exact hOA r h1
     ·exact .inr (by omega)
    ·obtain⟨y,k1,k2,k3,k4,k5⟩:=hs d
     refine⟨y,?_,fun j hj=>?_,k3,k4,k5⟩
     ·rw[hti2]at k1
      exact .ans hc hrel k1
     ·rw[k2 j hj,upd_ne hj,upd_ne hj]
theorem ops_ok(hL:L.Ok)(hP:p.Ok L)(hn:g.n=p.n):(opsUsers L p g).Ok g where
 call:=callable99
 plain:=by
  intro x i hl
  have hl:(x.th i).call.isSome=true:=hl
  obtain⟨⟨c0,A,ab⟩,hc⟩:=Option.isSome_iff_exists.1 hl
  have e:(opsUsers L p g).fr x i=L.cf (g.st i) c0++[dgFr A]:=by simp only[opsUsers,hc]
  rw[e]
  refine⟨by simp,fun u hu=>?_⟩
  rcases List.mem_append.1 hu with hu|hu
  ·exact(hL.plain _ _).2 u hu
  ·rw[List.mem_singleton]at hu
   subst hu
   exact plain_dg A
 stable:=fun x w w' h hsz hs=>OU.stable hL h hsz hs
 fix:=fun x w r o h hr=>⟨OU.fix h r o hr,hP.cells r o hr⟩
 low:=fun x w r h hr=>OU.low hL h hr
 stpO:=by
  intro x i y j h hj
  have e:=h.2 j hj
  exact⟨by simp only[opsUsers,e],by simp only[opsUsers,e]⟩
 borO:=by
  intro x i y j h hj
  have e:=h.2 j hj
  exact⟨by simp only[opsUsers,e],by simp only[opsUsers,e]⟩
 nwO:=by
  intro x i y j h hj hnw
  have e:=h.2 j hj
  simp only[opsUsers,e]at hnw ⊢
  exact hnw
 go:=by
  intro x i hi hl F w c cs h hwf hF
  have hl:(x.th i).call.isSome=true:=hl
  obtain⟨⟨c0,A,ab⟩,hc⟩:=Option.isSome_iff_exists.1 hl
  have e:(opsUsers L p g).fr x i++c::cs=L.cf (g.st i) c0++dgFr A::c::cs:=by simp only[opsUsers,hc,List.append_assoc,List.cons_append,List.nil_append]
  rw[e]
  refine(own_stp hL hP (by omega) h hc hwf hF c cs).bind fun a u hs=>.stop fun d=>?_
  obtain⟨y,k1,k2,k3,k4,k5⟩:=hs d
  exact⟨y,⟨k1,k2⟩,k3,k4,k5⟩
 born:=by
  intro x i hi hnw F w c cs h hwf hF
  have h:OU L p g x w:=h
  have hob:=hP.ob w h.fix i (by omega)
  have hF:∀r,OR L p x r→F r=none:=hF
  refine dg_0 (sv:=stepperV (g.st i)) (ob:=p.ob i) (db:=p.db) (ib:=p.ib i) (av:=p.av) hob.c hob.z fun A hA=>?_
  refine(own_adv hL hP (by omega) hF hwf c cs _ x w A rfl h hnw.1 hwf (Nat.le_refl _) (fun r hr=>.inl hr) (by rw[hnw.2];exact hA)).bind fun a u hs=>.stop fun d=>?_
  obtain⟨y,k1,k2,k3,k4,k5⟩:=hs d
  exact⟨y,⟨k1,k2⟩,k3,k4,k5⟩
end
noncomputable section
structure Pl where
 S:Type
 C:Type
 A:Type
 beg:S→Op4→S×(C ⊕ A)
 stp:S→C→S×(C ⊕ A)
variable{m:Pl}
structure GT(m:Pl)where
 k:Nat
 call:Option m.C
 ans:List m.A
def advG(m:Pl):List Op4→m.S→GT m→m.S×GT m
 | [],q,t=>(q,t)
 | o::l,q,t=>match m.beg q o with
   | (q',.inl c)=>(q',{t with call:=some c})
   | (q',.inr a)=>advG m l q' ⟨t.k+1,none,t.ans++[a]⟩
def stpG(m:Pl)(ops:List Op4)(q:m.S)(t:GT m):m.S×GT m:=match t.call with
 | none=>(q,t)
 | some c=>match m.stp q c with
   | (q',.inl c')=>(q',{t with call:=some c'})
   | (q',.inr a)=>advG m (ops.drop (t.k+1)) q' ⟨t.k+1,none,t.ans++[a]⟩
structure GS(m:Pl)where
 q:m.S
 th:Nat→GT m
def GS.put(s:GS m)(i:Nat)(r:m.S×GT m):GS m:=⟨r.1,fun j=>if j=i then r.2 else s.th j⟩
def GS.live(s:GS m)(j:Nat):Bool:=(s.th j).call.isSome
def gBorns(m:Pl)(ops:Nat→List Op4):Nat→GS m→GS m
 | 0,s=>s
 | i+1,s=>let y:=gBorns m ops i s;y.put i (advG m (ops i) y.q (y.th i))
def gTurn(ops:Nat→List Op4)(n M:Nat)(s:GS m×List Nat)(i:Int):GS m×List Nat:=
 if 0≤i∧i<n∧s.1.live i.toNat=true∧s.2.length≠M then(s.1.put i.toNat (stpG m (ops i.toNat) s.1.q (s.1.th i.toNat)),s.2++[i.toNat])else s
def gTurns(ops:Nat→List Op4)(n M:Nat):List Int→GS m×List Nat→GS m×List Nat
 | [],s=>s
 | i::l,s=>gTurns ops n M l (gTurn ops n M s i)
def gDone(n M:Nat)(s:GS m×List Nat):Prop:=cnt s.1.live n=0∨M≤s.2.length
instance(n M:Nat)(s:GS m×List Nat):Decidable (gDone n M s):=by unfold gDone;infer_instance
def gRounds(ops:Nat→List Op4)(n M:Nat):Nat→GS m×List Nat→GS m×List Nat
 | 0,s=>s
 | f+1,s=>if gDone n M s then s else gRounds ops n M f (gTurns ops n M ((List.range n).map fun j:Nat=>(j:Int)) s)
theorem gRounds_done{ops:Nat→List Op4}{n M:Nat}{s:GS m×List Nat}(h:gDone n M s)(f:Nat):gRounds ops n M f s=s:=by
 cases f with
 | zero=>rfl
 | succ f=>exact if_pos h
def gOver(ops:Nat→List Op4)(n M:Nat)(S:List Int)(f:Nat)(s:GS m):GS m×List Nat:=gRounds ops n M f (gTurns ops n M S (gBorns m ops n s,[]))
structure Abs(L:Lay)(m:Pl)where
 s:L.S→m.S
 c:L.C→m.C
 a:L.A→m.A
def Abs.r{L:Lay}(ab:Abs L m):L.C ⊕ L.A→m.C ⊕ m.A
 | .inl c=>.inl (ab.c c)
 | .inr a=>.inr (ab.a a)
structure Abs.Ok{L:Lay}(ab:Abs L m):Prop where
 beg:∀s i o y,L.beg s i o y→(ab.s y.1,ab.r y.2)=m.beg (ab.s s) o
 stp:∀s c y,L.stp s c y→(ab.s y.1,ab.r y.2)=m.stp (ab.s s) (ab.c c)
variable{L:Lay}{ab:Abs L m}{p:Par}{g:Gate}
def Abs.t(ab:Abs L m)(t:Thr L):GT m:=⟨t.k,t.call.map fun c=>ab.c c.1,t.ans.map ab.a⟩
def Abs.x(ab:Abs L m)(x:OX L):GS m:=⟨ab.s x.s,fun j=>ab.t (x.th j)⟩
theorem advG_abs(ok:ab.Ok){i:Nat}{a b:L.S×Thr L}(h:Adv L p i a b):a.2.call=none→(ab.s b.1,ab.t b.2)=advG m ((p.ops i).drop a.2.k) (ab.s a.1) (ab.t a.2):=by
 induction h with
 | done h1 h2=>
   intro _
   rw[h2,List.drop_length]
   rfl
 | @live s s' t o c A a2 ho hb=>
   intro hc
   obtain⟨hlt,e⟩:=List.getElem?_eq_some_iff.1 ho
   have hb2:=ok.beg _ _ _ _ hb
   show _=advG m ((p.ops i).drop t.k) (ab.s s) (ab.t t)
   rw[List.drop_eq_getElem_cons hlt,e]
   simp only[advG]
   rw[← hb2]
   rfl
 | @imm s s' t o an row y ho hb _ ih=>
   intro hc
   obtain⟨hlt,e⟩:=List.getElem?_eq_some_iff.1 ho
   have hb2:=ok.beg _ _ _ _ hb
   have ih:=ih rfl
   show _=advG m ((p.ops i).drop t.k) (ab.s s) (ab.t t)
   rw[List.drop_eq_getElem_cons hlt,e]
   simp only[advG]
   rw[← hb2]
   simp only[Abs.r]
   rw[ih]
   simp[Abs.t]
theorem stpG_abs(ok:ab.Ok){i:Nat}{a b:L.S×Thr L}(h:Stp L p i a b):(ab.s b.1,ab.t b.2)=stpG m (p.ops i) (ab.s a.1) (ab.t a.2):=by
 cases h with
 | @live s s' t c c' A a2 hc hb=>
   have hb2:=ok.stp _ _ _ hb
   have e:(ab.t t).call=some (ab.c c):=by simp[Abs.t,hc]
   show _=stpG m (p.ops i) (ab.s s) (ab.t t)
   simp only[stpG,e]
   rw[← hb2]
   rfl
 | @ans s s' t c A a2 an row y hc hb ha=>
   have hb2:=ok.stp _ _ _ hb
   have e:(ab.t t).call=some (ab.c c):=by simp[Abs.t,hc]
   have ih:=advG_abs ok ha rfl
   show _=stpG m (p.ops i) (ab.s s) (ab.t t)
   simp only[stpG,e]
   rw[← hb2]
   simp only[Abs.r]
   rw[ih]
   simp[Abs.t]
abbrev LUs(L:Lay)(p:Par)(g:Gate):Users:=opsUsers L p g
theorem putG_abs{x y:OX L}{i:Nat}{r:m.S×GT m}(hr:(ab.s y.s,ab.t (y.th i))=r)(h:∀j,j≠i→y.th j=x.th j):ab.x y=(ab.x x).put i r:=by
 subst hr
 simp only[Abs.x,GS.put,GS.mk.injEq,true_and]
 funext j
 by_cases e:j=i
 ·rw[if_pos e,e]
 ·rw[if_neg e,h j e]
theorem livG_abs(x:OX L)(j:Nat):(LUs L p g).liv x j=(ab.x x).live j:=by
 show(x.th j).call.isSome=((x.th j).call.map _).isSome
 rw[Option.isSome_map]
theorem bornG_abs(ok:ab.Ok){x y:OX L}{i:Nat}(hn:(LUs L p g).nw x i)(h:(LUs L p g).bor x i y):ab.x y=(ab.x x).put i (advG m (p.ops i) (ab.x x).q ((ab.x x).th i)):=by
 refine putG_abs ?_ h.2
 have h1:=advG_abs ok h.1 hn.1
 have h2:(x.th i).k=0:=hn.2
 rw[show(x.s,x.th i).2.k=0 from h2,List.drop_zero]at h1
 exact h1
theorem bornsG_abs(ok:ab.Ok)(zok:(LUs L p g).Ok g):∀(i:Nat) (x y:OX L),(∀j,j<i→(LUs L p g).nw x j)→Borns (LUs L p g) i x y→ab.x y=gBorns m p.ops i (ab.x x)
 | 0,x,y,_,h=>by
   have h:y=x:=h
   rw[h];rfl
 | i+1,x,z,hn,⟨y,h1,h2⟩=>by
   have e:=bornsG_abs ok zok i x y (fun j hj=>hn j (by omega)) h1
   have hny:(LUs L p g).nw y i:=borns_nw zok i x y h1 i (Nat.le_refl i) (hn i (by omega))
   simp only[gBorns]
   rw[← e]
   exact bornG_abs ok hny h2
theorem turnG_abs(ok:ab.Ok){n M:Nat}{s t:OX L×List Nat}{i:Int}(h:Turn (LUs L p g) n M s i t):(ab.x t.1,t.2)=gTurn p.ops n M (ab.x s.1,s.2) i:=by
 unfold Turn at h
 unfold gTurn
 simp only[← livG_abs (ab:=ab) (p:=p) (g:=g)]
 split at h
 ·rename_i hc
  rw[if_pos hc]
  obtain⟨h1,h2⟩:=h
  refine Prod.ext ?_ h2
  exact putG_abs (stpG_abs ok h1.1) h1.2
 ·rename_i hc
  rw[if_neg hc,h]
theorem turnsG_abs(ok:ab.Ok){n M:Nat}:∀(l:List Int) (s t:OX L×List Nat),Turns (LUs L p g) n M l s t→(ab.x t.1,t.2)=gTurns p.ops n M l (ab.x s.1,s.2)
 | [],s,t,h=>by
   have h:t=s:=h
   rw[h];rfl
 | i::l,s,t,⟨u,h1,h2⟩=>by
   simp only[gTurns]
   rw[← turnG_abs ok h1]
   exact turnsG_abs ok l u t h2
theorem roundsG_gen{Z:Users}{ops:Nat→List Op4}{n M:Nat}(ab:Z.X→GS m)(hl:∀x j,Z.liv x j=(ab x).live j)(ht:∀l s t,Turns Z n M l s t→(ab t.1,t.2)=gTurns ops n M l (ab s.1,s.2)){s t:Z.X×List Nat}(h:Rounds Z n M s t):gDone n M (ab t.1,t.2)∧∃k,∀f,k≤f→gRounds ops n M f (ab s.1,s.2)=(ab t.1,t.2):=by
 have hc:∀x,cnt (Z.liv x) n=cnt (ab x).live n:=fun x=>cnt_congr fun j _=>hl x j
 induction h with
 | done h=>
   rw[hc]at h
   have h:gDone n M (ab _,_):=h
   exact⟨h,0,fun f _=>gRounds_done h f⟩
 | more h1 h2 h3 _ ih=>
   obtain⟨hd,k,hk⟩:=ih
   refine⟨hd,k+1,fun f hf=>?_⟩
   obtain⟨f,rfl⟩:∃e,f=e+1:=⟨f - 1,by omega⟩
   rw[hc]at h1
   simp only[gRounds]
   rw[if_neg (fun h=>h.elim (fun h=>by simp only at h;omega) fun h=>by simp only at h;omega),← ht _ _ _ h3]
   exact hk f (by omega)
theorem roundsG_abs(ok:ab.Ok){n M:Nat}{s t:OX L×List Nat}(h:Rounds (LUs L p g) n M s t):gDone n M (ab.x t.1,t.2)∧∃k,∀f,k≤f→gRounds p.ops n M f (ab.x s.1,s.2)=(ab.x t.1,t.2):=
 roundsG_gen (Z:=LUs L p g) ab.x livG_abs (turnsG_abs ok) h
theorem overG_abs(ok:ab.Ok)(zok:(LUs L p g).Ok g){n M:Nat}{S:List Int}{x0:OX L}(hnw:∀j,j<n→(LUs L p g).nw x0 j){t:OX L×List Nat}(h:OverRel (LUs L p g) n M S x0 t):gDone n M (ab.x t.1,t.2)∧∃k,∀f,k≤f→gOver p.ops n M S f (ab.x x0)=(ab.x t.1,t.2):=by
 obtain⟨x1,h1,s,h2,h3⟩:=h
 obtain⟨hd,k,hk⟩:=roundsG_abs ok h3
 refine⟨hd,k,fun f hf=>?_⟩
 rw[← hk f hf,turnsG_abs ok _ _ _ h2,bornsG_abs ok zok n x0 x1 hnw h1]
 rfl
end
noncomputable section
variable{F:Fz}{w:World}
def diBody:Code:=Try.f81.body.getD .skip
def dis0:=pC [] diBody
def dir0:=pC [zt] diBody
def dis1:=pC [zf] diBody
def dir1:=pC [zf,zt] diBody
def dis2:=pC [zf,zf] diBody
def dir2:=pC [zf,zf,zt] diBody
def dis3:=pC [zf,zf,zf] diBody
def dir3:=pC [zf,zf,zf,zt] diBody
def dis4:=pC [zf,zf,zf,zf] diBody
def dis5:=pC [zf,zf,zf,zf,zt] diBody
def dir4:=pC [zf,zf,zf,zf,zt,zt] diBody
def dib0:=pC [zf,zf,zf,zf,zt,zf] diBody
def dil6:=pC [zf,zf,zf,zf,zt,zf,zt] diBody
def dis7:=pC [zf,zf,zf,zf,zt,zf,zt,zt] diBody
def dir5:=pC [zf,zf,zf,zf,zt,zf,zt,zt,zt] diBody
def dis8:=pC [zf,zf,zf,zf,zt,zf,zt,zt,zf] diBody
def dic18:=pC [zf,zf,zf,zf,zt,zf,zt,zt,zf,zt] diBody
def dis9:=pC [zf,zf,zf,zf,zt,zf,zt,zt,zf,zf] diBody
def dib1:=pC [zf,zf,zf,zf,zt,zf,zt,zt,zf,zf,zt] diBody
def dis10:=pC [zf,zf,zf,zf,zt,zf,zt,zt,zf,zf,zt,zt] diBody
def dir6:=pC [zf,zf,zf,zf,zt,zf,zt,zt,zf,zf,zt,zt,zt] diBody
def dis11:=pC [zf,zf,zf,zf,zt,zf,zt,zt,zf,zf,zt,zt,zf] diBody
def dir7:=pC [zf,zf,zf,zf,zt,zf,zt,zt,zf,zf,zt,zt,zf,zt] diBody
def dir8:=pC [zf,zf,zf,zf,zt,zf,zt,zt,zf,zf,zt,zt,zf,zf] diBody
def dir9:=pC [zf,zf,zf,zf,zt,zf,zt,zt,zf,zf,zf] diBody
def dis12:=pC [zf,zf,zf,zf,zf] diBody
def dir10:=pC [zf,zf,zf,zf,zf,zt] diBody
theorem dis0':dis0= .seq dir0 dis1:=by kernel_rfl
theorem dir0':dir0= .region 0 (oC dir0) false:=by kernel_rfl
theorem dis1':dis1= .seq dir1 dis2:=by kernel_rfl
theorem dir1':dir1= .region 1 (oC dir1) false:=by kernel_rfl
theorem dis2':dis2= .seq dir2 dis3:=by kernel_rfl
theorem dir2':dir2= .region 2 (oC dir2) false:=by kernel_rfl
theorem dis3':dis3= .seq dir3 dis4:=by kernel_rfl
theorem dir3':dir3= .region 3 (oC dir3) false:=by kernel_rfl
theorem dis4':dis4= .seq dis5 dis12:=by kernel_rfl
theorem dis5':dis5= .seq dir4 dib0:=by kernel_rfl
theorem dir4':dir4= .region 4 (oC dir4) false:=by kernel_rfl
theorem dib0':dib0= .block 0 dil6:=by kernel_rfl
theorem dil6':dil6= .loop dis7:=by kernel_rfl
theorem dis7':dis7= .seq dir5 dis8:=by kernel_rfl
theorem dir5':dir5= .region 5 (oC dir5) false:=by kernel_rfl
theorem dis8':dis8= .seq dic18 dis9:=by kernel_rfl
theorem dic18':dic18= .cond (.tmp 18) .skip (.exit 0):=by kernel_rfl
theorem dis9':dis9= .seq dib1 dir9:=by kernel_rfl
theorem dib1':dib1= .block 1 dis10:=by kernel_rfl
theorem dis10':dis10= .seq dir6 dis11:=by kernel_rfl
theorem dir6':dir6= .region 6 (oC dir6) false:=by kernel_rfl
theorem dis11':dis11= .seq dir7 dir8:=by kernel_rfl
theorem dir7':dir7= .region 7 (oC dir7) true:=by kernel_rfl
theorem dir8':dir8= .region 8 (oC dir8) false:=by kernel_rfl
theorem dir9':dir9= .region 9 (oC dir9) false:=by kernel_rfl
theorem dis12':dis12= .seq dir10 .ret:=by kernel_rfl
theorem dir10':dir10= .region 10 (oC dir10) true:=by kernel_rfl
theorem enter_di(args:Array Value):Frame.enter Try.prog 81 args .normal=(Go.Conc.base 81).at {tmps:=args++Array.replicate (38 - args.size) undef,defers:=[]} [.code dis0]:=enter_at args Try.func81 rfl
theorem callable81:Callable 81:=callable Try.func81 rfl rfl
def diT(s:Nat→Value):Array Value:= #[s 0,s 1,s 2,s 3,s 4,s 5,s 6,s 7,s 8,s 9,s 10,s 11,s 12,s 13,s 14,s 15,s 16,s 17,s 18,s 19,s 20,s 21,s 22,s 23,s 24,s 25,s 26,s 27,s 28,s 29,s 30,s 31,s 32,s 33,s 34,s 35,s 36,s 37]
theorem diT_of{A:Array Value}(h:A.size=38):∃s,A=diT s:=by
 obtain⟨s,hs,_⟩:=arr_lit A h
 exact⟨s,hs⟩
theorem info42:∃i,Try.prog.info? 42=some i∧i.zero=some (.slice none 0 0)∧i.size=1∧i.bytes=24:=by
 have h:(Try.prog.info? 42).map (fun i=>(i.size,i.bytes))=some (1,24):=by kernel_rfl
 have h0:(Try.prog.info? 42).bind (·.zero)=some (.slice none 0 0):=by kernel_rfl
 obtain⟨i,hi,h1⟩:=Option.map_eq_some_iff.1 h
 rw[hi]at h0
 simp only[Prod.mk.injEq]at h1
 exact⟨i,hi,h0,h1.1,h1.2⟩
section
variable{n:Nat}{es:Array Event}
@[go_sem] theorem mkSlice29(h:n≤64):(Instr.makeSlice 29 (.int .i64 n) (.int .i64 n)).run Try.prog w= .ok (.slice (some ⟨w.heap.size,0,none⟩) n n) (w.alloc (.cells (madeCells #[.slice none 0 0] n) 42)):=by
 obtain⟨i,hi,hz,hs,hb⟩:=info42
 have:=run_make (P:=Try.prog) w 29 42 i (.slice none 0 0) Try.underlying29 hi hz .i64 .i64 n n (by omega) (by omega) (by rw[hb];omega) (by omega)
 rw[hs]at this
 simpa [Value.cells]using this
@[go_sem] theorem mkSlice29e(h:n≤64):(Instr.makeSlice 29 (.int .i64 n) (.int .i64 n)).events Try.prog w es=es:=by
 obtain⟨i,hi,hz,hs,hb⟩:=info42
 exact events_make (P:=Try.prog) w 29 42 i (.slice none 0 0) Try.underlying29 hi hz .i64 .i64 n n (by omega) (by omega) (by rw[hb];omega) (by omega) (by rw[hb];omega) es
end
theorem set_new27(X:World)(u v:Value):(X.alloc (.cells #[u] 29)).setCell ⟨X.heap.size,0,none⟩ v=X.alloc (.cells #[v] 29):=by go_simp
theorem di_0{nn:Nat}(hU:Under F nn)(hn:nn≤w.heap.size){ta:Option Addr}{tl tc n df:Nat}{first capt:Array Value}(hn1:min tl 64=n){cs:List Frame}{main:Bool}{Stop:Goroutine→World→Prop}
 (h:∀A,Slots 38 A [(0,.slice ta tl tc),(3,.pointer (some ⟨w.heap.size,0,none⟩)),(6,.int .i64 n)]→Own Try.prog main F Stop (G ((Go.Conc.base 81).at ⟨A,[]⟩ [.code dis2]) cs) (w.alloc (.cells #[.func (.func df) first capt] 98))):
 Own Try.prog main F Stop (G (Frame.enter Try.prog 81 #[.slice ta tl tc,.func (.func df) first capt] .normal) cs) w:=by
 have hn2:(if(64:Int)<(tl:Int)then(64:Int)else tl)=(n:Int):=by split<;>omega
 rw[enter_di]
 walk_nrm
 refine ogSR dis0' dir0' ?_
 simp only[dir0,diBody,Try.f81,zz,Nat.reduceAdd]
 (refine oW fun dd K hK=>?_;go_simp;refine qA hK hU ?_;clear hK K)
 iterate 2 (refine oW fun dd K hK=>?_;go_simp;refine qT hK ?_;clear hK K)
 refine ogE ?_
 refine ogSR dis1' dir1' ?_
 simp only[dir1,diBody,Try.f81,zz,Nat.reduceAdd]
 iterate 4 (refine oW fun dd K hK=>?_;go_simp;refine qT hK ?_;clear hK K)
 refine ogE ?_
 refine h _ ?_
 exact⟨rfl,rfl,rfl,rfl,trivial⟩
theorem di_1{nn:Nat}(hU:Under F nn)(hn:nn≤w.heap.size){ta:Option Addr}{tl tc n db:Nat}(hn64:n≤64){A:Array Value}(hA:Slots 38 A [(0,.slice ta tl tc),(3,.pointer (some ⟨db,0,none⟩)),(6,.int .i64 n)]){cs:List Frame}{main:Bool}{Stop:Goroutine→World→Prop}
 (h:∀A,Slots 38 A [(0,.slice ta tl tc),(3,.pointer (some ⟨db,0,none⟩)),(6,.int .i64 n),(7,.pointer (some ⟨w.heap.size+1,0,none⟩)),(8,.slice none 0 0),(16,.int .i64 n),(17,.int .i64 (0:Nat))]→Own Try.prog main F Stop (G ((Go.Conc.base 81).at ⟨A,[]⟩ [.code dis7,.inLoop dis7,.inBlock 0,.code dis12]) cs) ((w.alloc (.cells (madeCells #[.slice none 0 0] n) 42)).alloc (.cells #[.slice (some ⟨w.heap.size,0,none⟩) n n] 29))):
 Own Try.prog main F Stop (G ((Go.Conc.base 81).at ⟨A,[]⟩ [.code dis2]) cs) w:=by
 obtain⟨hsz,h0,h3,h6,_⟩:=hA
 obtain⟨s,rfl⟩:=diT_of hsz
 change s 0=_ at h0
 change s 3=_ at h3
 change s 6=_ at h6
 clear hsz
 simp only[diT,h0,h3,h6]
 clear h0 h3 h6
 refine ogSR dis2' dir2' ?_
 simp only[dir2,diBody,Try.f81,zz,Nat.reduceAdd]
 (refine oW fun dd K hK=>?_;go_simp;refine qT hK ?_;clear hK K)
 (refine oW fun dd K hK=>?_;go_simp;refine hK _ _ ⟨⟨⟨0,grew_alloc hU (by first|(simp[go_sem];done)|(simp[go_sem];omega)) _⟩,fun e he=>by(have hm:=mem_listed he;clear he hK;simp[go_sem,storedEv,mkSlice29e hn64]at hm)⟩,?_⟩;clear hK K;rw[alloc_at'];refine Own.at ?_ dd)
 (refine oW fun dd K hK=>?_;go_simp;refine qA hK hU ?_;clear hK K)
 (refine oW fun dd K hK=>?_;go_simp;refine qS hK hU ?_;clear hK K)
 have e1:=set_new27 (w.alloc (.cells (madeCells #[.slice none 0 0] n) 42)) (.slice none 0 0) (.slice (some ⟨w.heap.size,0,none⟩) n n)
 simp only[World.size_alloc]at e1
 rw[e1]
 clear e1
 refine ogE ?_
 refine ogSR dis3' dir3' ?_
 simp only[dir3,diBody,Try.f81,zz,Nat.reduceAdd]
 (refine oW fun dd K hK=>?_;go_simp;refine qT hK ?_;clear hK K)
 refine ogE ?_
 refine ogSE dis4' ?_
 refine ogSR dis5' dir4' ?_
 simp only[dir4,diBody,Try.f81,zz,Nat.reduceAdd]
 iterate 2 (refine oW fun dd K hK=>?_;go_simp;refine qT hK ?_;clear hK K)
 refine ogE ?_
 rw[dib0']
 refine ogB ?_
 rw[dil6']
 refine ogP ?_
 refine h _ ?_
 exact⟨rfl,rfl,rfl,rfl,rfl,rfl,rfl,rfl,trivial⟩
theorem di_5{ta:Option Addr}{tl tc n db av:Nat}{l:Value}{A:Array Value}(hA:Slots 38 A [(0,.slice ta tl tc),(3,.pointer (some ⟨db,0,none⟩)),(6,.int .i64 n),(7,.pointer (some ⟨av,0,none⟩)),(8,l),(16,.int .i64 n),(17,.int .i64 n)]){cs:List Frame}{main:Bool}{Stop:Goroutine→World→Prop}
 (h:∀A,Slots 38 A [(0,.slice ta tl tc),(3,.pointer (some ⟨db,0,none⟩)),(6,.int .i64 n),(7,.pointer (some ⟨av,0,none⟩)),(8,l),(16,.int .i64 n),(17,.int .i64 n)]→Own Try.prog main F Stop (G ((Go.Conc.base 81).at ⟨A,[]⟩ [.code dir10,.code .ret]) cs) w):
 Own Try.prog main F Stop (G ((Go.Conc.base 81).at ⟨A,[]⟩ [.code dis7,.inLoop dis7,.inBlock 0,.code dis12]) cs) w:=by
 obtain⟨hsz,h0,h3,h6,h7,h8,h16,h17,_⟩:=hA
 obtain⟨s,rfl⟩:=diT_of hsz
 change s 0=_ at h0
 change s 3=_ at h3
 change s 6=_ at h6
 change s 7=_ at h7
 change s 8=_ at h8
 change s 16=_ at h16
 change s 17=_ at h17
 clear hsz
 simp only[diT,h0,h3,h6,h7,h8,h16,h17]
 clear h0 h3 h6 h7 h8 h16 h17
 have hlt:decide ((n:Int)<(n:Int))=false:=by simp
 refine ogSR dis7' dir5' ?_
 simp only[dir5,diBody,Try.f81,zz,Nat.reduceAdd]
 (refine oW fun dd K hK=>?_;go_simp;refine qT hK ?_;clear hK K)
 refine ogE ?_
 refine ogSE dis8' ?_
 rw[dic18']
 refine ogF ?_
 simp only[Bool.false_eq_true,if_false]
 refine own_go rfl (fun d=>stepG_exit rfl) ?_
 refine ogSE dis12' ?_
 refine h _ ?_
 exact⟨rfl,rfl,rfl,rfl,rfl,rfl,rfl,rfl,trivial⟩
theorem di_2{nn:Nat}(hU:Under F nn)(hn:nn≤w.heap.size){ta:Option Addr}{tl tc n db av k:Nat}{l:Value}(hk:k<n){A:Array Value}(hA:Slots 38 A [(0,.slice ta tl tc),(3,.pointer (some ⟨db,0,none⟩)),(6,.int .i64 n),(7,.pointer (some ⟨av,0,none⟩)),(8,l),(16,.int .i64 n),(17,.int .i64 k)]){cs:List Frame}{main:Bool}{Stop:Goroutine→World→Prop}
 (h:∀A,Slots 38 A ((9,.pointer (some ⟨w.heap.size,0,none⟩))::[(0,.slice ta tl tc),(3,.pointer (some ⟨db,0,none⟩)),(6,.int .i64 n),(7,.pointer (some ⟨av,0,none⟩)),(8,l),(16,.int .i64 n),(17,.int .i64 k)])→Own Try.prog main F Stop (G ((Go.Conc.base 81).at ⟨A,[]⟩ [.code dis11,.inBlock 1,.code dir9,.inLoop dis7,.inBlock 0,.code dis12]) cs) (w.alloc (.cells #[.int .i64 k] 3))):
 Own Try.prog main F Stop (G ((Go.Conc.base 81).at ⟨A,[]⟩ [.code dis7,.inLoop dis7,.inBlock 0,.code dis12]) cs) w:=by
 obtain⟨hsz,h0,h3,h6,h7,h8,h16,h17,_⟩:=hA
 obtain⟨s,rfl⟩:=diT_of hsz
 change s 0=_ at h0
 change s 3=_ at h3
 change s 6=_ at h6
 change s 7=_ at h7
 change s 8=_ at h8
 change s 16=_ at h16
 change s 17=_ at h17
 clear hsz
 simp only[diT,h0,h3,h6,h7,h8,h16,h17]
 clear h0 h3 h6 h7 h8 h16 h17
 have hlt:decide ((k:Int)<(n:Int))=true:=by simp;omega
 have hlt2:decide (k<n)=true:=by simp;omega
 refine ogSR dis7' dir5' ?_
 simp only[dir5,diBody,Try.f81,zz,Nat.reduceAdd]
 (refine oW fun dd K hK=>?_;go_simp;refine qT hK ?_;clear hK K)
 refine ogE ?_
 refine ogSE dis8' ?_
 rw[dic18']
 refine ogT ?_
 simp only[if_true]
 refine ogK ?_
 refine ogSE dis9' ?_
 rw[dib1']
 refine ogB ?_
 refine ogSR dis10' dir6' ?_
 simp only[dir6,diBody,Try.f81,zz,Nat.reduceAdd]
 (refine oW fun dd K hK=>?_;go_simp;refine qT hK ?_;clear hK K)
 (refine oW fun dd K hK=>?_;go_simp;refine qA hK hU ?_;clear hK K)
 (refine oW fun dd K hK=>?_;go_simp;refine qS hK hU ?_;clear hK K)
 rw[set_new]
 refine ogE ?_
 refine h _ ?_
 exact⟨rfl,rfl,rfl,rfl,rfl,rfl,rfl,rfl,rfl,trivial⟩
end
section
variable{F:Fz}{w:World}
structure SD(nn ib tb o k ol oc:Nat)(oa:Option Addr)(u:World):Prop where
 top:nn≤u.heap.size
 il:ib<u.heap.size
 tl:tb<u.heap.size
 ci:u.cell? ⟨ib,0,none⟩=some (.int .i64 k)
 zi:u.frozen? ⟨ib,0,none⟩=false
 ct:u.cell? ⟨tb,o+k,none⟩=some (.slice oa ol oc)
 zt:u.frozen? ⟨tb,o+k,none⟩=false
section
variable{nn ib tb o k ol oc:Nat}{oa:Option Addr}{u:World}
theorem SD.at(h:SD nn ib tb o k ol oc oa u)(d:Nat):SD nn ib tb o k ol oc oa (u.at d):=⟨h.top,h.il,h.tl,h.ci,h.zi,h.ct,h.zt⟩
theorem SD.alloc(h:SD nn ib tb o k ol oc oa u)(ob:Obj):SD nn ib tb o k ol oc oa (u.alloc ob):=by
 have e1:(u.alloc ob).heap[ib]? =u.heap[ib]?:=heap_alloc_lt _ _ h.il
 have e2:(u.alloc ob).heap[tb]? =u.heap[tb]?:=heap_alloc_lt _ _ h.tl
 refine⟨by simp;have:=h.top;omega,by simp;have:=h.il;omega,by simp;have:=h.tl;omega,?_,?_,?_,?_⟩
 ·rw[← h.ci];unfold World.cell?;simp only[e1]
 ·rw[← h.zi];unfold World.frozen?;simp only[e1]
 ·rw[← h.ct];unfold World.cell?;simp only[e2]
 ·rw[← h.zt];unfold World.frozen?;simp only[e2]
end
theorem set_new32(X:World)(u v:Value):(X.alloc (.cells #[u] 34)).setCell ⟨X.heap.size,0,none⟩ v=X.alloc (.cells #[v] 34):=by go_simp
theorem info47:∃i,Try.prog.info? 47=some i∧i.size=4:=by
 have h:(Try.prog.info? 47).map (fun i=>i.size)=some 4:=by kernel_rfl
 obtain⟨i,hi,h1⟩:=Option.map_eq_some_iff.1 h
 exact⟨i,hi,h1⟩
theorem slice_h{w:World}{a:Option Addr}{ol oc m:Nat}(hmc:m≤oc):(Instr.sliceAt 34 (.slice a ol oc) none (some (.int .i64 m)) none).run Try.prog w= .ok (.slice a m oc) w:=by
 obtain⟨i,hi,hs⟩:=info47
 have hu:Try.prog.underlying 34=some (.slice 47):=Try.underlying34
 have e:a.map (fun x:Addr=>x.add 0)=a:=by
  cases a with
  | none=>rfl
  | some x=>simp[Addr.add]
 have hm:(m:Int)≤oc:=by omega
 simp[Instr.sliceAt,Instr.slice,run_underlying hu,Instr.sliceBounds,run_sliceBound,sizeOf,typeInfo,hi,hs,hmc,hm,e]
theorem slice_he{w:World}{es:Array Event}{a:Option Addr}{ol oc m:Nat}(hmc:m≤oc):(Instr.sliceAt 34 (.slice a ol oc) none (some (.int .i64 m)) none).events Try.prog w es=es:=by
 obtain⟨i,hi,hs⟩:=info47
 have hu:Try.prog.underlying 34=some (.slice 47):=Try.underlying34
 have hm:(m:Int)≤oc:=by omega
 simp[Instr.sliceAt,Instr.slice,run_underlying hu,Instr.sliceBounds,Instr.sliceBound,asIntOf,run_sliceBound,sizeOf,typeInfo,hi,hs,hmc,hm]
theorem di_3{nn:Nat}(hU:Under F nn){tb o tl tc n db av ib k ol oc m:Nat}{oa:Option Addr}{l:Value}(hkt:k<tl)(hm0:min ol 65536=m)(hoc:ol≤oc)(hs:SD nn ib tb o k ol oc oa w){A:Array Value}(hA:Slots 38 A ((9,.pointer (some ⟨ib,0,none⟩))::[(0,.slice (some ⟨tb,o,none⟩) tl tc),(3,.pointer (some ⟨db,0,none⟩)),(6,.int .i64 n),(7,.pointer (some ⟨av,0,none⟩)),(8,l),(16,.int .i64 n),(17,.int .i64 k)])){cs:List Frame}{main:Bool}{Stop:Goroutine→World→Prop}{kk:List Item}
 (h:∀A,Slots 38 A ((9,.pointer (some ⟨ib,0,none⟩))::(10,.pointer (some ⟨w.heap.size,0,none⟩))::[(0,.slice (some ⟨tb,o,none⟩) tl tc),(3,.pointer (some ⟨db,0,none⟩)),(6,.int .i64 n),(7,.pointer (some ⟨av,0,none⟩)),(8,l),(16,.int .i64 n),(17,.int .i64 k)])→Own Try.prog main F Stop (G ((Go.Conc.base 81).at ⟨A,[]⟩ kk) cs) (w.alloc (.cells #[.slice oa m oc] 34))):
 Own Try.prog main F Stop (G ((Go.Conc.base 81).at ⟨A,[]⟩ (.code dir7::kk)) cs) w:=by
 obtain⟨hsz,h9,h0,h3,h6,h7,h8,h16,h17,_⟩:=hA
 obtain⟨s,rfl⟩:=diT_of hsz
 change s 9=_ at h9
 change s 0=_ at h0
 change s 3=_ at h3
 change s 6=_ at h6
 change s 7=_ at h7
 change s 8=_ at h8
 change s 16=_ at h16
 change s 17=_ at h17
 clear hsz
 simp only[diT,h9,h0,h3,h6,h7,h8,h16,h17]
 clear h9 h0 h3 h6 h7 h8 h16 h17
 have hmc:m≤oc:=by omega
 have hm2:(if(65536:Int)<(ol:Int)then(65536:Int)else ol)=(m:Int):=by split<;>omega
 have hS:∀u d,SD nn ib tb o k ol oc oa u→SD nn ib tb o k ol oc oa (World.at u d):=fun u d h=>h.at d
 rw[dir7']
 refine own_drawnM (SD nn ib tb o k ol oc oa) (last:=12) run_mixed (ll_of (by kernel_rfl)) (by decide) ?_
 simp only[dir7,diBody,Try.f81,zz,Nat.reduceAdd]
 have hZ:∀a u d,Own Try.prog main F Stop (G ((Go.Conc.base 81).at a (.inRegion (oC dir7) [12]::kk)) cs) u→Own Try.prog main F Stop (G ((Go.Conc.base 81).at a (.inRegion (oC dir7) [12]::kk)) cs) (World.at u d):=fun a u d h=>h.at d
 simp only[dir7,diBody,Try.f81,zz,Nat.reduceAdd]at hZ
 refine anyM_take hS hZ (i:=0) (v:=.slice (some ⟨tb,o,none⟩) tl tc) hs rfl rfl (by kernel_rfl) (by kernel_rfl) (by kernel_rfl) (fun u hu=>.inl ⟨rfl,fun d=>⟨by simp[go_sem,execOp,Act.eval],fun e he=>by have hm:=mem_listed he;simp[go_sem,execOp,Act.eval]at hm⟩⟩) ?_
 walk_nrm
 refine anyM_take hS hZ (i:=1) (v:=.int .i64 k) hs rfl rfl (by kernel_rfl) (by kernel_rfl) (by kernel_rfl) (fun u hu=>.inl ⟨rfl,fun d=>⟨by simp[go_sem,execOp,Act.eval,hu.ci,hu.zi],fun e he=>by have hm:=mem_listed he;simp[go_sem,execOp,Act.eval,hu.ci,hu.zi]at hm;subst hm;exact evT_read _ _⟩⟩) ?_
 walk_nrm
 refine anyM_take hS hZ (i:=2) (v:=.pointer (some ⟨tb,o+k,none⟩)) hs rfl rfl (by kernel_rfl) (by kernel_rfl) (by kernel_rfl) (fun u hu=>.inl ⟨rfl,fun d=>⟨by simp[go_sem,execOp,Act.eval,hkt],fun e he=>by have hm:=mem_listed he;simp[go_sem,execOp,Act.eval,hkt]at hm⟩⟩) ?_
 walk_nrm
 refine anyM_take hS hZ (i:=3) (v:=.slice oa ol oc) hs rfl rfl (by kernel_rfl) (by kernel_rfl) (by kernel_rfl) (fun u hu=>.inl ⟨rfl,fun d=>⟨by simp[go_sem,execOp,Act.eval,hu.ct,hu.zt],fun e he=>by have hm:=mem_listed he;simp[go_sem,execOp,Act.eval,hu.ct,hu.zt]at hm;subst hm;exact evT_read _ _⟩⟩) ?_
 walk_nrm
 refine anyM_take hS hZ (i:=4) (v:=.slice (some ⟨tb,o,none⟩) tl tc) hs rfl rfl (by kernel_rfl) (by kernel_rfl) (by kernel_rfl) (fun u hu=>.inl ⟨rfl,fun d=>⟨by simp[go_sem,execOp,Act.eval],fun e he=>by have hm:=mem_listed he;simp[go_sem,execOp,Act.eval]at hm⟩⟩) ?_
 walk_nrm
 refine anyM_take hS hZ (i:=5) (v:=.int .i64 k) hs rfl rfl (by kernel_rfl) (by kernel_rfl) (by kernel_rfl) (fun u hu=>.inl ⟨rfl,fun d=>⟨by simp[go_sem,execOp,Act.eval,hu.ci,hu.zi],fun e he=>by have hm:=mem_listed he;simp[go_sem,execOp,Act.eval,hu.ci,hu.zi]at hm;subst hm;exact evT_read _ _⟩⟩) ?_
 walk_nrm
 refine anyM_take hS hZ (i:=6) (v:=.pointer (some ⟨tb,o+k,none⟩)) hs rfl rfl (by kernel_rfl) (by kernel_rfl) (by kernel_rfl) (fun u hu=>.inl ⟨rfl,fun d=>⟨by simp[go_sem,execOp,Act.eval,hkt],fun e he=>by have hm:=mem_listed he;simp[go_sem,execOp,Act.eval,hkt]at hm⟩⟩) ?_
 walk_nrm
 refine anyM_take hS hZ (i:=7) (v:=.slice oa ol oc) hs rfl rfl (by kernel_rfl) (by kernel_rfl) (by kernel_rfl) (fun u hu=>.inl ⟨rfl,fun d=>⟨by simp[go_sem,execOp,Act.eval,hu.ct,hu.zt],fun e he=>by have hm:=mem_listed he;simp[go_sem,execOp,Act.eval,hu.ct,hu.zt]at hm;subst hm;exact evT_read _ _⟩⟩) ?_
 walk_nrm
 refine anyM_take hS hZ (i:=8) (v:=.int .i64 ol) hs rfl rfl (by kernel_rfl) (by kernel_rfl) (by kernel_rfl) (fun u hu=>.inl ⟨rfl,fun d=>⟨by simp[go_sem,execOp,Act.eval],fun e he=>by have hm:=mem_listed he;simp[go_sem,execOp,Act.eval]at hm⟩⟩) ?_
 walk_nrm
 refine anyM_take hS hZ (i:=9) (v:=.int .i64 m) hs rfl rfl (by kernel_rfl) (by kernel_rfl) (by kernel_rfl) (fun u hu=>.inl ⟨rfl,fun d=>⟨by simp[go_sem,execOp,Act.eval,hm2],fun e he=>by have hm:=mem_listed he;simp[go_sem,execOp,Act.eval,hm2]at hm⟩⟩) ?_
 walk_nrm
 refine anyM_take hS hZ (i:=10) (v:=.slice oa m oc) hs rfl rfl (by kernel_rfl) (by kernel_rfl) (by kernel_rfl) (fun u hu=>.inl ⟨rfl,fun d=>⟨by simp[go_sem,execOp,Act.eval,slice_h hmc,slice_he hmc],fun e he=>by have hm:=mem_listed he;simp[go_sem,execOp,Act.eval,slice_h hmc,slice_he hmc]at hm⟩⟩) ?_
 walk_nrm
 refine anyM_all (r:=[11]) (by kernel_rfl) (by kernel_rfl) (fun i hi hil=>?_)
 simp only[List.mem_cons,List.not_mem_nil,or_false]at hi
 subst hi
 refine opm_k rfl rfl (fun d K' hK'=>?_)
 go_simp
 refine hK' _ _ ⟨⟨⟨0,grew_alloc hU (show nn≤(w.at d).heap.size from hs.top) _⟩,fun e he=>by(have hm:=mem_listed he;simp[go_sem]at hm)⟩,(hs.at d).alloc _,?_⟩
 clear hK' K'
 rw[alloc_at']
 refine anyM_at hS hZ _ _ _ _ ?_ d
 refine anyM_end (by kernel_rfl) ?_ _
 have hn:=hs.top
 (refine oW fun dd K hK=>?_;go_simp;refine qS hK hU ?_;clear hK K)
 rw[set_new32]
 refine ogE ?_
 refine h _ ?_
 exact⟨rfl,rfl,rfl,rfl,rfl,rfl,rfl,rfl,rfl,rfl,trivial⟩
end
section
variable{w:World}
theorem mask_F0(w:World):mask F0 w=w:=by
 have e:(mask F0 w).heap=w.heap:=by
  apply Array.ext_getElem?
  intro r
  rw[mask_get]
  cases h:w.heap[r]? with
  | none=>rfl
  | some o=>cases o<;>rfl
 calc mask F0 w={w with heap:=(mask F0 w).heap}:=rfl
  _=w:=by rw[e]
theorem under_F0:Under F0 0:=fun r z h=>by cases h
theorem wf_F0(w:World):Wf F0 w:=⟨fun r z h=>by cases h⟩
theorem info112:∃i,Try.prog.info? 112=some i∧i.zero=some .nilFunc∧i.size=1∧i.bytes=8:=by
 have h:(Try.prog.info? 112).map (fun i=>(i.size,i.bytes))=some (1,8):=by kernel_rfl
 have h0:(Try.prog.info? 112).bind (·.zero)=some .nilFunc:=by kernel_rfl
 obtain⟨i,hi,h1⟩:=Option.map_eq_some_iff.1 h
 rw[hi]at h0
 simp only[Prod.mk.injEq]at h1
 exact⟨i,hi,h0,h1.1,h1.2⟩
def cl68(ob db ib av:Nat):Value:=.func (.func 99) #[] #[.pointer (some ⟨ob,0,none⟩),.pointer (some ⟨db,0,none⟩),.pointer (some ⟨ib,0,none⟩),.pointer (some ⟨av,0,none⟩)]
theorem di_4{ta:Option Addr}{tl tc n db av ib ob k base:Nat}{l:Value}{xs:List Value}(hk:k<64)(hb:base≤w.heap.size)(hrow:w.ownsRow base 112 1 l k xs){A:Array Value}(hA:Slots 38 A ((9,.pointer (some ⟨ib,0,none⟩))::(10,.pointer (some ⟨ob,0,none⟩))::[(0,.slice ta tl tc),(3,.pointer (some ⟨db,0,none⟩)),(6,.int .i64 n),(7,.pointer (some ⟨av,0,none⟩)),(8,l),(16,.int .i64 n),(17,.int .i64 k)])){cs:List Frame}{main:Bool}{Stop:Goroutine→World→Prop}
 (h:∀(w':World) (l':Value) (A:Array Value),w'.ownsRow base 112 1 l' (k+1) (xs++[cl68 ob db ib av])→w.heap.size≤w'.heap.size→(∀r,r<w.heap.size→some r≠Value.ownBlock l→w'.heap[r]? =w.heap[r]?)→Slots 38 A [(0,.slice ta tl tc),(3,.pointer (some ⟨db,0,none⟩)),(6,.int .i64 n),(7,.pointer (some ⟨av,0,none⟩)),(8,l'),(16,.int .i64 n),(17,.int .i64 (k+1:Nat))]→Own Try.prog main F0 Stop (G ((Go.Conc.base 81).at ⟨A,[]⟩ [.code dis7,.inLoop dis7,.inBlock 0,.code dis12]) cs) w'):
 Own Try.prog main F0 Stop (G ((Go.Conc.base 81).at ⟨A,[]⟩ [.code dir8,.inBlock 1,.code dir9,.inLoop dis7,.inBlock 0,.code dis12]) cs) w:=by
 have hU:=under_F0
 have hn:0≤w.heap.size:=Nat.zero_le _
 have hk64:IntKind.i64.wrap ((k:Int)+1)=(k:Int)+1:=IntWalk.i64_in _ (by omega)
 obtain⟨hsz,h9,h10,h0,h3,h6,h7,h8,h16,h17,_⟩:=hA
 obtain⟨s,rfl⟩:=diT_of hsz
 change s 9=_ at h9
 change s 10=_ at h10
 change s 0=_ at h0
 change s 3=_ at h3
 change s 6=_ at h6
 change s 7=_ at h7
 change s 8=_ at h8
 change s 16=_ at h16
 change s 17=_ at h17
 clear hsz
 simp only[diT,h9,h10,h0,h3,h6,h7,h8,h16,h17]
 clear h9 h10 h0 h3 h6 h7 h8 h16 h17
 rw[dir8']
 refine ogR ?_
 simp only[dir8,diBody,Try.f81,zz,Nat.reduceAdd]
 iterate 2 (refine oW fun dd K hK=>?_;go_simp;refine qT hK ?_;clear hK K)
 (refine oW fun dd K hK=>?_;go_simp;refine qA hK hU ?_;clear hK K)
 have hrow2:=hrow.alloc (.cells #[cl68 ob db ib av] 112)
 have hcell:=cell_one_new w (cl68 ob db ib av) 112
 have hsz:(w.alloc (.cells #[cl68 ob db ib av] 112)).heap.size=w.heap.size+1:=by simp
 have hold:∀r,r<w.heap.size→(w.alloc (.cells #[cl68 ob db ib av] 112)).heap[r]? =w.heap[r]?:=fun r hr=>heap_alloc_lt _ _ hr
 change Own _ _ _ _ _ (w.alloc (.cells #[cl68 ob db ib av] 112))
 generalize w.alloc (.cells #[cl68 ob db ib av] 112)=W at hrow2 hcell hsz hold ⊢
 obtain⟨i0,hi0,hz0,hz1,hz2⟩:=info112
 refine own_opm (by decide) ?_
 refine opm_lift (S':=fun _=>false) (px:=false) (ready0.shut false) (by simp) rfl rfl rfl (wf_F0 _) (fun d=>?_)
 rw[mask_F0]
 obtain⟨l',u,hr,hown,hgrow,_⟩:=run_append_own (P:=Try.prog) (W.at d) base 139 139 112 i0 _ 1 8 Try.underlying139 hi0 hz0 hz1 hz2 rfl (by decide) l k xs hrow2 ⟨w.heap.size,0,none⟩ 1 1 [cl68 ob db ib av] rfl
  hcell (fun q hq=>by simp at hq;subst hq;rfl) (by unfold maxLen;omega) (by omega) (by show base≤W.heap.size;omega)
 refine⟨l',u,run_append_op (.tmp 31) (.tmp 33) 139 rfl rfl rfl hr,fun w' hu hg hwf'=>?_⟩
 rw[mask_F0]at hu
 subst hu
 have hsz2:W.heap.size≤u.heap.size:=hgrow.size
 have hold2:∀r,r<w.heap.size→some r≠Value.ownBlock l→u.heap[r]? =w.heap[r]?:=fun r h1 h2=>(hgrow.block r (by show r<W.heap.size;omega) h2).trans (hold r h1)
 have hsz3:w.heap.size≤u.heap.size:=by omega
 clear hrow2 hcell hsz hold hr hgrow hsz2 hg hwf' hz0 hz1 hz2 hi0
 walk_nrm
 (refine oW fun dd K hK=>?_;go_simp;refine qT hK ?_;clear hK K)
 refine ogE ?_
 refine ogI ?_
 rw[dir9']
 refine ogR ?_
 simp only[dir9,diBody,Try.f81,zz,Nat.reduceAdd]
 iterate 2 (refine oW fun dd K hK=>?_;go_simp;refine qT hK ?_;clear hK K)
 refine ogE ?_
 refine ogL ?_
 refine h _ l' _ hown hsz3 hold2 ?_
 exact⟨rfl,rfl,rfl,rfl,rfl,rfl,rfl,rfl,trivial⟩
end
section
variable{w:World}
structure SV(av:Nat)(v:Value)(u:World):Prop where
 c:u.cell? ⟨av,0,none⟩=some v
 z:u.frozen? ⟨av,0,none⟩=false
theorem di_6{ta:Option Addr}{tl tc n db av:Nat}{l x:Value}(hs:SV av x w){A:Array Value}(hA:Slots 38 A [(0,.slice ta tl tc),(3,.pointer (some ⟨db,0,none⟩)),(6,.int .i64 n),(7,.pointer (some ⟨av,0,none⟩)),(8,l),(16,.int .i64 n),(17,.int .i64 n)]){c:Frame}{cs:List Frame}{Stop:Goroutine→World→Prop}
 (h:Own Try.prog true F0 Stop (G (c.finish (.tuple #[l,x])) cs) w):
 Own Try.prog true F0 Stop (G ((Go.Conc.base 81).at ⟨A,[]⟩ [.code dir10,.code .ret]) (c::cs)) w:=by
 obtain⟨hsz,h0,h3,h6,h7,h8,h16,h17,_⟩:=hA
 obtain⟨s,rfl⟩:=diT_of hsz
 change s 0=_ at h0
 change s 3=_ at h3
 change s 6=_ at h6
 change s 7=_ at h7
 change s 8=_ at h8
 change s 16=_ at h16
 change s 17=_ at h17
 clear hsz
 simp only[diT,h0,h3,h6,h7,h8,h16,h17]
 clear h0 h3 h6 h7 h8 h16 h17
 have hS:∀u d,SV av x u→SV av x (World.at u d):=fun u d h=>⟨h.c,h.z⟩
 rw[dir10']
 refine own_drawnM (SV av x) (last:=3) run_mixed (ll_of (by kernel_rfl)) (by decide) ?_
 simp only[dir10,diBody,Try.f81,zz,Nat.reduceAdd]
 have hZ:∀a u d,Own Try.prog true F0 Stop (G ((Go.Conc.base 81).at a [.inRegion (oC dir10) [3],.code .ret]) (c::cs)) u→Own Try.prog true F0 Stop (G ((Go.Conc.base 81).at a [.inRegion (oC dir10) [3],.code .ret]) (c::cs)) (World.at u d):=fun a u d h=>h.at d
 simp only[dir10,diBody,Try.f81,zz,Nat.reduceAdd]at hZ
 refine anyM_take hS hZ (i:=0) (v:=l) hs rfl rfl (by kernel_rfl) (by kernel_rfl) (by kernel_rfl) (fun u hu=>.inl ⟨rfl,fun d=>⟨by simp[go_sem,execOp,Act.eval],fun e he=>by have hm:=mem_listed he;simp[go_sem,execOp,Act.eval]at hm⟩⟩) ?_
 walk_nrm
 refine anyM_take hS hZ (i:=1) (v:=x) hs rfl rfl (by kernel_rfl) (by kernel_rfl) (by kernel_rfl) (fun u hu=>.inl ⟨rfl,fun d=>⟨by simp[go_sem,execOp,Act.eval,hu.c,hu.z],fun e he=>by have hm:=mem_listed he;simp[go_sem,execOp,Act.eval,hu.c,hu.z]at hm;subst hm;exact evT_read _ _⟩⟩) ?_
 walk_nrm
 refine anyM_take hS hZ (i:=2) (v:=l) hs rfl rfl (by kernel_rfl) (by kernel_rfl) (by kernel_rfl) (fun u hu=>.inl ⟨rfl,fun d=>⟨by simp[go_sem,execOp,Act.eval],fun e he=>by have hm:=mem_listed he;simp[go_sem,execOp,Act.eval]at hm⟩⟩) ?_
 walk_nrm
 refine anyM_end (by kernel_rfl) ?_ _
 (refine oW fun dd K hK=>?_;go_simp;refine qT hK ?_;clear hK K)
 refine ogE ?_
 refine ogX ?_
 refine own_go rfl (fun d=>stepG_leave (fn:=Try.f81) (v:=.tuple #[l,x]) rfl rfl Try.func81 (by simp[results,Try.f81,go_sem]) (by simp[results,Try.f81,go_sem])) ?_
 exact h
structure DI(w0:World)(n k db aa av:Nat)(dv:Value)(oa:Nat→Option Addr)(m oc ib ob:Nat→Nat)(l:Value)(w:World):Prop where
 size:w0.heap.size≤w.heap.size
 old:∀r,r<w0.heap.size→w.heap[r]? =w0.heap[r]?
 hdb:w.heap[db]? =some (.cells #[dv] 98 (0,0))
 haa:w.heap[aa]? =some (.cells (madeCells #[.slice none 0 0] n) 42 (0,0))
 hav:w.heap[av]? =some (.cells #[.slice (some ⟨aa,0,none⟩) n n] 29 (0,0))
 hib:∀j,j<k→w.heap[ib j]? =some (.cells #[.int .i64 j] 3 (0,0))
 hob:∀j,j<k→w.heap[ob j]? =some (.cells #[.slice (oa j) (m j) (oc j)] 34 (0,0))
 lo:∀j,j<k→w0.heap.size≤ib j∧w0.heap.size≤ob j
 new:w0.heap.size≤db∧w0.heap.size≤aa∧w0.heap.size≤av
 row:w.ownsRow w0.heap.size 112 1 l k ((List.range k).map fun j=>cl68 (ob j) db (ib j) av)
theorem DI.same{w0 w w':World}{n k db aa av:Nat}{dv:Value}{oa:Nat→Option Addr}{m oc ib ob:Nat→Nat}{l:Value}(h:DI w0 n k db aa av dv oa m oc ib ob l w)(hsz:w.heap.size≤w'.heap.size)(hs:∀r,r<w.heap.size→w'.heap[r]? =w.heap[r]?):DI w0 n k db aa av dv oa m oc ib ob l w':=by
 have lt:∀{r:Nat} {o:Obj},w.heap[r]? =some o→w'.heap[r]? =some o:=fun hr=>(hs _ (alt hr)).trans hr
 exact⟨Nat.le_trans h.size hsz,fun r hr=>(hs r (Nat.lt_of_lt_of_le hr h.size)).trans (h.old r hr),lt h.hdb,lt h.haa,lt h.hav,fun j hj=>lt (h.hib j hj),fun j hj=>lt (h.hob j hj),h.lo,h.new,ownsRow_same2 h.row fun b hb _=>hs b (h.row.lt b hb).2⟩
theorem own_doing_loop{w0:World}{tb o tl tc n db aa av:Nat}{dv:Value}(hntl:n≤tl)(hn64:n≤64){oa:Nat→Option Addr}{ol m oc:Nat→Nat}(htb:0<n→tb<w0.heap.size)(hth:∀j,j<n→w0.cell? ⟨tb,o+j,none⟩=some (.slice (oa j) (ol j) (oc j))∧w0.frozen? ⟨tb,o+j,none⟩=false∧ol j≤oc j∧min (ol j) 65536=m j){ta:Option Addr}(hta:0<n→ta=some ⟨tb,o,none⟩){c:Frame}{cs:List Frame}{Stop:Goroutine→World→Prop}
 (K:∀w' l ib ob,DI w0 n n db aa av dv oa m oc ib ob l w'→Own Try.prog true F0 Stop (G (c.finish (.tuple #[l,.slice (some ⟨aa,0,none⟩) n n])) cs) w'):
 ∀(q k:Nat),k+q=n→∀(w:World) (l:Value) (ib ob:Nat→Nat) (A:Array Value),DI w0 n k db aa av dv oa m oc ib ob l w→Slots 38 A [(0,.slice ta tl tc),(3,.pointer (some ⟨db,0,none⟩)),(6,.int .i64 n),(7,.pointer (some ⟨av,0,none⟩)),(8,l),(16,.int .i64 n),(17,.int .i64 k)]→
  Own Try.prog true F0 Stop (G ((Go.Conc.base 81).at ⟨A,[]⟩ [.code dis7,.inLoop dis7,.inBlock 0,.code dis12]) (c::cs)) w:=by
 intro q
 induction q with
 | zero=>
   intro k hk w l ib ob A hD hA
   obtain rfl:k=n:=by omega
   refine di_5 hA fun A2 hA2=>?_
   refine di_6 (x:=.slice (some ⟨aa,0,none⟩) k k) ⟨by simp[World.cell?,hD.hav],by simp[World.frozen?,hD.hav]⟩ hA2 ?_
   exact K w l ib ob hD
 | succ q ih=>
   intro k hk w l ib ob A hD hA
   have hkn:k<n:=by omega
   obtain rfl:=hta (by omega)
   obtain⟨t1,t2,t3,t4⟩:=hth k hkn
   have htl:=htb (by omega)
   have htb2:=hD.old tb htl
   have hsz0:=hD.size
   refine di_2 under_F0 (Nat.zero_le _) hkn hA fun A2 hA2=>?_
   have e1:∀r,r<w.heap.size→(w.alloc (.cells #[.int .i64 k] 3)).heap[r]? =w.heap[r]?:=fun r hr=>heap_alloc_lt _ _ hr
   have e2:=heap_alloc_new w (.cells #[.int .i64 k] 3)
   have e3:(w.alloc (.cells #[.int .i64 k] 3)).heap.size=w.heap.size+1:=by simp
   generalize w.alloc (.cells #[.int .i64 k] 3)=W1 at e1 e2 e3 ⊢
   refine ogSE dis11' ?_
   have htb3:W1.heap[tb]? =w0.heap[tb]?:=(e1 tb (by omega)).trans htb2
   refine di_3 (nn:=0) (m:=m k) under_F0 (by omega) t4 t3 ⟨Nat.zero_le _,by omega,by omega,by simp[World.cell?,e2],by simp[World.frozen?,e2],by rw[← t1];unfold World.cell?;simp only[htb3],by rw[← t2];unfold World.frozen?;simp only[htb3]⟩ hA2 fun A3 hA3=>?_
   have f1:∀r,r<W1.heap.size→(W1.alloc (.cells #[.slice (oa k) (m k) (oc k)] 34)).heap[r]? =W1.heap[r]?:=fun r hr=>heap_alloc_lt _ _ hr
   have f2:=heap_alloc_new W1 (.cells #[.slice (oa k) (m k) (oc k)] 34)
   have f3:(W1.alloc (.cells #[.slice (oa k) (m k) (oc k)] 34)).heap.size=W1.heap.size+1:=by simp
   generalize W1.alloc (.cells #[.slice (oa k) (m k) (oc k)] 34)=W2 at f1 f2 f3 ⊢
   have hD2:DI w0 n k db aa av dv oa m oc ib ob l W2:=hD.same (by omega) fun r hr=>(f1 r (by omega)).trans (e1 r hr)
   refine di_4 (base:=w0.heap.size) (by omega) (by omega) hD2.row hA3 fun w' l' A4 g1 g2 g3 hA4=>?_
   have hne:∀{r:Nat} {cc:Array Value} {t:TypeId},W2.heap[r]? =some (.cells cc t (0,0))→t≠112→w'.heap[r]? =some (.cells cc t (0,0)):=fun hr ht=>(g3 _ (alt hr) (own_type hD2.row hr (fun e=>ht e.symm))).trans hr
   have hold:∀r,r<w0.heap.size→w'.heap[r]? =w0.heap[r]?:=fun r hr=>(g3 r (by omega) (fun e=>by
    have:=(hD2.row.lt r e.symm).1;omega)).trans (hD2.old r hr)
   refine ih (k+1) (by omega) w' l' (fun j=>if j=k then w.heap.size else ib j) (fun j=>if j=k then W1.heap.size else ob j) A4 ⟨by omega,hold,hne hD2.hdb (by decide),hne hD2.haa (by decide),hne hD2.hav (by decide),fun j hj=>?_,fun j hj=>?_,fun j hj=>?_,hD.new,?_⟩ hA4
   ·by_cases e:j=k
    ·subst e
     simp only[if_true]
     exact hne ((f1 _ (by omega)).trans e2) (by decide)
    ·simp only[if_neg e]
     exact hne (hD2.hib j (by omega)) (by decide)
   ·by_cases e:j=k
    ·subst e
     simp only[if_true]
     exact hne f2 (by decide)
    ·simp only[if_neg e]
     exact hne (hD2.hob j (by omega)) (by decide)
   ·by_cases e:j=k
    ·subst e
     simp only[if_true]
     omega
    ·simp only[if_neg e]
     exact hD.lo j (by omega)
   ·have e5:((List.range (k+1)).map fun j=>cl68 (if j=k then W1.heap.size else ob j) db (if j=k then w.heap.size else ib j) av)=((List.range k).map fun j=>cl68 (ob j) db (ib j) av)++[cl68 W1.heap.size db w.heap.size av]:=by
     rw[List.range_succ,List.map_append]
     congr 1
     ·apply List.map_congr_left
      intro j hj
      have:j<k:=List.mem_range.1 hj
      simp only[if_neg (show ¬j=k by omega)]
     ·simp
    rw[e5]
    exact g1
theorem own_doing{tb o tl tc n df:Nat}{first capt:Array Value}(hn1:min tl 64=n){oa:Nat→Option Addr}{ol m oc:Nat→Nat}(htb:0<n→tb<w.heap.size)(hth:∀j,j<n→w.cell? ⟨tb,o+j,none⟩=some (.slice (oa j) (ol j) (oc j))∧w.frozen? ⟨tb,o+j,none⟩=false∧ol j≤oc j∧min (ol j) 65536=m j){ta:Option Addr}(hta:0<n→ta=some ⟨tb,o,none⟩){c:Frame}{cs:List Frame}{Stop:Goroutine→World→Prop}
 (K:∀w' l ib ob db aa av,DI w n n db aa av (.func (.func df) first capt) oa m oc ib ob l w'→Own Try.prog true F0 Stop (G (c.finish (.tuple #[l,.slice (some ⟨aa,0,none⟩) n n])) cs) w'):
 Own Try.prog true F0 Stop (G (Frame.enter Try.prog 81 #[.slice ta tl tc,.func (.func df) first capt] .normal) (c::cs)) w:=by
 refine di_0 under_F0 (Nat.zero_le _) hn1 fun A hA=>?_
 refine di_1 under_F0 (Nat.zero_le _) (by omega) hA fun A2 hA2=>?_
 have e1:∀r,r<w.heap.size→(((w.alloc (.cells #[.func (.func df) first capt] 98)).alloc (.cells (madeCells #[.slice none 0 0] n) 42)).alloc (.cells #[.slice (some ⟨(w.alloc (.cells #[.func (.func df) first capt] 98)).heap.size,0,none⟩) n n] 29)).heap[r]? =w.heap[r]?:=fun r hr=>by
  rw[heap_alloc_lt _ _ (by simp;omega),heap_alloc_lt _ _ (by simp;omega),heap_alloc_lt _ _ hr]
 refine own_doing_loop (w0:=w) (n:=n) (tl:=tl) (dv:=.func (.func df) first capt) (oa:=oa) (ol:=ol) (m:=m) (oc:=oc) (tb:=tb) (o:=o) (db:=w.heap.size) (aa:=w.heap.size+1) (av:=w.heap.size+2) (by omega) (by omega) htb hth hta (fun w' l ib ob hD=>K w' l ib ob _ _ _ hD) n 0 (by omega) _ (.slice none 0 0) (fun _=>0) (fun _=>0) A2 ⟨by simp;omega,e1,?_,?_,?_,fun j hj=>by omega,fun j hj=>by omega,fun j hj=>by omega,⟨by omega,by omega,by omega⟩,World.ownsRow_nil _ _ _ _⟩ (by simpa using hA2)
 ·rw[heap_alloc_lt _ _ (by simp;omega),heap_alloc_lt _ _ (by simp)]
  exact heap_alloc_new _ _
 ·have:=heap_alloc_new (w.alloc (.cells #[.func (.func df) first capt] 98)) (.cells (madeCells #[.slice none 0 0] n) 42)
  rw[heap_alloc_lt _ _ (by simp)]
  simpa using this
 ·have:=heap_alloc_new ((w.alloc (.cells #[.func (.func df) first capt] 98)).alloc (.cells (madeCells #[.slice none 0 0] n) 42)) (.cells #[.slice (some ⟨(w.alloc (.cells #[.func (.func df) first capt] 98)).heap.size,0,none⟩) n n] 29)
  simpa using this
end
noncomputable section
variable{F:Fz}{w:World}
theorem built29(a b c:Option Addr)(n m k l:Nat)(s:Bool):Try.prog.built 31 [(0,.slice a n m),(1,.slice b k l),(3,.bool s)]=some #[.slice a n m,.slice b k l,.slice none 0 0,.bool s]:=by kernel_rfl
@[go_sem] theorem run_build29(a b:Option Addr)(n m k l:Nat)(s:Bool)(w:World):(Instr.build 31 #[(0,.slice a n m),(1,.slice b k l),(3,.bool s)]).run Try.prog w= .ok (.agg #[.slice a n m,.slice b k l,.slice none 0 0,.bool s]) w:=run_build w _ _ _ (built29 a b a n m k l s)
@[go_sem] theorem ev_build29(a b:Option Addr)(n m k l:Nat)(s:Bool)(w:World)(es:Array Event):(Instr.build 31 #[(0,.slice a n m),(1,.slice b k l),(3,.bool s)]).events Try.prog w es=es:=ev_build w es _ _ _ _ Try.underlying31 (built29 a b a n m k l s)
def trW(w:World)(tb:Nat)(a b c d:Value):World:=(((w.setCell ⟨tb,0,none⟩ a).setCell ⟨tb,1,none⟩ b).setCell ⟨tb,2,none⟩ c).setCell ⟨tb,3,none⟩ d
structure TrAt(w:World)(tb:Nat)(a b c d:Value):Prop where
 o:w.heap[tb]? =some (.cells #[a,b,c,d] 31 (0,0))
section
variable{tb:Nat}{a b c d:Value}
theorem TrAt.at(h:TrAt w tb a b c d)(e:Nat):TrAt (w.at e) tb a b c d:=⟨h.o⟩
theorem TrAt.c0(h:TrAt w tb a b c d):w.cell? ⟨tb,0,none⟩=some a:=by simp[World.cell?,h.o]
theorem TrAt.c1(h:TrAt w tb a b c d):w.cell? ⟨tb,1,none⟩=some b:=by simp[World.cell?,h.o]
theorem TrAt.c2(h:TrAt w tb a b c d):w.cell? ⟨tb,2,none⟩=some c:=by simp[World.cell?,h.o]
theorem TrAt.c3(h:TrAt w tb a b c d):w.cell? ⟨tb,3,none⟩=some d:=by simp[World.cell?,h.o]
theorem TrAt.z(h:TrAt w tb a b c d)(k:Nat):w.frozen? ⟨tb,k,none⟩=false:=by simp[World.frozen?,h.o]
theorem TrAt.put(h:TrAt w tb a b c d)(a' b' c' d':Value):TrAt (trW w tb a' b' c' d') tb a' b' c' d':=by
 constructor
 unfold trW
 rw[heap_setCell_eq (heap_setCell_eq (heap_setCell_eq (heap_setCell_eq h.o _) _) _) _]
 rfl
end
def opBody:Code:=Try.f47.body.getD .skip
def ops0:=pC [] opBody
def opr0:=pC [zt] opBody
def ops1:=pC [zf] opBody
def opr1:=pC [zf,zt] opBody
def ops2:=pC [zf,zf] opBody
def opr2:=pC [zf,zf,zt] opBody
def ops3:=pC [zf,zf,zf] opBody
def opr3:=pC [zf,zf,zf,zt] opBody
theorem ops0':ops0= .seq opr0 ops1:=by kernel_rfl
theorem opr0':opr0= .region 0 (oC opr0) false:=by kernel_rfl
theorem ops1':ops1= .seq opr1 ops2:=by kernel_rfl
theorem opr1':opr1= .region 1 (oC opr1) false:=by kernel_rfl
theorem ops2':ops2= .seq opr2 ops3:=by kernel_rfl
theorem opr2':opr2= .region 2 (oC opr2) false:=by kernel_rfl
theorem ops3':ops3= .seq opr3 .ret:=by kernel_rfl
theorem opr3':opr3= .region 3 (oC opr3) false:=by kernel_rfl
theorem enter_op(args:Array Value):Frame.enter Try.prog 47 args .normal=(Go.Conc.base 47).at {tmps:=args++Array.replicate (32 - args.size) undef,defers:=[]} [.code ops0]:=enter_at args Try.func47 rfl
theorem callable47:Callable 47:=callable Try.func47 rfl rfl
def opT(s:Nat→Value):Array Value:= #[s 0,s 1,s 2,s 3,s 4,s 5,s 6,s 7,s 8,s 9,s 10,s 11,s 12,s 13,s 14,s 15,s 16,s 17,s 18,s 19,s 20,s 21,s 22,s 23,s 24,s 25,s 26,s 27,s 28,s 29,s 30,s 31]
theorem opT_of{A:Array Value}(h:A.size=32):∃s,A=opT s:=by
 obtain⟨s,hs,_⟩:=arr_lit A h
 exact⟨s,hs⟩
theorem op_0{n:Nat}(hU:Under F n)(hn:n≤w.heap.size){ta sa:Option Addr}{tl tc sl sc:Nat}{dv:Value}{mo:Int}{cs:List Frame}{main:Bool}{Stop:Goroutine→World→Prop}
 (h:∀A,Slots 32 A [(0,.slice ta tl tc),(1,dv),(2,.slice sa sl sc),(3,.int .i64 mo),(8,.pointer (some ⟨w.heap.size,0,none⟩))]→Own Try.prog main F Stop (G (Frame.enter Try.prog 81 #[.slice ta tl tc,dv] .normal) (((Go.Conc.base 47).at ⟨A,[]⟩ [.inRegion (oC opr1) [2,3,4,5,6,7],.code ops2])::cs)) (w.alloc (.cells #[.slice none 0 0,.slice none 0 0,.slice none 0 0,.bool false] 31))):
 Own Try.prog main F Stop (G (Frame.enter Try.prog 47 #[.slice ta tl tc,dv,.slice sa sl sc,.int .i64 mo] .normal) cs) w:=by
 rw[enter_op]
 walk_nrm
 refine ogSR ops0' opr0' ?_
 simp only[opr0,opBody,Try.f47,zz,Nat.reduceAdd]
 (refine oW fun dd K hK=>?_;go_simp;refine qA hK hU ?_;clear hK K)
 refine ogE ?_
 refine ogSR ops1' opr1' ?_
 simp only[opr1,opBody,Try.f47,zz,Nat.reduceAdd]
 iterate 2 (refine oW fun dd K hK=>?_;go_simp;refine qT hK ?_;clear hK K)
 refine oc callable81 #[.slice ta tl tc,dv] ?_
 refine h _ ?_
 exact⟨rfl,rfl,rfl,rfl,rfl,rfl,trivial⟩
theorem op_1{ta sa:Option Addr}{tl tc sl sc tb:Nat}{dv l an:Value}{mo:Int}{A:Array Value}(hA:Slots 32 A [(0,.slice ta tl tc),(1,dv),(2,.slice sa sl sc),(3,.int .i64 mo),(8,.pointer (some ⟨tb,0,none⟩))]){cs:List Frame}{main:Bool}{Stop:Goroutine→World→Prop}
 (h:∀A,Slots 32 A [(8,.pointer (some ⟨tb,0,none⟩)),(10,an)]→Own Try.prog main F Stop (G (Frame.enter Try.prog 82 #[l,.slice sa sl sc,.int .i64 mo] .normal) (((Go.Conc.base 47).at ⟨A,[]⟩ [.inRegion (oC opr2) [3,4,5,6,7,8,9,10],.code ops3])::cs)) w):
 Own Try.prog main F Stop (G (((Go.Conc.base 47).at ⟨A,[]⟩ [.inRegion (oC opr1) [2,3,4,5,6,7],.code ops2]).finish (.tuple #[l,an])) cs) w:=by
 obtain⟨hsz,h0,h1,h2,h3,h8,_⟩:=hA
 obtain⟨s,rfl⟩:=opT_of hsz
 change s 0=_ at h0
 change s 1=_ at h1
 change s 2=_ at h2
 change s 3=_ at h3
 change s 8=_ at h8
 clear hsz
 simp only[opT,h0,h1,h2,h3,h8]
 clear h0 h1 h2 h3 h8
 rw[Frame.finish_at]
 simp only[opr1,opBody,Try.f47,zz,Nat.reduceAdd]
 walk_nrm
 iterate 5 (refine oW fun dd K hK=>?_;go_simp;refine qT hK ?_;clear hK K)
 refine ogE ?_
 refine ogSR ops2' opr2' ?_
 simp only[opr2,opBody,Try.f47,zz,Nat.reduceAdd]
 iterate 3 (refine oW fun dd K hK=>?_;go_simp;refine qT hK ?_;clear hK K)
 refine oc callable82 #[l,.slice sa sl sc,.int .i64 mo] ?_
 refine h _ ?_
 exact⟨rfl,rfl,rfl,trivial⟩
theorem op_2{tb:Nat}{x0 x1 x2 x3:Value}(hT:TrAt w tb x0 x1 x2 x3)(hnh:∀k,¬held F ⟨tb,k,none⟩){aa oa:Option Addr}{al ac ol oc:Nat}{st:Bool}{bv:Value}{A:Array Value}(hA:Slots 32 A [(8,.pointer (some ⟨tb,0,none⟩)),(10,.slice aa al ac)]){c:Frame}{cs:List Frame}{main:Bool}{Stop:Goroutine→World→Prop}
 (h:Own Try.prog main F Stop (G (c.finish (.agg #[.slice aa al ac,.slice oa ol oc,.slice none 0 0,.bool st])) cs) (trW w tb (.slice aa al ac) (.slice oa ol oc) (.slice none 0 0) (.bool st))):
 Own Try.prog main F Stop (G (((Go.Conc.base 47).at ⟨A,[]⟩ [.inRegion (oC opr2) [3,4,5,6,7,8,9,10],.code ops3]).finish (.tuple #[.slice oa ol oc,.bool st,bv])) (c::cs)) w:=by
 obtain⟨hsz,h8,h10,_⟩:=hA
 obtain⟨s,rfl⟩:=opT_of hsz
 change s 8=_ at h8
 change s 10=_ at h10
 clear hsz
 simp only[opT,h8,h10]
 clear h8 h10
 rw[Frame.finish_at]
 simp only[opr2,opBody,Try.f47,zz,Nat.reduceAdd]
 walk_nrm
 iterate 7 (refine oW fun dd K hK=>?_;go_simp;refine qT hK ?_;clear hK K)
 refine ogE ?_
 refine ogSR ops3' opr3' ?_
 simp only[opr3,opBody,Try.f47,zz,Nat.reduceAdd]
 iterate 4 (refine oW fun dd K hK=>?_;go_simp;refine qT hK ?_;clear hK K)
 (refine oW fun dd K hK=>?_;have hc0:=(hT.at dd).c0;have hc1:=(hT.at dd).c1;have hc2:=(hT.at dd).c2;have hc3:=(hT.at dd).c3;have hz0:=(hT.at dd).z;go_simp;refine hK _ _ ⟨⟨⟨0,grew4 (fun k=>hnh k) _ _ _ _⟩,fun e he=>by(have hm:=mem_listed he;clear he hK;simp[go_sem,storedEv,hc0,hc1,hc2,hc3,hz0]at hm;rcases hm with rfl|rfl|rfl|rfl<;>exact evT_write _ _ ((fun k=>hnh k) _))⟩,?_⟩;clear hK K hc0 hc1 hc2 hc3 hz0;simp only[setCell_at'];refine Own.at ?_ dd)
 refine ogE ?_
 refine ogX ?_
 have hT2:=hT.put (.slice aa al ac) (.slice oa ol oc) (.slice none 0 0) (.bool st)
 change Own _ _ _ _ _ (trW w tb (.slice aa al ac) (.slice oa ol oc) (.slice none 0 0) (.bool st))
 generalize trW w tb (.slice aa al ac) (.slice oa ol oc) (.slice none 0 0) (.bool st)=W at hT2 h ⊢
 have hc0:=hT2.c0
 have hc1:=hT2.c1
 have hc2:=hT2.c2
 have hc3:=hT2.c3
 have hz0:=hT2.z
 refine own_leave (fn:=Try.f47) (v:=.agg #[.slice aa al ac,.slice oa ol oc,.slice none 0 0,.bool st]) rfl rfl Try.func47 (fun d=>by simp[results,Try.f47,go_sem,hc0,hc1,hc2,hc3,hz0]) (fun d e he=>by simp[results,Try.f47,go_sem,hc0,hc1,hc2,hc3,hz0]at he;rcases he with rfl|rfl|rfl|rfl<;>exact evT_read _ _) ?_
 exact h
end
noncomputable section
variable{w w':World}{L:Lay}
open Classical in
def IW(w:World)(N:Nat→Prop):Nat→Option Obj:=fun r=>if N r then none else match w.heap[r]? with
 | some (.cells c e z)=>some (.cells c e z)
 | _=>none
theorem iw_mem{N:Nat→Prop}{r:Nat}(h:N r):IW w N r=none:=if_pos h
theorem iw_cells{N:Nat→Prop}{r:Nat}{c:Array Value}{e:TypeId}{z:Nat×Nat}(h:¬N r)(ho:w.heap[r]? =some (.cells c e z)):IW w N r=some (.cells c e z):=by
 unfold IW
 rw[if_neg h,ho]
theorem iw_some{N:Nat→Prop}{r:Nat}{o:Obj}(h:IW w N r=some o):¬N r∧w.heap[r]? =some o∧∃c e z,o= .cells c e z:=by
 unfold IW at h
 split at h
 ·cases h
 ·rename_i hm
  split at h
  ·rename_i c e z ho
   cases h
   exact⟨hm,ho,c,e,z,rfl⟩
  ·cases h
theorem madeCells_nil(n j:Nat)(h:j<n):(madeCells #[Value.slice none 0 0] n)[j]? =some (.slice none 0 0):=by
 simp[madeCells,h,Nat.mod_one]
theorem madeCells_size(n:Nat)(v:Value):(madeCells #[v] n).size=n:=by
 simp[madeCells]
def x00(s0:L.S):OX L:=⟨s0,fun _=>⟨0,none,[],.slice none 0 0⟩⟩
theorem tr00{r:Nat}:¬TR (⟨0,none,[],.slice none 0 0⟩:Thr L) r:=by
 rintro(h|⟨a,ha,_⟩|⟨c,A,ab,h,_⟩)
 ·cases h
 ·cases ha
 ·cases h
def pOf(L:Lay)(s0:L.S)(W:World)(n db aa av:Nat)(ib ob:Nat→Nat)(oa:Nat→Option Addr)(oc:Nat→Nat)(ops:Nat→List Op4):Par:=
 ⟨n,aa,av,db,ib,ob,ops,oa,oc,IW W (fun r=>r=aa∨L.SR s0 r)⟩
theorem pof_cells{s0:L.S}{W:World}{n db aa av:Nat}{ib ob:Nat→Nat}{oa:Nat→Option Addr}{oc:Nat→Nat}{ops:Nat→List Op4}{r:Nat}{c:Array Value}{e:TypeId}{z:Nat×Nat}(h:¬(r=aa∨L.SR s0 r))(ho:W.heap[r]? =some (.cells c e z)):(pOf L s0 W n db aa av ib ob oa oc ops).I r=some (.cells c e z):=by
 exact iw_cells (w:=W) (N:=fun r=>r=aa∨L.SR s0 r) h ho
theorem pof_some{s0:L.S}{W:World}{n db aa av:Nat}{ib ob:Nat→Nat}{oa:Nat→Option Addr}{oc:Nat→Nat}{ops:Nat→List Op4}{r:Nat}{o:Obj}(h:(pOf L s0 W n db aa av ib ob oa oc ops).I r=some o):¬(r=aa∨L.SR s0 r)∧W.heap[r]? =some o∧∃c e z,o= .cells c e z:=by
 exact iw_some (w:=W) (N:=fun r=>r=aa∨L.SR s0 r) h
theorem pof_mem{s0:L.S}{W:World}{n db aa av:Nat}{ib ob:Nat→Nat}{oa:Nat→Option Addr}{oc:Nat→Nat}{ops:Nat→List Op4}{r:Nat}(h:r=aa∨L.SR s0 r):(pOf L s0 W n db aa av ib ob oa oc ops).I r=none:=by
 exact iw_mem (w:=W) (N:=fun r=>r=aa∨L.SR s0 r) h
section
variable{s0:L.S}{W w0:World}{n db aa av tb o tl:Nat}{ib ob:Nat→Nat}{oa:Nat→Option Addr}{ol oc m:Nat→Nat}{ops:Nat→List Op4}{ta sa:Option Addr}{S:List Int}{l:Value}
theorem di_type{dv:Value}(hL:L.Ok)(hsu:L.SU s0 w0)(hD:DI w0 n n db aa av dv oa m oc ib ob l W){r:Nat}{c:Array Value}{e:TypeId}{z:Nat×Nat}(ho:W.heap[r]? =some (.cells c e z))(h84:e≠42)(hr:w0.heap.size≤r):¬(r=aa∨L.SR s0 r):=by
 rintro(rfl|h)
 ·rw[hD.haa]at ho
  cases ho
  exact h84 rfl
 ·have:=hL.lS _ _ _ hsu h
  omega
theorem pof_ok(hL:L.Ok)(hsu:L.SU s0 w0)(hI:OpsIn w0 (L.SR s0) n tb o tl ta oa ol oc ops S sa)(hD:DI w0 n n db aa av (.func (.func L.df) L.first L.capt) oa (fun j=>(ops j).length) oc ib ob l W):(pOf L s0 W n db aa av ib ob oa oc ops).Ok L where
 cells:=fun r o h=>(pof_some h).2.2
 len:=fun i hi=>by
  have:(ops i).length=min (ol i) 65536:=hI.hlen i hi
  show(ops i).length≤65536
  omega
 inI:=⟨by
  show(pOf L s0 W n db aa av ib ob oa oc ops).I av≠none
  rw[pof_cells (di_type hL hsu hD hD.hav (by decide) hD.new.2.2) hD.hav];simp,fun i hi=>by
  show(pOf L s0 W n db aa av ib ob oa oc ops).I (ib i)≠none
  rw[pof_cells (di_type hL hsu hD (hD.hib i hi) (by decide) (hD.lo i hi).1) (hD.hib i hi)];simp⟩
 av:=fun u hu=>⟨⟨_,_,hu _ _ (pof_cells (di_type hL hsu hD hD.hav (by decide) hD.new.2.2) hD.hav),rfl⟩,rfl⟩
 db:=fun u hu=>⟨⟨_,_,hu _ _ (pof_cells (di_type hL hsu hD hD.hdb (by decide) hD.new.1) hD.hdb),rfl⟩,rfl⟩
 ib:=fun u hu i hi=>⟨⟨_,_,hu _ _ (pof_cells (di_type hL hsu hD (hD.hib i hi) (by decide) (hD.lo i hi).1) (hD.hib i hi)),rfl⟩,rfl⟩
 ob:=fun u hu i hi=>⟨⟨_,_,hu _ _ (pof_cells (di_type hL hsu hD (hD.hob i hi) (by decide) (hD.lo i hi).2) (hD.hob i hi)),rfl⟩,rfl⟩
 op:=fun u hu i hi k x hx=>by
  obtain⟨opb,oo,h1,h2,f0,f1,f2,f3,g0,g1,g2,g3⟩:=hI.hop i hi k x hx
  obtain⟨c,e,z,ho⟩:=cell_block f0
  simp only at ho
  have hlt:=(alt ho)
  have hW:=(hD.old opb hlt).trans ho
  have hN:¬(opb=aa∨L.SR s0 opb):=by
   rintro(h|h)
   ·have:=hD.new.2.1;omega
   ·exact h2 h
  have hU:=hu _ _ (pof_cells hN hW)
  have e1:u.heap[opb]? =w0.heap[opb]?:=hU.trans ho.symm
  have ec:∀k,u.cell? ⟨opb,k,none⟩=w0.cell? ⟨opb,k,none⟩:=fun k=>by unfold World.cell?;simp only[e1]
  have ez:∀k,u.frozen? ⟨opb,k,none⟩=w0.frozen? ⟨opb,k,none⟩:=fun k=>by unfold World.frozen?;simp only[e1]
  exact⟨opb,oo,h1,(ec _).trans f0,(ec _).trans f1,(ec _).trans f2,(ec _).trans f3,(ez _).trans g0,(ez _).trans g1,(ez _).trans g2,(ez _).trans g3⟩
theorem ou_first{g:Gate}(hL:L.Ok)(hsu:L.SU s0 w0)(hD:DI w0 n n db aa av (.func (.func L.df) L.first L.capt) oa (fun j=>(ops j).length) oc ib ob l W):OU L (pOf L s0 W n db aa av ib ob oa oc ops) g (x00 s0) W where
 fix:=fun r o h=>(pof_some h).2.1
 su:=hL.sS _ _ _ hsu hD.size fun r hr=>hD.old r (hL.lS _ _ _ hsu hr)
 arr:=⟨_,hD.haa,madeCells_size _ _,fun i hi=>madeCells_nil _ _ hi⟩
 thr:=fun i hi=>⟨World.ownsRow_nil _ _ _ _,fun a ha=>(by cases ha),rfl,Nat.zero_le _,fun a ha=>(by cases ha),fun c A ab h=>(by cases h)⟩
 ts:=fun i hi r hr=>absurd hr tr00
 sa:=fun h=>by
  have:=hL.lS _ _ _ hsu h
  have h2:=hD.new.2.1
  show False
  have h3:(pOf L s0 W n db aa av ib ob oa oc ops).aa=aa:=rfl
  omega
 jj:=fun i hi c A ab h=>(by cases h)
 tt:=fun i j hi hj hne r hr=>absurd hr tr00
 inone:=by
  rintro r (h|h|⟨i,hi,h⟩)
  ·exact pof_mem (.inr h)
  ·exact pof_mem (.inl h)
  ·exact absurd h tr00
end
end
section
variable{An:Anchor}{w w':World}{L:Lay}
theorem OpsIn.alloc{N:Nat→Prop}{n tb o tl:Nat}{ta:Option Addr}{oa:Nat→Option Addr}{ol oc:Nat→Nat}{ops:Nat→List Op4}{S:List Int}{sa:Option Addr}(h:OpsIn w N n tb o tl ta oa ol oc ops S sa)(ob:Obj):OpsIn (w.alloc ob) N n tb o tl ta oa ol oc ops S sa:=by
 refine⟨h.hn,h.hta,fun hp=>by have:=h.htb hp;simp;omega,fun j hj=>?_,h.hlen,fun j hj k x hx=>?_,h.hsl,fun hp=>?_⟩
 ·obtain⟨h1,h2,h3⟩:=h.hth j hj
  exact⟨(cellB_alloc h1 ob).1,(cellB_alloc h1 ob).2.trans h2,h3⟩
 ·obtain⟨opb,oo,h1,h2,f0,f1,f2,f3,g0,g1,g2,g3⟩:=h.hop j hj k x hx
  exact⟨opb,oo,h1,h2,(cellB_alloc f0 ob).1,(cellB_alloc f1 ob).1,(cellB_alloc f2 ob).1,(cellB_alloc f3 ob).1,(cellB_alloc f0 ob).2.trans g0,(cellB_alloc f1 ob).2.trans g1,(cellB_alloc f2 ob).2.trans g2,(cellB_alloc f3 ob).2.trans g3⟩
 ·obtain⟨sb,so,c,e,z,h1,h2,h3,h4⟩:=h.hS hp
  exact⟨sb,so,c,e,z,h1,h2,(heap_alloc_lt _ _ (alt h3)).trans h3,h4⟩
def Par.re(p:Par)(I:Nat→Option Obj):Par:=⟨p.n,p.aa,p.av,p.db,p.ib,p.ob,p.ops,p.oa,p.oc,I⟩
theorem ThrU.re{p:Par}{I:Nat→Option Obj}{st i:Nat}{t:Thr L}(h:ThrU L p st i t w):ThrU L (p.re I) st i t w:=⟨h.row,h.au,h.al,h.kl,h.ar,h.call⟩
theorem OU.re{p:Par}{g:Gate}{x:OX L}(h:OU L p g x w){I:Nat→Option Obj}(hI:∀r o,I r=some o→p.I r=some o):OU L (p.re I) g x w:=
 ⟨fun r o e=>h.fix r o (hI r o e),h.su,h.arr,fun i hi=>(h.thr i hi).re,h.ts,h.sa,h.jj,h.tt,fun r hr=>by
  cases e:I r with
  | none=>exact e
  | some o=>
    have:=h.inone r hr
    rw[hI r o e]at this
    cases this⟩
theorem bes_ops(hL:L.Ok){s0:L.S}(hsu:L.SU s0 w){n tb o tl tc sc M:Nat}{mo:Int}{ta sa:Option Addr}{oa:Nat→Option Addr}{ol oc:Nat→Nat}{ops:Nat→List Op4}{S:List Int}(hI:OpsIn w (L.SR s0) n tb o tl ta oa ol oc ops S sa)(hM:min (max mo 0) 1048576=(M:Int)){c:Frame}{cs:List Frame}{Stop:Goroutine→World→Prop}
 (hk:∀(g:Gate) (p p':Par) (t:OX L×List Nat) (w':World) (oa':Option Addr) (oc':Nat),g.n=n→p.n=n→p.ops=ops→(opsUsers L p g).Ok g→OverRel (opsUsers L p g) n M S (x00 s0) t→p'.n=n→p'.ops=ops→p'.aa=p.aa→OU L p' g t.1 w'→
   w'.ownsRow w.heap.size 3 1 (.slice oa' t.2.length oc') t.2.length (t.2.map fun i:Nat=>Value.int .i64 i)→(∀y,oa'=some y→¬OR L p' t.1 y.block)→w.heap.size≤w'.heap.size→(∀r c e z,w.heap[r]? =some (.cells c e z)→¬L.SR s0 r→w'.heap[r]? =some (.cells c e z))→
   Bes An Try.prog Stop (G (c.finish (.agg #[.slice (some ⟨p.aa,0,none⟩) n n,.slice oa' t.2.length oc',.slice none 0 0,.bool (decide (0<cnt ((opsUsers L p g).liv t.1) n))])) cs) w'):
 Bes An Try.prog Stop (G (Frame.enter Try.prog 47 #[.slice ta tl tc,.func (.func L.df) L.first L.capt,.slice sa S.length sc,.int .i64 mo] .normal) (c::cs)) w:=by
 have hw0:∀r,r<w.heap.size→(w.alloc (.cells #[.slice none 0 0,.slice none 0 0,.slice none 0 0,.bool false] 31)).heap[r]? =w.heap[r]?:=fun r hr=>heap_alloc_lt _ _ hr
 have hs0:(w.alloc (.cells #[.slice none 0 0,.slice none 0 0,.slice none 0 0,.bool false] 31)).heap.size=w.heap.size+1:=by simp
 have htr:TrAt (w.alloc (.cells #[.slice none 0 0,.slice none 0 0,.slice none 0 0,.bool false] 31)) w.heap.size (.slice none 0 0) (.slice none 0 0) (.slice none 0 0) (.bool false):=⟨heap_alloc_new _ _⟩
 have hI0:=hI.alloc (.cells #[.slice none 0 0,.slice none 0 0,.slice none 0 0,.bool false] 31)
 refine bes_own (F:=F0) (Stop:=fun a u=>∃A l ib ob db aa av,a=G (Frame.enter Try.prog 82 #[l,.slice sa S.length sc,.int .i64 mo] .normal) (((Go.Conc.base 47).at ⟨A,[]⟩ [.inRegion (oC opr2) [3,4,5,6,7,8,9,10],.code ops3])::c::cs)∧
  DI (w.alloc (.cells #[.slice none 0 0,.slice none 0 0,.slice none 0 0,.bool false] 31)) n n db aa av (.func (.func L.df) L.first L.capt) oa (fun j=>(ops j).length) oc ib ob l u∧Slots 32 A [(8,.pointer (some ⟨w.heap.size,0,none⟩)),(10,.slice (some ⟨aa,0,none⟩) n n)])
  (op_0 under_F0 (Nat.zero_le _) fun A hA=>own_doing hI0.hn hI0.htb (fun j hj=>⟨(hI0.hth j hj).1,(hI0.hth j hj).2.1,(hI0.hth j hj).2.2,(hI0.hlen j hj).symm⟩) hI0.hta fun w1 l ib ob db aa av hD=>op_1 hA fun A2 hA2=>.stop fun d=>⟨A2,l,ib,ob,db,aa,av,rfl,hD.same (Nat.le_refl _) fun _ _=>rfl,hA2⟩) fun a W hS=>?_
 obtain⟨A,l,ib,ob,db,aa,av,rfl,hD,hA⟩:=hS
 generalize w.alloc (.cells #[.slice none 0 0,.slice none 0 0,.slice none 0 0,.bool false] 31)=w0 at hw0 hs0 htr hI0 hD
 have hsu0:L.SU s0 w0:=hL.sS _ _ _ hsu (by omega) fun r hr=>hw0 r (hL.lS _ _ _ hsu hr)
 have hpok:=pof_ok hL hsu0 hI0 hD
 have hn64:n≤64:=by have:=hI.hn;omega
 have hU1:∀g,OU L (pOf L s0 W n db aa av ib ob oa oc ops) g (x00 s0) W:=fun g=>ou_first hL hsu0 hD
 have hsrlt:∀r,L.SR s0 r→r<w.heap.size:=fun r hr=>hL.lS _ _ _ hsu hr
 have hDs:=hD.size
 have hDn:=hD.new
 obtain⟨la,lc,rfl,hla⟩:∃la lc,l= .slice la n lc∧(0<n→∃lb cur,la=some ⟨lb,0,none⟩∧w0.heap.size≤lb∧W.heap[lb]? =some (.cells cur 112 (0,0))∧cur.toList.take n=(List.range n).map fun j=>cl68 (ob j) db (ib j) av):=by
  rcases hD.row.2 with⟨h1,h2⟩|⟨b,cap,cur,h1,h2,h3,h4,h5,h6,h7⟩
  ·exact⟨none,0,by rw[h1,h2],fun h=>by omega⟩
  ·exact⟨_,cap,h1,fun _=>⟨b,cur,rfl,h2,h3,by simpa using h7⟩⟩
 have hnm:∀r c e z,W.heap[r]? =some (.cells c e z)→e≠42→¬L.SR s0 r→(pOf L s0 W n db aa av ib ob oa oc ops).I r=some (.cells c e z):=fun r c e z h1 h2 h3=>pof_cells (by
  rintro(rfl|h)
  ·rw[hD.haa]at h1
   cases h1
   exact h2 rfl
  ·exact h3 h) h1
 have hnA:∀r c e z,W.heap[r]? =some (.cells c e z)→r≠aa→¬L.SR s0 r→(pOf L s0 W n db aa av ib ob oa oc ops).I r=some (.cells c e z):=fun r c e z h1 h2 h3=>pof_cells (fun h=>h.elim h2 h3) h1
 have hnewS:∀r,w0.heap.size≤r→¬L.SR s0 r:=fun r hr h=>by have:=hsrlt r h;omega
 have hthr:∃lb,(0<n→la=some ⟨lb,0,none⟩)∧∀g:Gate,RowIs (opsUsers L (pOf L s0 W n db aa av ib ob oa oc ops) g) lb 0 ((List.range n).map fun j=>.func (.func 99) #[] ((opsUsers L (pOf L s0 W n db aa av ib ob oa oc ops) g).cap j)):=by
  by_cases h0:0<n
  ·obtain⟨lb,cur,h1,h2,h3,h4⟩:=hla h0
   refine⟨lb,fun _=>h1,fun g=>⟨cur,112,(0,0),hnm lb _ _ _ h3 (by decide) (hnewS lb h2),fun k u hku=>⟨?_,by simp⟩⟩⟩
   have hku:((List.range n).map fun j=>cl68 (ob j) db (ib j) av)[k]? =some u:=hku
   rw[← h4]at hku
   have hkn:k<n:=by
    have:=(List.getElem?_eq_some_iff.1 hku).1
    rw[List.length_take]at this
    omega
   rw[List.getElem?_take_of_lt hkn]at hku
   simpa using hku
  ·refine⟨av,fun h=>absurd h h0,fun g=>⟨_,_,_,hnm av _ _ _ hD.hav (by decide) (hnewS av hDn.2.2),fun k u hku=>?_⟩⟩
   have:n=0:=by omega
   rw[this]at hku
   simp at hku
 obtain⟨lb,hlb,hrow⟩:=hthr
 have hsch:∃sb so,(0<S.length→sa=some ⟨sb,so,none⟩)∧∀g:Gate,RowIs (opsUsers L (pOf L s0 W n db aa av ib ob oa oc ops) g) sb so (S.map fun i:Int=>Value.int .i64 i):=by
  by_cases h0:0<S.length
  ·obtain⟨sb,so,cc,e,z,h1,h2,h3,h4⟩:=hI0.hS h0
   have hlt:=(alt h3)
   refine⟨sb,so,fun _=>h1,fun g=>⟨cc,e,z,hnA sb _ _ _ ((hD.old sb hlt).trans h3) (by omega) h2,h4⟩⟩
  ·refine⟨av,0,fun h=>absurd h h0,fun g=>⟨_,_,_,hnm av _ _ _ hD.hav (by decide) (hnewS av hDn.2.2),fun k u hku=>?_⟩⟩
   have:S=[]:=List.length_eq_zero_iff.1 (by omega)
   rw[this]at hku
   simp at hku
 obtain⟨sb,so,hsb,hsrow⟩:=hsch
 have htrI:(pOf L s0 W n db aa av ib ob oa oc ops).I w.heap.size=some (.cells #[.slice none 0 0,.slice none 0 0,.slice none 0 0,.bool false] 31 (0,0)):=
  hnm _ _ _ _ ((hD.old _ (by omega)).trans htr.o) (by decide) fun h=>by have:=hsrlt _ h;omega
 refine bes_over (Z:=fun g=>opsUsers L (pOf L s0 W n db aa av ib ob oa oc ops) g) (x0:=fun g=>x00 s0) (tb:=lb) (so:=so) (sb:=sb) hn64 hM hI.hsl (fun g hg _=>ops_ok hL hpok hg) (fun g w2 _ h1 h2=>OU.stable hL (hU1 g) h1 fun r hr=>?_) (fun g hg j hj=>⟨rfl,rfl⟩) (fun g r hr=>OU.low (g:=g) hL (hU1 g) hr) (fun g r hr=>⟨fixed_lt (p:=pOf L s0 W n db aa av ib ob oa oc ops) (hU1 g).fix hr,fun h=>hr ((hU1 g).inone r h)⟩) hlb (fun g _=>hrow g) hsb (fun g _=>hsrow g) ?_
 ·have hlt:r<W.heap.size:=hr.elim (OU.low hL (hU1 g)) (fixed_lt (hU1 g).fix)
  rw[h2 r _ (Array.getElem?_eq_getElem hlt),Array.getElem?_eq_getElem hlt]
 ·intro g t u oa' oc' bv hg hrel hU hord hnR hsz
  have hU:OU L (pOf L s0 W n db aa av ib ob oa oc ops) g t.1 u:=hU
  have hT:TrAt u w.heap.size (.slice none 0 0) (.slice none 0 0) (.slice none 0 0) (.bool false):=⟨hU.fix _ _ htrI⟩
  refine bes_own (F:=F0) (Stop:=fun a u2=>a=G (c.finish (.agg #[.slice (some ⟨aa,0,none⟩) n n,.slice oa' t.2.length oc',.slice none 0 0,.bool (decide (0<cnt ((opsUsers L (pOf L s0 W n db aa av ib ob oa oc ops) g).liv t.1) n))])) cs∧∃d,u2=(trW u w.heap.size (.slice (some ⟨aa,0,none⟩) n n) (.slice oa' t.2.length oc') (.slice none 0 0) (.bool (decide (0<cnt ((opsUsers L (pOf L s0 W n db aa av ib ob oa oc ops) g).liv t.1) n)))).at d)
   (op_2 hT (fun k h=>by obtain⟨z,hz,_⟩:=h;cases hz) hA (.stop fun d=>⟨rfl,d,rfl⟩)) fun a u2 ⟨ha,d,hu2⟩=>?_
  subst ha
  subst hu2
  have hne:∀r,r≠w.heap.size→((trW u w.heap.size (.slice (some ⟨aa,0,none⟩) n n) (.slice oa' t.2.length oc') (.slice none 0 0) (.bool (decide (0<cnt ((opsUsers L (pOf L s0 W n db aa av ib ob oa oc ops) g).liv t.1) n)))).at d).heap[r]? =u.heap[r]?:=fun r hr=>by
   show(trW _ _ _ _ _ _).heap[r]? =_
   unfold trW
   rw[heap_setCell_ne _ _ _ hr,heap_setCell_ne _ _ _ hr,heap_setCell_ne _ _ _ hr,heap_setCell_ne _ _ _ hr]
  have hsz2:((trW u w.heap.size (.slice (some ⟨aa,0,none⟩) n n) (.slice oa' t.2.length oc') (.slice none 0 0) (.bool (decide (0<cnt ((opsUsers L (pOf L s0 W n db aa av ib ob oa oc ops) g).liv t.1) n)))).at d).heap.size=u.heap.size:=by
   show(trW _ _ _ _ _ _).heap.size=_
   unfold trW
   simp
  generalize (trW u w.heap.size (.slice (some ⟨aa,0,none⟩) n n) (.slice oa' t.2.length oc') (.slice none 0 0) (.bool (decide (0<cnt ((opsUsers L (pOf L s0 W n db aa av ib ob oa oc ops) g).liv t.1) n)))).at d=V at hne hsz2 ⊢
  let I':Nat→Option Obj:=fun r=>if r=w.heap.size then none else(pOf L s0 W n db aa av ib ob oa oc ops).I r
  have hI':∀r o,I' r=some o→r≠w.heap.size∧(pOf L s0 W n db aa av ib ob oa oc ops).I r=some o:=fun r o h=>by
   by_cases e:r=w.heap.size
   ·simp[I',e]at h
   ·exact⟨e,by simpa [I',e]using h⟩
  have htrR:¬OR L (pOf L s0 W n db aa av ib ob oa oc ops) t.1 w.heap.size:=fun h=>by
   have:=hU.inone _ h
   rw[htrI]at this
   cases this
  have hU2:OU L ((pOf L s0 W n db aa av ib ob oa oc ops).re I') g t.1 u:=hU.re fun r o h=>(hI' r o h).2
  refine hk g (pOf L s0 W n db aa av ib ob oa oc ops) ((pOf L s0 W n db aa av ib ob oa oc ops).re I') t V oa' oc' hg rfl rfl (ops_ok hL hpok hg) hrel rfl rfl rfl (hU2.stable hL (by omega) fun r hr=>hne r ?_) ?_ hnR (by omega) fun r cc e z hr hnS=>?_
  ·rintro rfl
   rcases hr with hr|hr
   ·exact htrR hr
   ·cases e:I' w.heap.size with
    | none=>exact hr e
    | some o=>exact(hI' _ _ e).1 rfl
  ·refine ownsRow_mono_base (by omega) (ownsRow_same2 hord fun b hb hbn=>hne b (by omega))
  ·have hlt:=(alt hr)
   rw[hne r (by omega)]
   exact hU.fix _ _ (hnA r _ _ _ ((hD.old r (by omega)).trans ((hw0 r hlt).trans hr)) (by omega) hnS)
end
noncomputable section
variable{F:Fz}{w:World}
theorem wraps63(n:Int)(h₀:0≤n)(h₁:n<2 ^ 63):IntKind.u64.wrap n=n:=by rw[IntKind.wrap_u64];omega
theorem pk_mask{n t:Int}(h1:0≤n)(h2:n<100000)(h3:0≤t)(h4:t<2147483648):bits .and .u64 (n*4294967296+t) 2147483647=t:=by
 have h:=bits_mask .u64 63 (by decide) wraps63 31 (by decide) (n*4294967296+t) (by omega) (by omega)
 have e:((2:Int) ^ 31 - 1)=2147483647:=by decide
 have e2:((2:Int) ^ 31)=2147483648:=by decide
 rw[e,e2]at h
 rw[h]
 omega
theorem pk_or{n t:Int}(h1:0≤n)(h2:n<100000)(h3:0≤t)(h4:t<2147483648):bits .or .u64 (n*4294967296) t=n*4294967296+t:=by
 obtain⟨a,rfl⟩:∃a:Nat,n=(a:Int):=⟨n.toNat,by omega⟩
 obtain⟨b,rfl⟩:∃b:Nat,t=(b:Int):=⟨t.toNat,by omega⟩
 have h:=(bits_nat .u64 63 (by decide) wraps63 (a*4294967296) b (by omega) (by omega)).2
 have e:(a*4294967296 ||| b:Nat)=a*4294967296+b:=by
  have:=Nat.two_pow_add_eq_or_of_lt (b:=b) (i:=32) (by omega) a
  rw[show(2:Nat) ^ 32=4294967296 by decide]at this
  rw[Nat.mul_comm,← this]
 rw[e]at h
 simpa using h
def pk(h:Int×Int):Int:=(h.1+1)*4294967296+h.2
def kofBody:Code:=Try.f77.body.getD .skip
def kofs0:=pC [] kofBody
def kofr0:=pC [zt] kofBody
def kofs1:=pC [zf] kofBody
def kofr1:=pC [zf,zt] kofBody
theorem kofs0':kofs0= .seq kofr0 kofs1:=by kernel_rfl
theorem kofr0':kofr0= .region 0 (oC kofr0) false:=by kernel_rfl
theorem kofs1':kofs1= .seq kofr1 .ret:=by kernel_rfl
theorem kofr1':kofr1= .region 1 (oC kofr1) false:=by kernel_rfl
theorem enter_kof(args:Array Value):Frame.enter Try.prog 77 args .normal=(Go.Conc.base 77).at {tmps:=args++Array.replicate (7 - args.size) undef,defers:=[]} [.code kofs0]:=enter_at args Try.func77 rfl
theorem callable77:Callable 77:=callable Try.func77 rfl rfl
def kpkBody:Code:=Try.f75.body.getD .skip
def kpks0:=pC [] kpkBody
def kpkr0:=pC [zt] kpkBody
def kpks1:=pC [zf] kpkBody
def kpkr1:=pC [zf,zt] kpkBody
theorem kpks0':kpks0= .seq kpkr0 kpks1:=by kernel_rfl
theorem kpkr0':kpkr0= .region 0 (oC kpkr0) false:=by kernel_rfl
theorem kpks1':kpks1= .seq kpkr1 .ret:=by kernel_rfl
theorem kpkr1':kpkr1= .region 1 (oC kpkr1) false:=by kernel_rfl
theorem enter_kpk(args:Array Value):Frame.enter Try.prog 75 args .normal=(Go.Conc.base 75).at {tmps:=args++Array.replicate (11 - args.size) undef,defers:=[]} [.code kpks0]:=enter_at args Try.func75 rfl
theorem callable75:Callable 75:=callable Try.func75 rfl rfl
def kttBody:Code:=Try.f98.body.getD .skip
def ktts0:=pC [] kttBody
def kttr0:=pC [zt] kttBody
def ktts1:=pC [zf] kttBody
def kttr1:=pC [zf,zt] kttBody
def ktts2:=pC [zf,zf] kttBody
def ktts3:=pC [zf,zf,zt] kttBody
def kttr2:=pC [zf,zf,zt,zt] kttBody
def kttc13:=pC [zf,zf,zt,zf] kttBody
def kttr3:=pC [zf,zf,zt,zf,zt] kttBody
def ktts4:=pC [zf,zf,zf] kttBody
def kttr4:=pC [zf,zf,zf,zt] kttBody
theorem ktts0':ktts0= .seq kttr0 ktts1:=by kernel_rfl
theorem kttr0':kttr0= .region 0 (oC kttr0) false:=by kernel_rfl
theorem ktts1':ktts1= .seq kttr1 ktts2:=by kernel_rfl
theorem kttr1':kttr1= .region 1 (oC kttr1) false:=by kernel_rfl
theorem ktts2':ktts2= .seq ktts3 ktts4:=by kernel_rfl
theorem ktts3':ktts3= .seq kttr2 kttc13:=by kernel_rfl
theorem kttr2':kttr2= .region 2 (oC kttr2) false:=by kernel_rfl
theorem kttc13':kttc13= .cond (.tmp 13) kttr3 .skip:=by kernel_rfl
theorem kttr3':kttr3= .region 3 (oC kttr3) false:=by kernel_rfl
theorem ktts4':ktts4= .seq kttr4 .ret:=by kernel_rfl
theorem kttr4':kttr4= .region 4 (oC kttr4) false:=by kernel_rfl
theorem enter_ktt(args:Array Value):Frame.enter Try.prog 98 args .normal=(Go.Conc.base 98).at {tmps:=args++Array.replicate (24 - args.size) undef,defers:=[]} [.code ktts0]:=enter_at args Try.func98 rfl
theorem callable98:Callable 98:=callable Try.func98 rfl rfl
theorem own_of{n t:Int}(hn: -1≤n∧n<65536)(ht:0≤t∧t<2147483648){c:Frame}{cs:List Frame}{main:Bool}{Stop:Goroutine→World→Prop}(h:Own Try.prog main F Stop (G (c.finish (.int .i64 n)) cs) w):
 Own Try.prog main F Stop (G (Frame.enter Try.prog 77 #[.int .u64 (pk (n,t))] .normal) (c::cs)) w:=by
 have e1:pk (n,t) / 4294967296=n+1:=by unfold pk;simp only;omega
 have e2:IntKind.i64.wrap (n+1)=n+1:=IntWalk.i64_in _ (by omega)
 have e3:IntKind.i64.wrap n=n:=IntWalk.i64_in _ (by omega)
 rw[enter_kof]
 walk_nrm
 refine ogSR kofs0' kofr0' ?_
 simp only[kofr0,kofBody,Try.f77,zz,Nat.reduceAdd]
 (refine oW fun dd K hK=>?_;go_simp;refine qT hK ?_;clear hK K)
 refine ogE ?_
 refine ogSR kofs1' kofr1' ?_
 simp only[kofr1,kofBody,Try.f77,zz,Nat.reduceAdd]
 iterate 5 (refine oW fun dd K hK=>?_;go_simp;refine qT hK ?_;clear hK K)
 refine ogE ?_
 refine ogX ?_
 refine own_go rfl (fun d=>stepG_leave (fn:=Try.f77) (v:=.int .i64 n) rfl rfl Try.func77 (by simp[results,Try.f77]) (by simp[results,Try.f77,go_sem])) ?_
 exact h
theorem own_packed{n t:Int}(hn: -1≤n∧n<65536)(ht:0≤t∧t<2147483648){c:Frame}{cs:List Frame}{main:Bool}{Stop:Goroutine→World→Prop}(h:Own Try.prog main F Stop (G (c.finish (.int .u64 (pk (n,t)))) cs) w):
 Own Try.prog main F Stop (G (Frame.enter Try.prog 75 #[.int .i64 n,.int .u64 t] .normal) (c::cs)) w:=by
 have e1:IntKind.i64.wrap (n+1)=n+1:=IntWalk.i64_in _ (by omega)
 have e2:IntKind.u64.wrap (n+1)=n+1:=wraps63 _ (by omega) (by omega)
 have e3:IntKind.u64.wrap ((n+1)*4294967296)=(n+1)*4294967296:=wraps63 _ (by omega) (by omega)
 have e4:bits .or .u64 ((n+1)*4294967296) t=(n+1)*4294967296+t:=pk_or (by omega) (by omega) ht.1 ht.2
 rw[enter_kpk]
 walk_nrm
 refine ogSR kpks0' kpkr0' ?_
 simp only[kpkr0,kpkBody,Try.f75,zz,Nat.reduceAdd]
 (refine oW fun dd K hK=>?_;go_simp;refine qT hK ?_;clear hK K)
 refine ogE ?_
 refine ogSR kpks1' kpkr1' ?_
 simp only[kpkr1,kpkBody,Try.f75,zz,Nat.reduceAdd]
 iterate 7 (refine oW fun dd K hK=>?_;go_simp;refine qT hK ?_;clear hK K)
 refine ogE ?_
 refine ogX ?_
 refine own_go rfl (fun d=>stepG_leave (fn:=Try.f75) (v:=.int .u64 ((n+1)*4294967296+t)) rfl rfl Try.func75 (by simp[results,Try.f75]) (by simp[results,Try.f75,go_sem])) ?_
 exact h
theorem own_turn1{kb:Nat}{ad:Addr}{n t to v:Int}{eq:Bool}(hv:(v == pk (n,t))=eq)(hk:w.cell? ⟨kb,3,none⟩=some (.bool true))(hn: -1≤n∧n<65536)(ht:0≤t∧t<2147483648)(hto: -1≤to∧to<65536)(hc:w.cell? ad=some (.int .u64 v))(hs:ad.spot=none)(hz:w.frozen? ad=false)(hnh:¬held F ad){c:Frame}{cs:List Frame}{main:Bool}{Stop:Goroutine→World→Prop}
 (h:Own Try.prog main F Stop (G (c.finish (.bool eq)) cs) (if eq then w.setCell ad (.int .u64 (pk (to,(t+1) % 2147483648)))else w)):
 Own Try.prog main F Stop (G (Frame.enter Try.prog 98 #[.pointer (some ⟨kb,0,none⟩),.pointer (some ad),.int .u64 (pk (n,t)),.int .i64 to] .normal) (c::cs)) w:=by
 have ht2:(0:Int)≤(t+1) % 2147483648∧(t+1) % 2147483648<(2147483648:Int):=by omega
 have e1:bits .and .u64 (pk (n,t)) 2147483647=t:=pk_mask (by omega) (by omega) ht.1 ht.2
 have e2:IntKind.u64.wrap (t+1)=t+1:=wraps63 _ (by omega) (by omega)
 have e3:IntKind.u64.wrap ((t+1) % 2147483648)=(t+1) % 2147483648:=wraps63 _ (by omega) (by omega)
 have e4:Int.tmod (t+1) 2147483648=(t+1) % 2147483648:=Int.tmod_eq_emod_of_nonneg (by omega)
 rw[enter_ktt]
 walk_nrm
 refine ogSR ktts0' kttr0' ?_
 simp only[kttr0,kttBody,Try.f98,zz,Nat.reduceAdd]
 (refine oW fun dd K hK=>?_;go_simp;refine qT hK ?_;clear hK K)
 refine ogE ?_
 refine ogSR ktts1' kttr1' ?_
 simp only[kttr1,kttBody,Try.f98,zz,Nat.reduceAdd]
 (refine oW fun dd K hK=>?_;go_simp;refine qT hK ?_;clear hK K)
 refine ogE ?_
 refine ogSE ktts2' ?_
 refine ogSR ktts3' kttr2' ?_
 simp only[kttr2,kttBody,Try.f98,zz,Nat.reduceAdd]
 iterate 3 (refine oW fun dd K hK=>?_;go_simp;refine qT hK ?_;clear hK K)
 (refine oW fun dd K hK=>?_;go_simp;refine qL hK ?_;clear hK K)
 refine ogE ?_
 rw[kttc13']
 refine ogT ?_
 simp only[if_true]
 rw[kttr3']
 refine ogR ?_
 simp only[kttr3,kttBody,Try.f98,zz,Nat.reduceAdd]
 iterate 5 (refine oW fun dd K hK=>?_;go_simp;refine qT hK ?_;clear hK K)
 refine ogE ?_
 refine ogSR ktts4' kttr4' ?_
 simp only[kttr4,kttBody,Try.f98,zz,Nat.reduceAdd]
 iterate 4 (refine oW fun dd K hK=>?_;go_simp;refine qT hK ?_;clear hK K)
 refine oc callable75 #[.int .i64 to,.int .u64 ((t+1) % 2147483648)] ?_
 refine own_packed hto ht2 ?_
 rw[Frame.finish_at]
 walk_nrm
 refine oc callable110 #[.pointer (some ad),.int .u64 (pk (n,t)),.int .u64 (pk (to,(t+1) % 2147483648))] ?_
 refine own_casU hv hc hs hz hnh ?_
 rw[Frame.finish_at]
 walk_nrm
 (refine oW fun dd K hK=>?_;go_simp;refine qT hK ?_;clear hK K)
 refine ogE ?_
 refine ogX ?_
 refine own_go rfl (fun d=>stepG_leave (fn:=Try.f98) (v:=.bool eq) rfl rfl Try.func98 (by simp[results,Try.f98]) (by simp[results,Try.f98,go_sem])) ?_
 exact h
theorem own_turn0{kb:Nat}{ad:Addr}{n t to v:Int}{eq:Bool}(hv:(v == pk (n,t))=eq)(hk:w.cell? ⟨kb,3,none⟩=some (.bool false))(hn: -1≤n∧n<65536)(ht:0≤t∧t<2147483648)(hto: -1≤to∧to<65536)(hc:w.cell? ad=some (.int .u64 v))(hs:ad.spot=none)(hz:w.frozen? ad=false)(hnh:¬held F ad){c:Frame}{cs:List Frame}{main:Bool}{Stop:Goroutine→World→Prop}
 (h:Own Try.prog main F Stop (G (c.finish (.bool eq)) cs) (if eq then w.setCell ad (.int .u64 (pk (to,0)))else w)):
 Own Try.prog main F Stop (G (Frame.enter Try.prog 98 #[.pointer (some ⟨kb,0,none⟩),.pointer (some ad),.int .u64 (pk (n,t)),.int .i64 to] .normal) (c::cs)) w:=by
 have ht2:(0:Int)≤0∧0<(2147483648:Int):=by omega
 rw[enter_ktt]
 walk_nrm
 refine ogSR ktts0' kttr0' ?_
 simp only[kttr0,kttBody,Try.f98,zz,Nat.reduceAdd]
 (refine oW fun dd K hK=>?_;go_simp;refine qT hK ?_;clear hK K)
 refine ogE ?_
 refine ogSR ktts1' kttr1' ?_
 simp only[kttr1,kttBody,Try.f98,zz,Nat.reduceAdd]
 (refine oW fun dd K hK=>?_;go_simp;refine qT hK ?_;clear hK K)
 refine ogE ?_
 refine ogSE ktts2' ?_
 refine ogSR ktts3' kttr2' ?_
 simp only[kttr2,kttBody,Try.f98,zz,Nat.reduceAdd]
 iterate 3 (refine oW fun dd K hK=>?_;go_simp;refine qT hK ?_;clear hK K)
 (refine oW fun dd K hK=>?_;go_simp;refine qL hK ?_;clear hK K)
 refine ogE ?_
 rw[kttc13']
 refine ogF ?_
 simp only[Bool.false_eq_true,if_false]
 refine ogK ?_
 refine ogSR ktts4' kttr4' ?_
 simp only[kttr4,kttBody,Try.f98,zz,Nat.reduceAdd]
 iterate 4 (refine oW fun dd K hK=>?_;go_simp;refine qT hK ?_;clear hK K)
 refine oc callable75 #[.int .i64 to,.int .u64 (0)] ?_
 refine own_packed hto ht2 ?_
 rw[Frame.finish_at]
 walk_nrm
 refine oc callable110 #[.pointer (some ad),.int .u64 (pk (n,t)),.int .u64 (pk (to,0))] ?_
 refine own_casU hv hc hs hz hnh ?_
 rw[Frame.finish_at]
 walk_nrm
 (refine oW fun dd K hK=>?_;go_simp;refine qT hK ?_;clear hK K)
 refine ogE ?_
 refine ogX ?_
 refine own_go rfl (fun d=>stepG_leave (fn:=Try.f98) (v:=.bool eq) rfl rfl Try.func98 (by simp[results,Try.f98]) (by simp[results,Try.f98,go_sem])) ?_
 exact h
end
section
structure KSt where
 nx:List Int
 vl:List Int
 hd:Int×Int
 fr:Int×Int
 tg:Bool
structure KCl where
 pc:Nat
 n0:Int
 n1:Int
 n2:Int
 n3:Int
 n4:Int
 a:Int
abbrev KRs:=KCl ⊕ (Bool×Int)
def KSt.turn(s:KSt)(h:Int×Int)(node tag to:Int):Option (Int×Int):=
 if h=(node,tag)then some (to,if s.tg=true then(tag+1) % 2147483648 else 0)else none
def KSt.nxt(s:KSt)(i:Int):Int:=s.nx.getD i.toNat 0
def KSt.val(s:KSt)(i:Int):Int:=s.vl.getD i.toNat 0
def KSt.begin(s:KSt)(o:Op4):KSt×KRs:=
 if o.kd=1 then(s,.inl ⟨10,0,0,0,0,0,o.a⟩)
 else if o.kd=2 then(s,.inl ⟨20,0,0,0,0,0,0⟩)
 else if o.kd=3 then(s,.inl ⟨30,0,0,0,0,0,0⟩)
 else if o.kd=4 then(s,.inl ⟨40,0,0,0,0,0,0⟩)
 else(s,.inr (false,0))
def KSt.step(s:KSt)(c:KCl):KSt×KRs:=
 match c.pc with
 | 10=>if s.fr.1<0 then(s,.inr (false,0))else(s,.inl {c with n0:=s.fr.1,n1:=s.fr.2,pc:=11})
 | 11=>(s,.inl {c with n2:=s.nxt c.n0,pc:=12})
 | 12=>match s.turn s.fr c.n0 c.n1 c.n2 with
   | some f=>({s with fr:=f},.inl {c with n4:=c.n0,pc:=13})
   | none=>(s,.inl {c with pc:=10})
 | 13=>({s with vl:=s.vl.set c.n4.toNat c.a},.inl {c with pc:=14})
 | 14=>(s,.inl {c with n0:=s.hd.1,n1:=s.hd.2,pc:=15})
 | 15=>({s with nx:=s.nx.set c.n4.toNat c.n0},.inl {c with pc:=16})
 | 16=>match s.turn s.hd c.n0 c.n1 c.n4 with
   | some f=>({s with hd:=f},.inr (true,0))
   | none=>(s,.inl {c with pc:=14})
 | 20=>if s.hd.1<0 then(s,.inr (false,0))else(s,.inl {c with n0:=s.hd.1,n1:=s.hd.2,pc:=21})
 | 21=>(s,.inl {c with n2:=s.nxt c.n0,pc:=22})
 | 22=>match s.turn s.hd c.n0 c.n1 c.n2 with
   | some f=>({s with hd:=f},.inl {c with n4:=c.n0,pc:=23})
   | none=>(s,.inl {c with pc:=20})
 | 23=>(s,.inl {c with n3:=s.val c.n4,pc:=24})
 | 24=>(s,.inl {c with n0:=s.fr.1,n1:=s.fr.2,pc:=25})
 | 25=>({s with nx:=s.nx.set c.n4.toNat c.n0},.inl {c with pc:=26})
 | 26=>match s.turn s.fr c.n0 c.n1 c.n4 with
   | some f=>({s with fr:=f},.inr (true,c.n3))
   | none=>(s,.inl {c with pc:=24})
 | 30=>if s.hd.1<0 then(s,.inr (false,0))else(s,.inl {c with n0:=s.hd.1,n1:=s.hd.2,pc:=31})
 | 31=>(s,.inl {c with n3:=s.val c.n0,pc:=32})
 | 32=>if s.hd=(c.n0,c.n1)then(s,.inr (true,c.n3))else if s.hd.1<0 then(s,.inr (false,0))else(s,.inl {c with n0:=s.hd.1,n1:=s.hd.2,pc:=31})
 | _=>(s,.inr (decide (s.hd.1<0),0))
def KPl:Pl:=⟨KSt,KCl,Bool×Int,KSt.begin,KSt.step⟩
structure KWf(s:KSt):Prop where
 n1:s.nx.length=s.vl.length
 n2:0<s.nx.length
 n3:s.nx.length≤65536
 nx:∀v,v∈s.nx→-1≤v∧v<s.nx.length
 hd: -1≤s.hd.1∧s.hd.1<s.nx.length∧0≤s.hd.2∧s.hd.2<2147483648
 fr: -1≤s.fr.1∧s.fr.1<s.nx.length∧0≤s.fr.2∧s.fr.2<2147483648
 tg:s.tg=false→s.hd.2=0∧s.fr.2=0
theorem pk_inj{a b:Int×Int}(ha:0≤a.2∧a.2<2147483648)(hb:0≤b.2∧b.2<2147483648)(h:pk a=pk b):a=b:=by
 obtain⟨x,y⟩:=a
 obtain⟨u,v⟩:=b
 unfold pk at h
 simp only at h ha hb
 have h1:x=u:=by omega
 have h2:y=v:=by omega
 rw[h1,h2]
end
section
variable{P:Program}{main:Bool}{F:Fz}{fn:FuncId}{ops:Array Oper}{S:World→Prop}{last:Nat}{Z:Act→World→Prop}
def Callee(P:Program)(main:Bool)(F:Fz)(f:FuncId)(args:Array Value)(Post:Value→World→Prop)(w:World):Prop:=
 ∀(c:Frame) (cs:List Frame) (Stop:Goroutine→World→Prop),(∀v w',Post v w'→Own P main F Stop (G (c.finish v) cs) w')→Own P main F Stop (G (Frame.enter P f args .normal) (c::cs)) w
def OpC(P:Program)(main:Bool)(F:Fz)(fn:FuncId)(ops:Array Oper)(i:Nat)(K:Act→World→Prop)(a:Act)(w:World):Prop:=
 ∃o,ops[i]? =some o∧((Region.wanted o (yielded ops a.tmps)=true∧∀d,uponK o a (fun a' w'=>GuarE F (w.at d) w' (listed P fn a o (w.at d))∧K a' w') ((execOp a.eval o).run P (w.at d)))∨
  (Region.wanted o (yielded ops a.tmps)=false∧K (a.put o.dst undef) w)∨
  (Region.wanted o (yielded ops a.tmps)=true∧∃f args Post,(∀w,(execOp a.eval o).run P w= .ok (.enter f args) w)∧(∀w,(execOp a.eval o).events P w #[]= #[])∧Callee P main F f args Post w∧∀v w',Post v w'→K (a.put o.dst v) w'))
def AnyC(P:Program)(main:Bool)(F:Fz)(fn:FuncId)(ops:Array Oper)(S:World→Prop)(last:Nat)(Z:Act→World→Prop):Nat→Array Bool→Act→World→Prop
 | 0,listed,a,w=>((∀j∈Region.ready .any ops listed,j=last)→Z a w)∧∀j∈Region.ready .any ops listed,j=last
 | fuel+1,listed,a,w=>((∀j∈Region.ready .any ops listed,j=last)→Z a w)∧∀i∈Region.ready .any ops listed,i≠last→OpC P main F fn ops i (fun a w=>S w∧AnyC P main F fn ops S last Z fuel (listed.setIfInBounds i true) a w) a w
theorem OpC_mono{i:Nat}{a:Act}{w:World}{K K':Act→World→Prop}(h:∀a w,K a w→K' a w)(hh:OpC P main F fn ops i K a w):OpC P main F fn ops i K' a w:=by
 obtain⟨o,h1,⟨h2,h3⟩|⟨h2,h3⟩|⟨h2,f,args,Post,r1,r2,r3,r4⟩⟩:=hh
 ·exact⟨o,h1,.inl ⟨h2,fun d=>uponK_mono (fun u w ⟨x,y⟩=>⟨x,h _ _ y⟩) (h3 d)⟩⟩
 ·exact⟨o,h1,.inr (.inl ⟨h2,h _ _ h3⟩)⟩
 ·exact⟨o,h1,.inr (.inr ⟨h2,f,args,Post,r1,r2,r3,fun v w' hp=>h _ _ (r4 v w' hp)⟩)⟩
theorem OpC_at{i:Nat}{a:Act}{w:World}{K:Act→World→Prop}(hK:∀a w d,K a w→K a (World.at w d))(h:OpC P main F fn ops i K a w)(d:Nat):OpC P main F fn ops i K a (w.at d):=by
 obtain⟨o,h1,⟨h2,h3⟩|⟨h2,h3⟩|⟨h2,f,args,Post,r1,r2,r3,r4⟩⟩:=h
 ·exact⟨o,h1,.inl ⟨h2,fun d'=>by rw[at_at'];exact h3 d'⟩⟩
 ·exact⟨o,h1,.inr (.inl ⟨h2,hK _ _ _ h3⟩)⟩
 ·exact⟨o,h1,.inr (.inr ⟨h2,f,args,Post,r1,r2,fun c cs Stop k=>(r3 c cs Stop k).at d,r4⟩)⟩
theorem anyC_at(hS:∀w d,S w→S (World.at w d))(hZ:∀a w d,Z a w→Z a (World.at w d)):∀(fuel:Nat) (listed:Array Bool) (a:Act) (w:World),AnyC P main F fn ops S last Z fuel listed a w→∀d,AnyC P main F fn ops S last Z fuel listed a (w.at d):=by
 intro fuel
 induction fuel with
 | zero=>exact fun listed a w h d=>⟨fun x=>hZ _ _ _ (h.1 x),h.2⟩
 | succ fuel ih=>exact fun listed a w h d=>⟨fun x=>hZ _ _ _ (h.1 x),fun i hi hl=>OpC_at (fun a w d ⟨x,y⟩=>⟨hS _ _ x,ih _ _ _ y d⟩) (h.2 i hi hl) d⟩
theorem OpC_put{i j:Nat}{oi oj:Oper}{v:Value}(hj:ops[j]? =some oj)(hap:oi.apart ops oj=true)(hsj:∀cs b,oj.op≠.select cs b){K:Act→World→Prop}{a:Act}{w:World}
 (h:OpC P main F fn ops j K (a.put oi.dst v) w):OpC P main F fn ops j (fun a' w'=>∃u,a'=a.put oj.dst u∧K (a'.put oi.dst v) w') a w:=by
 obtain⟨h1,h2,h3⟩:=Oper.apart_spec hap
 obtain⟨o,ho,hh⟩:=h
 rw[hj]at ho
 cases ho
 have e1:execOp (a.put oi.dst v).eval oj=execOp a.eval oj:=execOp_put oj hsj a oi.dst v h1
 have e2:=wanted_put oj a oi.dst v h1
 refine⟨oj,hj,?_⟩
 unfold listed at*
 rw[e1,e2]at hh
 rcases hh with⟨hw,hh⟩|⟨hw,hh⟩|⟨hw,f,args,Post,r1,r2,r3,r4⟩
 ·refine .inl ⟨hw,fun d=>?_⟩
  have:=hh d
  cases hr:(execOp a.eval oj).run P (w.at d)with
  | halt _ _=>rw[hr]at this;exact this
  | ok x w'=>
    rw[hr]at this
    cases x with
    | value u=>exact⟨this.1,u,rfl,by rw[← Act.put_comm a v u h2];exact this.2⟩
    | skip=>exact⟨this.1,undef,rfl,by rw[← Act.put_comm a v undef h2];exact this.2⟩
    | _=>exact this
 ·exact .inr (.inl ⟨hw,undef,rfl,by rw[← Act.put_comm a v undef h2];exact hh⟩)
 ·exact .inr (.inr ⟨hw,f,args,Post,r1,r2,r3,fun u w' hp=>⟨u,rfl,by rw[← Act.put_comm a v u h2];exact r4 u w' hp⟩⟩)
theorem anyC_first(hS:∀w d,S w→S (World.at w d))(hZ:∀a w d,Z a w→Z a (World.at w d)){i:Nat}{oi:Oper}{v:Value}(hi:ops[i]? =some oi)(hil:i≠last)(hsel:∀(j:Nat) (o:Oper) cs b,ops[j]? =some o→o.op≠.select cs b):
 ∀(fuel:Nat) (listed:Array Bool) (a:Act) (w:World),S w→
  (∀j oj,ops[j]? =some oj→j≠i→listed.getD j true=false→(∀e∈oj.after,Region.binds .any e=true→e.on≠i)→oi.apart ops oj=true)→
  i∈Region.ready .any ops listed→(∀w,S w→YQ P F fn ops w oi v a)→
  AnyC P main F fn ops S last Z fuel (listed.setIfInBounds i true) (a.put oi.dst v) w→AnyC P main F fn ops S last Z (fuel+1) listed a w:=by
 have self:∀(fuel:Nat) (listed:Array Bool) (a:Act) (w:World),S w→(∀w,S w→YQ P F fn ops w oi v a)→AnyC P main F fn ops S last Z fuel (listed.setIfInBounds i true) (a.put oi.dst v) w→
  OpC P main F fn ops i (fun a w=>S w∧AnyC P main F fn ops S last Z fuel (listed.setIfInBounds i true) a w) a w:=by
  intro fuel listed a w hw hy H
  rcases hy w hw with⟨h1,h2⟩|⟨h1,rfl⟩
  ·exact⟨oi,hi,.inl ⟨h1,fun d=>by rw[(h2 d).1];exact⟨⟨⟨0,Grew.refl F _⟩,(h2 d).2⟩,hS _ _ hw,anyC_at hS hZ _ _ _ _ H d⟩⟩⟩
  ·exact⟨oi,hi,.inr (.inl ⟨h1,hw,H⟩)⟩
 intro fuel
 induction fuel with
 | zero=>
   intro listed a w hw _ hr hy H
   refine⟨fun h=>absurd (h i hr) hil,fun j hj hjl=>?_⟩
   by_cases hji:j=i
   ·subst hji;exact self _ _ _ _ hw hy H
   ·exact absurd (H.2 j (ready_mono hj hji)) hjl
 | succ fuel ih=>
   intro listed a w hw hfree hr hy H
   refine⟨fun h=>absurd (h i hr) hil,fun j hj hjl=>?_⟩
   by_cases hji:j=i
   ·subst hji;exact self _ _ _ _ hw hy H
   ·have h1:=H.2 j (ready_mono hj hji) hjl
    obtain⟨hjun,oj,hoj,hall⟩:=mem_ready.1 hj
    have hnot:∀e∈oj.after,Region.binds .any e=true→e.on≠i:=fun e he hb heq=>by
     have h1:=hall e he hb
     have h0:=(mem_ready.1 hr).1
     rw[heq]at h1
     rcases Nat.lt_or_ge i listed.size with h'|h'
     ·simp[h']at h0 h1;rw[h0]at h1;cases h1
     ·simp[Array.getElem?_eq_none h']at h1
    have hap:=hfree j oj hoj hji hjun hnot
    obtain⟨p1,p2,p3⟩:=Oper.apart_spec hap
    have h2:=OpC_put (i:=i) (oi:=oi) hoj hap (fun cs b=>hsel j oj cs b hoj) h1
    have hfree':∀k ok,ops[k]? =some ok→k≠i→(listed.setIfInBounds j true).getD k true=false→
     (∀e∈ok.after,Region.binds .any e=true→e.on≠i)→oi.apart ops ok=true:=fun k ok hk hki hun hno=>by
     refine hfree k ok hk hki ?_ hno
     by_cases hjk:j=k
     ·subst hjk;exact hjun
     ·rw[getD_set_ne true hjk]at hun;exact hun
    refine OpC_mono (fun a' w' h3=>?_) h2
    obtain⟨u,rfl,hw',h4⟩:=h3
    refine⟨hw',ih (listed.setIfInBounds j true) _ _ hw' hfree' (ready_mono hr (Ne.symm hji)) (fun w hw=>(hy w hw).of_same (execOp_put oi (fun cs b=>hsel i oi cs b hi) a oj.dst u p3) (wanted_put oi a oj.dst u p3)) ?_⟩
    rw[Array.setIfInBounds_comm _ _ hji]
    exact h4
theorem anyC_take(hS:∀w d,S w→S (World.at w d))(hZ:∀a w d,Z a w→Z a (World.at w d)){i:Nat}{oi:Oper}{v:Value}{fuel:Nat}{listed:Array Bool}{a:Act}{w:World}(hw:S w)(hi:ops[i]? =some oi)(hil:(i != last)=true)(hs:Region.noSelect ops=true)(hf:Region.free .any ops listed i=true)
 (hr:(Region.ready .any ops listed).contains i=true) (hy:∀w,S w→YQ P F fn ops w oi v a) (h:AnyC P main F fn ops S last Z fuel (listed.setIfInBounds i true) (a.put oi.dst v) w):AnyC P main F fn ops S last Z (fuel+1) listed a w:=
 anyC_first hS hZ hi (by simpa using hil) (Region.noSelect_spec hs) fuel listed a w hw (Region.free_spec hi hf) (by simpa using hr) hy h
theorem anyC_all{fuel:Nat}{listed:Array Bool}{a:Act}{w:World}{r:List Nat}(hr:Region.ready .any ops listed=r)(hl:r.any (· != last)=true)
 (h:∀i∈r,i≠last→OpC P main F fn ops i (fun a w=>S w∧AnyC P main F fn ops S last Z fuel (listed.setIfInBounds i true) a w) a w):AnyC P main F fn ops S last Z (fuel+1) listed a w:=
 ⟨fun hn=>by
  rw[hr]at hn
  obtain⟨i,hi,hil⟩:=List.any_eq_true.1 hl
  exact absurd (hn i hi) (by simpa using hil),by rw[hr];exact h⟩
theorem anyC_end{listed:Array Bool}{a:Act}{w:World}(hr:Region.ready .any ops listed=[last])(h:Z a w):∀fuel,AnyC P main F fn ops S last Z fuel listed a w
 | 0=>⟨fun _=>h,by rw[hr];simp⟩
 | _+1=>⟨fun _=>h,fun i hi hne=>absurd (by rw[hr]at hi;simpa using hi) hne⟩
theorem own_opc{Stop:Goroutine→World→Prop}{b:Frame}{a:Act}{w:World}{k:List Item}{cs:List Frame}{i:Nat}{rest:List Nat}(hk:b.kind≠.early)
 (h:OpC P main F b.fn ops i (fun a w=>Own P main F Stop (G (b.at a (.inRegion ops rest::k)) cs) w) a w):Own P main F Stop (G (b.at a (.inRegion ops (i::rest)::k)) cs) w:=by
 obtain⟨o,ho,⟨hw,hh⟩|⟨hw,hh⟩|⟨hw,f,args,Post,r1,r2,r3,r4⟩⟩:=h
 ·refine .step rfl fun d=>?_
  have:=hh d
  cases hr:(execOp a.eval o).run P (w.at d)with
  | halt _ _=>rw[hr]at this;exact this.elim
  | ok x w'=>
    rw[hr]at this
    cases x with
    | value u=>exact⟨_,_,_,stepG_value ho hw hk hr,this.1,this.2⟩
    | skip=>exact⟨_,_,_,stepG_none ho hw hk hr,this.1,this.2⟩
    | _=>exact this.elim
 ·exact .step rfl fun d=>⟨_,_,#[],stepG_unwanted ho hw,⟨⟨0,Grew.refl F _⟩,by simp⟩,hh.at d⟩
 ·refine own_call ho hw hk r1 r2 (r3 _ _ _ fun v w' hp=>?_)
  have hfin:(b.at a (.inRegion ops (i::rest)::k)).finish v=b.at (a.put o.dst v) (.inRegion ops rest::k):=by rw[Frame.finish_at,ho];rfl
  rw[hfin]
  exact r4 v w' hp
theorem anyC_sound(L:LL ops last){Stop:Goroutine→World→Prop}{b:Frame}{k:List Item}{cs:List Frame}(hk:b.kind≠.early):
 ∀(fuel t:Nat) (listed:Array Bool) (a:Act) (w:World),listed.size=ops.size→DownTo ops listed→listed.getD last true=false→
  AnyC P main F b.fn ops S last (fun a w=>Own P main F Stop (G (b.at a (.inRegion ops [last]::k)) cs) w) fuel listed a w→
  Own P main F Stop (G (b.at a (.inRegion ops (Region.linearise.go .any ops (fuel+1) t listed [])::k)) cs) w:=by
 intro fuel
 induction fuel with
 | zero=>?_
 | succ fuel ih=>?_
 all_goals
  intro t listed a w hs hc hl H
  obtain⟨i0,hi0⟩:=some_ready L hs last hl
  have hlen:0<(Region.ready .any ops listed).length:=List.length_pos_of_mem hi0
  obtain⟨i,hi⟩:∃i,(Region.ready .any ops listed)[t % (Region.ready .any ops listed).length]? =some i:=⟨_,List.getElem?_eq_getElem (Nat.mod_lt _ hlen)⟩
  have hmem:=List.mem_of_getElem? hi
  rw[Region.linearise.go]
  change Own P main F Stop (G (b.at a (.inRegion ops (match(Region.ready .any ops listed)[t % (Region.ready .any ops listed).length]? with
   | some i=>Region.linearise.go .any ops _ (t / (Region.ready .any ops listed).length) (listed.setIfInBounds i true) [i]
   | none=>[].reverse)::k)) cs) w
  rw[hi]
  simp only[]
  rw[linearise_go_acc,List.reverse_singleton,List.singleton_append]
 ·obtain rfl:=H.2 i hmem
  simp only[Region.linearise.go,List.reverse_nil]
  exact H.1 H.2
 ·by_cases hil:i=last
  ·subst hil
   have hall:=all_listed L hs hc hmem i
   have hre:∀j∈Region.ready .any ops listed,j=i:=by
    intro j hj
    obtain⟨h0,o,ho,_⟩:=mem_ready.1 hj
    have hlt:=(alt ho)
    have hsz:=L.size
    rcases Nat.lt_or_ge j i with h|h
    ·have:=hall j (by omega) h
     rw[getD_tf (by omega),this]at h0;cases h0
    ·omega
   have hnil:Region.ready .any ops (listed.setIfInBounds i true)=[]:=by
    apply List.eq_nil_iff_forall_not_mem.2
    intro j hj
    obtain⟨h0,o,ho,_⟩:=mem_ready.1 hj
    have hlt:=(alt ho)
    have hsz:=L.size
    by_cases e:i=j
    ·subst e
     rw[getD_tf (by simp;omega)]at h0
     have:i<listed.size:=by omega
     simp[this]at h0
    ·rw[getD_set_ne true e,getD_tf (by omega),hall j (by omega) (by omega)]at h0;cases h0
   have:Region.linearise.go .any ops (fuel+1) (t / (Region.ready .any ops listed).length) (listed.setIfInBounds i true) []=[]:=by
    rw[Region.linearise.go]
    change(match(Region.ready .any ops (listed.setIfInBounds i true))[(t / (Region.ready .any ops listed).length) % (Region.ready .any ops (listed.setIfInBounds i true)).length]? with
     | some i=>_
     | none=>[].reverse)=[]
    rw[hnil];rfl
   rw[this]
   exact H.1 hre
  ·refine own_opc hk (OpC_mono (fun a' w' ⟨_,hK⟩=>ih _ _ _ _ (by simpa using hs) (fun j o' hj hlj e he hb=>?_) (by rw[getD_set_ne true hil];exact hl) hK) (H.2 i hmem hil))
   by_cases e2:i=j
   ·subst e2
    obtain⟨_,o2,ho2,hd⟩:=mem_ready.1 hmem
    rw[hj]at ho2
    cases ho2
    exact getD_set_true (hd e he hb)
   ·rw[getD_set_ne false e2]at hlj
    exact getD_set_true (hc j o' hj hlj e he hb)
theorem own_drawnC(S:World→Prop)(hm:P.follows .mixedOrders=true)(L:LL ops last){id:Nat}{Stop:Goroutine→World→Prop}{b:Frame}{a:Act}{w:World}{k:List Item}{cs:List Frame}(hk:b.kind≠.early)
 (h:AnyC P main F b.fn ops S last (fun a w=>Own P main F Stop (G (b.at a (.inRegion ops [last]::k)) cs) w) last (Array.replicate ops.size false) a w):
 Own P main F Stop (G (b.at a (.code (.region id ops true)::k)) cs) w:=by
 refine .step rfl fun d=>⟨_,_,_,stepG_region_draw,⟨⟨1,?_⟩,by simp⟩,?_⟩
 ·exact⟨rfl,rfl,rfl,rfl,Nat.le_refl _,fun _ _ h=>.inr h,fun _ _=>rfl⟩
 ·have hs:=L.size
  have:=anyC_sound (S:=S) (cs:=cs) (k:=k) L hk last ((w.at d).tape (w.at d).drawn (.order b.fn id)) (Array.replicate ops.size false) a w (by simp) (fun j o _ hl=>by
   simp at hl
   rcases Nat.lt_or_ge j ops.size with h1|h1<;>simp[h1]at hl) (by simp[hs]) h
  rw[← hs]at this
  simp only[Region.schedule,hm,Bool.true_or,if_true]
  exact this.at (d+1)
end
noncomputable section
variable{F:Fz}{w:World}
structure KH(kb nb m:Nat)(w:World):Prop where
 c2:w.cell? ⟨kb,2,none⟩=some (.slice (some ⟨nb,0,none⟩) m m)
theorem KH.at{kb nb m:Nat}{w:World}(h:KH kb nb m w)(d:Nat):KH kb nb m (w.at d):=⟨h.c2⟩
def tagOf(tg:Bool)(t:Int):Int:=if tg=true then(t+1) % 2147483648 else 0
theorem own_turn{tg:Bool}{kb:Nat}{ad:Addr}{n t to v:Int}{eq:Bool}(hv:(v == pk (n,t))=eq)(hk:w.cell? ⟨kb,3,none⟩=some (.bool tg))(hn: -1≤n∧n<65536)(ht:0≤t∧t<2147483648)(hto: -1≤to∧to<65536)(hc:w.cell? ad=some (.int .u64 v))(hs:ad.spot=none)(hz:w.frozen? ad=false)(hnh:¬held F ad){c:Frame}{cs:List Frame}{main:Bool}{Stop:Goroutine→World→Prop}
 (h:Own Try.prog main F Stop (G (c.finish (.bool eq)) cs) (if eq then w.setCell ad (.int .u64 (pk (to,tagOf tg t)))else w)):
 Own Try.prog main F Stop (G (Frame.enter Try.prog 98 #[.pointer (some ⟨kb,0,none⟩),.pointer (some ad),.int .u64 (pk (n,t)),.int .i64 to] .normal) (c::cs)) w:=by
 cases tg with
 | true=>exact own_turn1 hv hk hn ht hto hc hs hz hnh h
 | false=>exact own_turn0 hv hk hn ht hto hc hs hz hnh h
def ktkBody:Code:=Try.f78.body.getD .skip
def ktks0:=pC [] ktkBody
def ktkr0:=pC [zt] ktkBody
def ktkb0:=pC [zf] ktkBody
def ktkl1:=pC [zf,zt] ktkBody
def ktkb1:=pC [zf,zt,zt] ktkBody
def ktks2:=pC [zf,zt,zt,zt] ktkBody
def ktkr1:=pC [zf,zt,zt,zt,zt] ktkBody
def ktks3:=pC [zf,zt,zt,zt,zf] ktkBody
def ktkr2:=pC [zf,zt,zt,zt,zf,zt] ktkBody
def ktks4:=pC [zf,zt,zt,zt,zf,zf] ktkBody
def ktkr3:=pC [zf,zt,zt,zt,zf,zf,zt] ktkBody
def ktks5:=pC [zf,zt,zt,zt,zf,zf,zf] ktkBody
def ktks6:=pC [zf,zt,zt,zt,zf,zf,zf,zt] ktkBody
def ktkr4:=pC [zf,zt,zt,zt,zf,zf,zf,zt,zt] ktkBody
def ktkc18:=pC [zf,zt,zt,zt,zf,zf,zf,zt,zf] ktkBody
def ktks7:=pC [zf,zt,zt,zt,zf,zf,zf,zt,zf,zt] ktkBody
def ktkr5:=pC [zf,zt,zt,zt,zf,zf,zf,zt,zf,zt,zt] ktkBody
def ktks8:=pC [zf,zt,zt,zt,zf,zf,zf,zf] ktkBody
def ktkr6:=pC [zf,zt,zt,zt,zf,zf,zf,zf,zt] ktkBody
def ktks9:=pC [zf,zt,zt,zt,zf,zf,zf,zf,zf] ktkBody
def ktkr7:=pC [zf,zt,zt,zt,zf,zf,zf,zf,zf,zt] ktkBody
def ktks10:=pC [zf,zt,zt,zt,zf,zf,zf,zf,zf,zf] ktkBody
def ktkr8:=pC [zf,zt,zt,zt,zf,zf,zf,zf,zf,zf,zt] ktkBody
def ktks11:=pC [zf,zt,zt,zt,zf,zf,zf,zf,zf,zf,zf] ktkBody
def ktkr9:=pC [zf,zt,zt,zt,zf,zf,zf,zf,zf,zf,zf,zt] ktkBody
def ktkc35:=pC [zf,zt,zt,zt,zf,zf,zf,zf,zf,zf,zf,zf] ktkBody
def ktks12:=pC [zf,zt,zt,zt,zf,zf,zf,zf,zf,zf,zf,zf,zt] ktkBody
def ktkr10:=pC [zf,zt,zt,zt,zf,zf,zf,zf,zf,zf,zf,zf,zt,zt] ktkBody
theorem ktks0':ktks0= .seq ktkr0 ktkb0:=by kernel_rfl
theorem ktkr0':ktkr0= .region 0 (oC ktkr0) false:=by kernel_rfl
theorem ktkb0':ktkb0= .block 0 ktkl1:=by kernel_rfl
theorem ktkl1':ktkl1= .loop ktkb1:=by kernel_rfl
theorem ktkb1':ktkb1= .block 1 ktks2:=by kernel_rfl
theorem ktks2':ktks2= .seq ktkr1 ktks3:=by kernel_rfl
theorem ktkr1':ktkr1= .region 1 (oC ktkr1) false:=by kernel_rfl
theorem ktks3':ktks3= .seq ktkr2 ktks4:=by kernel_rfl
theorem ktkr2':ktkr2= .region 2 (oC ktkr2) false:=by kernel_rfl
theorem ktks4':ktks4= .seq ktkr3 ktks5:=by kernel_rfl
theorem ktkr3':ktkr3= .region 3 (oC ktkr3) false:=by kernel_rfl
theorem ktks5':ktks5= .seq ktks6 ktks8:=by kernel_rfl
theorem ktks6':ktks6= .seq ktkr4 ktkc18:=by kernel_rfl
theorem ktkr4':ktkr4= .region 4 (oC ktkr4) false:=by kernel_rfl
theorem ktkc18':ktkc18= .cond (.tmp 18) ktks7 .skip:=by kernel_rfl
theorem ktks7':ktks7= .seq ktkr5 .ret:=by kernel_rfl
theorem ktkr5':ktkr5= .region 5 (oC ktkr5) false:=by kernel_rfl
theorem ktks8':ktks8= .seq ktkr6 ktks9:=by kernel_rfl
theorem ktkr6':ktkr6= .region 6 (oC ktkr6) false:=by kernel_rfl
theorem ktks9':ktks9= .seq ktkr7 ktks10:=by kernel_rfl
theorem ktkr7':ktkr7= .region 7 (oC ktkr7) false:=by kernel_rfl
theorem ktks10':ktks10= .seq ktkr8 ktks11:=by kernel_rfl
theorem ktkr8':ktkr8= .region 8 (oC ktkr8) false:=by kernel_rfl
theorem ktks11':ktks11= .seq ktkr9 ktkc35:=by kernel_rfl
theorem ktkr9':ktkr9= .region 9 (oC ktkr9) false:=by kernel_rfl
theorem ktkc35':ktkc35= .cond (.tmp 35) ktks12 .skip:=by kernel_rfl
theorem ktks12':ktks12= .seq ktkr10 .ret:=by kernel_rfl
theorem ktkr10':ktkr10= .region 10 (oC ktkr10) false:=by kernel_rfl
theorem enter_ktk(args:Array Value):Frame.enter Try.prog 78 args .normal=(Go.Conc.base 78).at {tmps:=args++Array.replicate (37 - args.size) undef,defers:=[]} [.code ktks0]:=enter_at args Try.func78 rfl
theorem callable78:Callable 78:=callable Try.func78 rfl rfl
def ktkT(s:Nat→Value):Array Value:= #[s 0,s 1,s 2,s 3,s 4,s 5,s 6,s 7,s 8,s 9,s 10,s 11,s 12,s 13,s 14,s 15,s 16,s 17,s 18,s 19,s 20,s 21,s 22,s 23,s 24,s 25,s 26,s 27,s 28,s 29,s 30,s 31,s 32,s 33,s 34,s 35,s 36]
theorem ktkT_of{A:Array Value}(h:A.size=37):∃s,A=ktkT s:=by
 obtain⟨s,hs,_⟩:=arr_lit A h
 exact⟨s,hs⟩
theorem tk_0{sv:Value}{kb hx:Nat}{cs:List Frame}{main:Bool}{Stop:Goroutine→World→Prop}
 (h:∀A,Slots 37 A [(0,.pointer (some ⟨kb,0,none⟩)),(1,sv),(2,.pointer (some ⟨kb,hx,none⟩))]→Own Try.prog main F Stop (G (Frame.enter Try.prog 79 #[sv] .normal) (((Go.Conc.base 78).at ⟨A,[]⟩ [.inRegion (oC ktkr1) [1],.code ktks3,.inBlock 1,.inLoop ktkb1,.inBlock 0])::cs)) w):
 Own Try.prog main F Stop (G (Frame.enter Try.prog 78 #[.pointer (some ⟨kb,0,none⟩),sv,.pointer (some ⟨kb,hx,none⟩)] .normal) cs) w:=by
 rw[enter_ktk]
 walk_nrm
 refine ogSR ktks0' ktkr0' ?_
 simp only[ktkr0,ktkBody,Try.f78,zz,Nat.reduceAdd]
 iterate 2 (refine oW fun dd K hK=>?_;go_simp;refine qT hK ?_;clear hK K)
 refine ogE ?_
 rw[ktkb0']
 refine ogB ?_
 rw[ktkl1']
 refine ogP ?_
 rw[ktkb1']
 refine ogB ?_
 refine ogSR ktks2' ktkr1' ?_
 simp only[ktkr1,ktkBody,Try.f78,zz,Nat.reduceAdd]
 (refine oW fun dd K hK=>?_;go_simp;refine qT hK ?_;clear hK K)
 refine oc callable79 #[sv] ?_
 refine h _ ?_
 exact⟨rfl,rfl,rfl,rfl,trivial⟩
theorem tk_1a{sv:Value}{kb hx:Nat}{n t:Int}(hn: -1≤n∧n<65536)(ht:0≤t∧t<2147483648)(hneg:n<0)(hc:w.cell? ⟨kb,hx,none⟩=some (.int .u64 (pk (n,t)))){A:Array Value}(hA:Slots 37 A [(0,.pointer (some ⟨kb,0,none⟩)),(1,sv),(2,.pointer (some ⟨kb,hx,none⟩))]){c:Frame}{cs:List Frame}{main:Bool}{Stop:Goroutine→World→Prop}
 (h:Own Try.prog main F Stop (G (c.finish (.tuple #[.int .i64 0,.bool false])) cs) w):
 Own Try.prog main F Stop (G (((Go.Conc.base 78).at ⟨A,[]⟩ [.inRegion (oC ktkr1) [1],.code ktks3,.inBlock 1,.inLoop ktkb1,.inBlock 0]).finish (.tuple #[])) (c::cs)) w:=by
 obtain⟨hsz,h0,h1,h2,_⟩:=hA
 obtain⟨s,rfl⟩:=ktkT_of hsz
 change s 0=_ at h0
 change s 1=_ at h1
 change s 2=_ at h2
 clear hsz
 simp only[ktkT,h0,h1,h2]
 clear h0 h1 h2
 rw[Frame.finish_at]
 simp only[ktkr1,ktkBody,Try.f78,zz,Nat.reduceAdd]
 walk_nrm
 refine ogE ?_
 refine ogSR ktks3' ktkr2' ?_
 simp only[ktkr2,ktkBody,Try.f78,zz,Nat.reduceAdd]
 (refine oW fun dd K hK=>?_;go_simp;refine qT hK ?_;clear hK K)
 refine oc callable76 #[.pointer (some ⟨kb,hx,none⟩)] ?_
 refine own_ldU hc rfl ?_
 rw[Frame.finish_at]
 walk_nrm
 (refine oW fun dd K hK=>?_;go_simp;refine qT hK ?_;clear hK K)
 refine ogE ?_
 refine ogSR ktks4' ktkr3' ?_
 simp only[ktkr3,ktkBody,Try.f78,zz,Nat.reduceAdd]
 (refine oW fun dd K hK=>?_;go_simp;refine qT hK ?_;clear hK K)
 refine oc callable77 #[.int .u64 (pk (n,t))] ?_
 refine own_of hn ht ?_
 rw[Frame.finish_at]
 walk_nrm
 (refine oW fun dd K hK=>?_;go_simp;refine qT hK ?_;clear hK K)
 refine ogE ?_
 refine ogSE ktks5' ?_
 refine ogSR ktks6' ktkr4' ?_
 simp only[ktkr4,ktkBody,Try.f78,zz,Nat.reduceAdd]
 iterate 2 (refine oW fun dd K hK=>?_;go_simp;refine qT hK ?_;clear hK K)
 refine ogE ?_
 rw[ktkc18']
 refine ogT ?_
 simp only[if_true]
 refine ogSR ktks7' ktkr5' ?_
 simp only[ktkr5,ktkBody,Try.f78,zz,Nat.reduceAdd]
 iterate 2 (refine oW fun dd K hK=>?_;go_simp;refine qT hK ?_;clear hK K)
 refine ogE ?_
 refine ogX ?_
 refine own_go rfl (fun d=>stepG_leave (fn:=Try.f78) (v:=.tuple #[.int .i64 0,.bool false]) rfl rfl Try.func78 (by simp[results,Try.f78]) (by simp[results,Try.f78,go_sem])) ?_
 exact h
theorem tk_1b{sv:Value}{kb hx:Nat}{n t:Int}(hn: -1≤n∧n<65536)(ht:0≤t∧t<2147483648)(hneg:¬n<0)(hc:w.cell? ⟨kb,hx,none⟩=some (.int .u64 (pk (n,t)))){A:Array Value}(hA:Slots 37 A [(0,.pointer (some ⟨kb,0,none⟩)),(1,sv),(2,.pointer (some ⟨kb,hx,none⟩))]){cs:List Frame}{main:Bool}{Stop:Goroutine→World→Prop}
 (h:∀A,Slots 37 A [(0,.pointer (some ⟨kb,0,none⟩)),(1,sv),(2,.pointer (some ⟨kb,hx,none⟩)),(8,.int .u64 (pk (n,t))),(9,.int .i64 n)]→Own Try.prog main F Stop (G (Frame.enter Try.prog 79 #[sv] .normal) (((Go.Conc.base 78).at ⟨A,[]⟩ [.inRegion (oC ktkr6) [1],.code ktks9,.inBlock 1,.inLoop ktkb1,.inBlock 0])::cs)) w):
 Own Try.prog main F Stop (G (((Go.Conc.base 78).at ⟨A,[]⟩ [.inRegion (oC ktkr1) [1],.code ktks3,.inBlock 1,.inLoop ktkb1,.inBlock 0]).finish (.tuple #[])) (cs)) w:=by
 obtain⟨hsz,h0,h1,h2,_⟩:=hA
 obtain⟨s,rfl⟩:=ktkT_of hsz
 change s 0=_ at h0
 change s 1=_ at h1
 change s 2=_ at h2
 clear hsz
 simp only[ktkT,h0,h1,h2]
 clear h0 h1 h2
 rw[Frame.finish_at]
 simp only[ktkr1,ktkBody,Try.f78,zz,Nat.reduceAdd]
 walk_nrm
 refine ogE ?_
 refine ogSR ktks3' ktkr2' ?_
 simp only[ktkr2,ktkBody,Try.f78,zz,Nat.reduceAdd]
 (refine oW fun dd K hK=>?_;go_simp;refine qT hK ?_;clear hK K)
 refine oc callable76 #[.pointer (some ⟨kb,hx,none⟩)] ?_
 refine own_ldU hc rfl ?_
 rw[Frame.finish_at]
 walk_nrm
 (refine oW fun dd K hK=>?_;go_simp;refine qT hK ?_;clear hK K)
 refine ogE ?_
 refine ogSR ktks4' ktkr3' ?_
 simp only[ktkr3,ktkBody,Try.f78,zz,Nat.reduceAdd]
 (refine oW fun dd K hK=>?_;go_simp;refine qT hK ?_;clear hK K)
 refine oc callable77 #[.int .u64 (pk (n,t))] ?_
 refine own_of hn ht ?_
 rw[Frame.finish_at]
 walk_nrm
 (refine oW fun dd K hK=>?_;go_simp;refine qT hK ?_;clear hK K)
 refine ogE ?_
 refine ogSE ktks5' ?_
 refine ogSR ktks6' ktkr4' ?_
 simp only[ktkr4,ktkBody,Try.f78,zz,Nat.reduceAdd]
 iterate 2 (refine oW fun dd K hK=>?_;go_simp;refine qT hK ?_;clear hK K)
 refine ogE ?_
 rw[ktkc18']
 refine ogF ?_
 simp only[Bool.false_eq_true,if_false]
 refine ogK ?_
 refine ogSR ktks8' ktkr6' ?_
 simp only[ktkr6,ktkBody,Try.f78,zz,Nat.reduceAdd]
 (refine oW fun dd K hK=>?_;go_simp;refine qT hK ?_;clear hK K)
 refine oc callable79 #[sv] ?_
 refine h _ ?_
 exact⟨rfl,rfl,rfl,rfl,rfl,rfl,trivial⟩
theorem tk_2{sv:Value}{kb hx:Nat}{nb m i:Nat}{t to:Int}(hi:i<m)(hs:KH kb nb m w)(hc:w.cell? ⟨nb,i*2,none⟩=some (.int .i64 to)){A:Array Value}(hA:Slots 37 A [(0,.pointer (some ⟨kb,0,none⟩)),(1,sv),(2,.pointer (some ⟨kb,hx,none⟩)),(8,.int .u64 (pk ((i:Nat),t))),(9,.int .i64 (i:Nat))]){cs:List Frame}{main:Bool}{Stop:Goroutine→World→Prop}
 (h:∀A,Slots 37 A [(0,.pointer (some ⟨kb,0,none⟩)),(1,sv),(2,.pointer (some ⟨kb,hx,none⟩)),(8,.int .u64 (pk ((i:Nat),t))),(9,.int .i64 (i:Nat)),(10,.int .i64 to)]→Own Try.prog main F Stop (G (Frame.enter Try.prog 79 #[sv] .normal) (((Go.Conc.base 78).at ⟨A,[]⟩ [.inRegion (oC ktkr8) [1],.code ktks11,.inBlock 1,.inLoop ktkb1,.inBlock 0])::cs)) w):
 Own Try.prog main F Stop (G (((Go.Conc.base 78).at ⟨A,[]⟩ [.inRegion (oC ktkr6) [1],.code ktks9,.inBlock 1,.inLoop ktkb1,.inBlock 0]).finish (.tuple #[])) (cs)) w:=by
 obtain⟨hsz,h0,h1,h2,h8,h9,_⟩:=hA
 obtain⟨s,rfl⟩:=ktkT_of hsz
 change s 0=_ at h0
 change s 1=_ at h1
 change s 2=_ at h2
 change s 8=_ at h8
 change s 9=_ at h9
 clear hsz
 simp only[ktkT,h0,h1,h2,h8,h9]
 clear h0 h1 h2 h8 h9
 have c2:=hs.c2
 rw[Frame.finish_at]
 simp only[ktkr6,ktkBody,Try.f78,zz,Nat.reduceAdd]
 walk_nrm
 refine ogE ?_
 refine ogSR ktks9' ktkr7' ?_
 simp only[ktkr7,ktkBody,Try.f78,zz,Nat.reduceAdd]
 iterate 3 (refine oW fun dd K hK=>?_;go_simp;refine qT hK ?_;clear hK K)
 (refine oW fun dd K hK=>?_;go_simp;refine qL hK ?_;clear hK K)
 (refine oW fun dd K hK=>?_;go_simp;refine qT hK ?_;clear hK K)
 (refine oW fun dd K hK=>?_;go_simp;refine qX hK ?_;clear hK K)
 (refine oW fun dd K hK=>?_;go_simp;refine qT hK ?_;clear hK K)
 refine oc callable54 #[.pointer (some ⟨nb,i*2,none⟩)] ?_
 refine own_ldI hc rfl ?_
 rw[Frame.finish_at]
 walk_nrm
 (refine oW fun dd K hK=>?_;go_simp;refine qT hK ?_;clear hK K)
 refine ogE ?_
 refine ogSR ktks10' ktkr8' ?_
 simp only[ktkr8,ktkBody,Try.f78,zz,Nat.reduceAdd]
 (refine oW fun dd K hK=>?_;go_simp;refine qT hK ?_;clear hK K)
 refine oc callable79 #[sv] ?_
 refine h _ ?_
 exact⟨rfl,rfl,rfl,rfl,rfl,rfl,rfl,trivial⟩
theorem tk_3a{sv:Value}{kb hx:Nat}{tg:Bool}{n t to cv:Int}(hv:(cv == pk (n,t))=true)(hk:w.cell? ⟨kb,3,none⟩=some (.bool tg))(hn: -1≤n∧n<65536)(ht:0≤t∧t<2147483648)(hto: -1≤to∧to<65536)(hc:w.cell? ⟨kb,hx,none⟩=some (.int .u64 cv))(hz:w.frozen? ⟨kb,hx,none⟩=false)(hnh:¬held F ⟨kb,hx,none⟩){A:Array Value}(hA:Slots 37 A [(0,.pointer (some ⟨kb,0,none⟩)),(1,sv),(2,.pointer (some ⟨kb,hx,none⟩)),(8,.int .u64 (pk (n,t))),(9,.int .i64 n),(10,.int .i64 to)]){c:Frame}{cs:List Frame}{main:Bool}{Stop:Goroutine→World→Prop}
 (h:Own Try.prog main F Stop (G (c.finish (.tuple #[.int .i64 n,.bool true])) cs) (w.setCell ⟨kb,hx,none⟩ (.int .u64 (pk (to,tagOf tg t))))):
 Own Try.prog main F Stop (G (((Go.Conc.base 78).at ⟨A,[]⟩ [.inRegion (oC ktkr8) [1],.code ktks11,.inBlock 1,.inLoop ktkb1,.inBlock 0]).finish (.tuple #[])) (c::cs)) w:=by
 obtain⟨hsz,h0,h1,h2,h8,h9,h10,_⟩:=hA
 obtain⟨s,rfl⟩:=ktkT_of hsz
 change s 0=_ at h0
 change s 1=_ at h1
 change s 2=_ at h2
 change s 8=_ at h8
 change s 9=_ at h9
 change s 10=_ at h10
 clear hsz
 simp only[ktkT,h0,h1,h2,h8,h9,h10]
 clear h0 h1 h2 h8 h9 h10
 rw[Frame.finish_at]
 simp only[ktkr8,ktkBody,Try.f78,zz,Nat.reduceAdd]
 walk_nrm
 refine ogE ?_
 refine ogSR ktks11' ktkr9' ?_
 simp only[ktkr9,ktkBody,Try.f78,zz,Nat.reduceAdd]
 iterate 4 (refine oW fun dd K hK=>?_;go_simp;refine qT hK ?_;clear hK K)
 refine oc callable98 #[.pointer (some ⟨kb,0,none⟩),.pointer (some ⟨kb,hx,none⟩),.int .u64 (pk (n,t)),.int .i64 to] ?_
 refine own_turn (eq:=true) hv hk hn ht hto hc rfl hz hnh ?_
 rw[Frame.finish_at]
 walk_nrm
 simp only[if_true]
 refine ogE ?_
 rw[ktkc35']
 refine ogT ?_
 simp only[if_true]
 refine ogSR ktks12' ktkr10' ?_
 simp only[ktkr10,ktkBody,Try.f78,zz,Nat.reduceAdd]
 iterate 3 (refine oW fun dd K hK=>?_;go_simp;refine qT hK ?_;clear hK K)
 refine ogE ?_
 refine ogX ?_
 refine own_go rfl (fun d=>stepG_leave (fn:=Try.f78) (v:=.tuple #[.int .i64 n,.bool true]) rfl rfl Try.func78 (by simp[results,Try.f78]) (by simp[results,Try.f78,go_sem])) ?_
 exact h
theorem tk_3b{sv:Value}{kb hx:Nat}{tg:Bool}{n t to cv:Int}(hv:(cv == pk (n,t))=false)(hk:w.cell? ⟨kb,3,none⟩=some (.bool tg))(hn: -1≤n∧n<65536)(ht:0≤t∧t<2147483648)(hto: -1≤to∧to<65536)(hc:w.cell? ⟨kb,hx,none⟩=some (.int .u64 cv))(hz:w.frozen? ⟨kb,hx,none⟩=false)(hnh:¬held F ⟨kb,hx,none⟩){A:Array Value}(hA:Slots 37 A [(0,.pointer (some ⟨kb,0,none⟩)),(1,sv),(2,.pointer (some ⟨kb,hx,none⟩)),(8,.int .u64 (pk (n,t))),(9,.int .i64 n),(10,.int .i64 to)]){cs:List Frame}{main:Bool}{Stop:Goroutine→World→Prop}
 (h:∀A,Slots 37 A [(0,.pointer (some ⟨kb,0,none⟩)),(1,sv),(2,.pointer (some ⟨kb,hx,none⟩))]→Own Try.prog main F Stop (G (Frame.enter Try.prog 79 #[sv] .normal) (((Go.Conc.base 78).at ⟨A,[]⟩ [.inRegion (oC ktkr1) [1],.code ktks3,.inBlock 1,.inLoop ktkb1,.inBlock 0])::cs)) w):
 Own Try.prog main F Stop (G (((Go.Conc.base 78).at ⟨A,[]⟩ [.inRegion (oC ktkr8) [1],.code ktks11,.inBlock 1,.inLoop ktkb1,.inBlock 0]).finish (.tuple #[])) (cs)) w:=by
 obtain⟨hsz,h0,h1,h2,h8,h9,h10,_⟩:=hA
 obtain⟨s,rfl⟩:=ktkT_of hsz
 change s 0=_ at h0
 change s 1=_ at h1
 change s 2=_ at h2
 change s 8=_ at h8
 change s 9=_ at h9
 change s 10=_ at h10
 clear hsz
 simp only[ktkT,h0,h1,h2,h8,h9,h10]
 clear h0 h1 h2 h8 h9 h10
 rw[Frame.finish_at]
 simp only[ktkr8,ktkBody,Try.f78,zz,Nat.reduceAdd]
 walk_nrm
 refine ogE ?_
 refine ogSR ktks11' ktkr9' ?_
 simp only[ktkr9,ktkBody,Try.f78,zz,Nat.reduceAdd]
 iterate 4 (refine oW fun dd K hK=>?_;go_simp;refine qT hK ?_;clear hK K)
 refine oc callable98 #[.pointer (some ⟨kb,0,none⟩),.pointer (some ⟨kb,hx,none⟩),.int .u64 (pk (n,t)),.int .i64 to] ?_
 refine own_turn (eq:=false) hv hk hn ht hto hc rfl hz hnh ?_
 rw[Frame.finish_at]
 walk_nrm
 simp only[Bool.false_eq_true,if_false]
 refine ogE ?_
 rw[ktkc35']
 refine ogF ?_
 simp only[Bool.false_eq_true,if_false]
 refine ogK ?_
 refine ogI ?_
 refine ogL ?_
 rw[ktkb1']
 refine ogB ?_
 refine ogSR ktks2' ktkr1' ?_
 simp only[ktkr1,ktkBody,Try.f78,zz,Nat.reduceAdd]
 (refine oW fun dd K hK=>?_;go_simp;refine qT hK ?_;clear hK K)
 refine oc callable79 #[sv] ?_
 refine h _ ?_
 exact⟨rfl,rfl,rfl,rfl,trivial⟩
def kgvBody:Code:=Try.f80.body.getD .skip
def kgvb0:=pC [] kgvBody
def kgvl0:=pC [zt] kgvBody
def kgvb1:=pC [zt,zt] kgvBody
def kgvs1:=pC [zt,zt,zt] kgvBody
def kgvr0:=pC [zt,zt,zt,zt] kgvBody
def kgvs2:=pC [zt,zt,zt,zf] kgvBody
def kgvr1:=pC [zt,zt,zt,zf,zt] kgvBody
def kgvs3:=pC [zt,zt,zt,zf,zf] kgvBody
def kgvr2:=pC [zt,zt,zt,zf,zf,zt] kgvBody
def kgvs4:=pC [zt,zt,zt,zf,zf,zf] kgvBody
def kgvr3:=pC [zt,zt,zt,zf,zf,zf,zt] kgvBody
def kgvs5:=pC [zt,zt,zt,zf,zf,zf,zf] kgvBody
def kgvr4:=pC [zt,zt,zt,zf,zf,zf,zf,zt] kgvBody
def kgvs6:=pC [zt,zt,zt,zf,zf,zf,zf,zf] kgvBody
def kgvr5:=pC [zt,zt,zt,zf,zf,zf,zf,zf,zt] kgvBody
def kgvc31:=pC [zt,zt,zt,zf,zf,zf,zf,zf,zf] kgvBody
theorem kgvb0':kgvb0= .block 0 kgvl0:=by kernel_rfl
theorem kgvl0':kgvl0= .loop kgvb1:=by kernel_rfl
theorem kgvb1':kgvb1= .block 1 kgvs1:=by kernel_rfl
theorem kgvs1':kgvs1= .seq kgvr0 kgvs2:=by kernel_rfl
theorem kgvr0':kgvr0= .region 0 (oC kgvr0) false:=by kernel_rfl
theorem kgvs2':kgvs2= .seq kgvr1 kgvs3:=by kernel_rfl
theorem kgvr1':kgvr1= .region 1 (oC kgvr1) false:=by kernel_rfl
theorem kgvs3':kgvs3= .seq kgvr2 kgvs4:=by kernel_rfl
theorem kgvr2':kgvr2= .region 2 (oC kgvr2) false:=by kernel_rfl
theorem kgvs4':kgvs4= .seq kgvr3 kgvs5:=by kernel_rfl
theorem kgvr3':kgvr3= .region 3 (oC kgvr3) true:=by kernel_rfl
theorem kgvs5':kgvs5= .seq kgvr4 kgvs6:=by kernel_rfl
theorem kgvr4':kgvr4= .region 4 (oC kgvr4) false:=by kernel_rfl
theorem kgvs6':kgvs6= .seq kgvr5 kgvc31:=by kernel_rfl
theorem kgvr5':kgvr5= .region 5 (oC kgvr5) false:=by kernel_rfl
theorem kgvc31':kgvc31= .cond (.tmp 31) .ret .skip:=by kernel_rfl
theorem enter_kgv(args:Array Value):Frame.enter Try.prog 80 args .normal=(Go.Conc.base 80).at {tmps:=args++Array.replicate (32 - args.size) undef,defers:=[]} [.code kgvb0]:=enter_at args Try.func80 rfl
theorem callable80:Callable 80:=callable Try.func80 rfl rfl
def kgvT(s:Nat→Value):Array Value:= #[s 0,s 1,s 2,s 3,s 4,s 5,s 6,s 7,s 8,s 9,s 10,s 11,s 12,s 13,s 14,s 15,s 16,s 17,s 18,s 19,s 20,s 21,s 22,s 23,s 24,s 25,s 26,s 27,s 28,s 29,s 30,s 31]
theorem kgvT_of{A:Array Value}(h:A.size=32):∃s,A=kgvT s:=by
 obtain⟨s,hs,_⟩:=arr_lit A h
 exact⟨s,hs⟩
theorem gv_0{sv:Value}{kb hx:Nat}{i:Nat}{cs:List Frame}{main:Bool}{Stop:Goroutine→World→Prop}
 (h:∀A,Slots 32 A [(0,.pointer (some ⟨kb,0,none⟩)),(1,sv),(2,.pointer (some ⟨kb,hx,none⟩)),(3,.int .i64 (i:Nat))]→Own Try.prog main F Stop (G (Frame.enter Try.prog 79 #[sv] .normal) (((Go.Conc.base 80).at ⟨A,[]⟩ [.inRegion (oC kgvr0) [1],.code kgvs2,.inBlock 1,.inLoop kgvb1,.inBlock 0])::cs)) w):
 Own Try.prog main F Stop (G (Frame.enter Try.prog 80 #[.pointer (some ⟨kb,0,none⟩),sv,.pointer (some ⟨kb,hx,none⟩),.int .i64 (i:Nat)] .normal) cs) w:=by
 rw[enter_kgv]
 walk_nrm
 rw[kgvb0']
 refine ogB ?_
 rw[kgvl0']
 refine ogP ?_
 rw[kgvb1']
 refine ogB ?_
 refine ogSR kgvs1' kgvr0' ?_
 simp only[kgvr0,kgvBody,Try.f80,zz,Nat.reduceAdd]
 (refine oW fun dd K hK=>?_;go_simp;refine qT hK ?_;clear hK K)
 refine oc callable79 #[sv] ?_
 refine h _ ?_
 exact⟨rfl,rfl,rfl,rfl,rfl,trivial⟩
theorem gv_1{sv:Value}{kb hx:Nat}{i:Nat}{n t:Int}(hc:w.cell? ⟨kb,hx,none⟩=some (.int .u64 (pk (n,t)))){A:Array Value}(hA:Slots 32 A [(0,.pointer (some ⟨kb,0,none⟩)),(1,sv),(2,.pointer (some ⟨kb,hx,none⟩)),(3,.int .i64 (i:Nat))]){cs:List Frame}{main:Bool}{Stop:Goroutine→World→Prop}
 (h:∀A,Slots 32 A [(0,.pointer (some ⟨kb,0,none⟩)),(1,sv),(2,.pointer (some ⟨kb,hx,none⟩)),(3,.int .i64 (i:Nat)),(8,.int .u64 (pk (n,t)))]→Own Try.prog main F Stop (G (Frame.enter Try.prog 79 #[sv] .normal) (((Go.Conc.base 80).at ⟨A,[]⟩ [.inRegion (oC kgvr2) [1],.code kgvs4,.inBlock 1,.inLoop kgvb1,.inBlock 0])::cs)) w):
 Own Try.prog main F Stop (G (((Go.Conc.base 80).at ⟨A,[]⟩ [.inRegion (oC kgvr0) [1],.code kgvs2,.inBlock 1,.inLoop kgvb1,.inBlock 0]).finish (.tuple #[])) (cs)) w:=by
 obtain⟨hsz,h0,h1,h2,h3,_⟩:=hA
 obtain⟨s,rfl⟩:=kgvT_of hsz
 change s 0=_ at h0
 change s 1=_ at h1
 change s 2=_ at h2
 change s 3=_ at h3
 clear hsz
 simp only[kgvT,h0,h1,h2,h3]
 clear h0 h1 h2 h3
 rw[Frame.finish_at]
 simp only[kgvr0,kgvBody,Try.f80,zz,Nat.reduceAdd]
 walk_nrm
 refine ogE ?_
 refine ogSR kgvs2' kgvr1' ?_
 simp only[kgvr1,kgvBody,Try.f80,zz,Nat.reduceAdd]
 (refine oW fun dd K hK=>?_;go_simp;refine qT hK ?_;clear hK K)
 refine oc callable76 #[.pointer (some ⟨kb,hx,none⟩)] ?_
 refine own_ldU hc rfl ?_
 rw[Frame.finish_at]
 walk_nrm
 (refine oW fun dd K hK=>?_;go_simp;refine qT hK ?_;clear hK K)
 refine ogE ?_
 refine ogSR kgvs3' kgvr2' ?_
 simp only[kgvr2,kgvBody,Try.f80,zz,Nat.reduceAdd]
 (refine oW fun dd K hK=>?_;go_simp;refine qT hK ?_;clear hK K)
 refine oc callable79 #[sv] ?_
 refine h _ ?_
 exact⟨rfl,rfl,rfl,rfl,rfl,rfl,trivial⟩
theorem gv_2{sv:Value}{kb hx:Nat}{nb m i:Nat}{n t:Int}{v0:Value}(hn: -1≤n∧n<65536)(ht:0≤t∧t<2147483648)(hi:i<m)(hs:KH kb nb m w)(hc:w.cell? ⟨nb,i*2,none⟩=some v0)(hz:w.frozen? ⟨nb,i*2,none⟩=false)(hnh:¬held F ⟨nb,i*2,none⟩){A:Array Value}(hA:Slots 32 A [(0,.pointer (some ⟨kb,0,none⟩)),(1,sv),(2,.pointer (some ⟨kb,hx,none⟩)),(3,.int .i64 (i:Nat)),(8,.int .u64 (pk (n,t)))]){cs:List Frame}{main:Bool}{Stop:Goroutine→World→Prop}
 (h:∀A,Slots 32 A [(0,.pointer (some ⟨kb,0,none⟩)),(1,sv),(2,.pointer (some ⟨kb,hx,none⟩)),(3,.int .i64 (i:Nat)),(8,.int .u64 (pk (n,t)))]→Own Try.prog main F Stop (G (Frame.enter Try.prog 79 #[sv] .normal) (((Go.Conc.base 80).at ⟨A,[]⟩ [.inRegion (oC kgvr4) [1],.code kgvs6,.inBlock 1,.inLoop kgvb1,.inBlock 0])::cs)) (w.setCell ⟨nb,i*2,none⟩ (.int .i64 n))):
 Own Try.prog main F Stop (G (((Go.Conc.base 80).at ⟨A,[]⟩ [.inRegion (oC kgvr2) [1],.code kgvs4,.inBlock 1,.inLoop kgvb1,.inBlock 0]).finish (.tuple #[])) (cs)) w:=by
 obtain⟨hsz,h0,h1,h2,h3,h8,_⟩:=hA
 obtain⟨s,rfl⟩:=kgvT_of hsz
 change s 0=_ at h0
 change s 1=_ at h1
 change s 2=_ at h2
 change s 3=_ at h3
 change s 8=_ at h8
 clear hsz
 simp only[kgvT,h0,h1,h2,h3,h8]
 clear h0 h1 h2 h3 h8
 have hS:∀w d,KH kb nb m w→KH kb nb m (World.at w d):=fun w d h=>h.at d
 rw[Frame.finish_at]
 simp only[kgvr2,kgvBody,Try.f80,zz,Nat.reduceAdd]
 walk_nrm
 refine ogE ?_
 refine ogSE kgvs4' ?_
 rw[kgvr3']
 refine own_drawnC (KH kb nb m) (last:=9) run_mixed (ll_of (by kernel_rfl)) (by decide) ?_
 simp only[kgvr3,kgvBody,Try.f80,zz,Nat.reduceAdd]
 refine anyC_take hS (fun _ _ d h=>h.at d) (i:=0) (v:=.pointer (some ⟨kb,0,none⟩)) hs rfl rfl (by kernel_rfl) (by kernel_rfl) (by kernel_rfl) (fun u hu=>.inl ⟨rfl,fun d=>⟨by simp[go_sem,execOp,Act.eval],fun e he=>by have hm:=mem_listed he;simp[go_sem,execOp,Act.eval]at hm⟩⟩) ?_
 walk_nrm
 refine anyC_take hS (fun _ _ d h=>h.at d) (i:=1) (v:=.pointer (some ⟨kb,0,none⟩)) hs rfl rfl (by kernel_rfl) (by kernel_rfl) (by kernel_rfl) (fun u hu=>.inl ⟨rfl,fun d=>⟨by simp[go_sem,execOp,Act.eval],fun e he=>by have hm:=mem_listed he;simp[go_sem,execOp,Act.eval]at hm⟩⟩) ?_
 walk_nrm
 refine anyC_take hS (fun _ _ d h=>h.at d) (i:=2) (v:=.pointer (some ⟨kb,2,none⟩)) hs rfl rfl (by kernel_rfl) (by kernel_rfl) (by kernel_rfl) (fun u hu=>.inl ⟨rfl,fun d=>⟨by simp[go_sem,execOp,Act.eval],fun e he=>by have hm:=mem_listed he;simp[go_sem,execOp,Act.eval]at hm⟩⟩) ?_
 walk_nrm
 refine anyC_take hS (fun _ _ d h=>h.at d) (i:=3) (v:=.slice (some ⟨nb,0,none⟩) m m) hs rfl rfl (by kernel_rfl) (by kernel_rfl) (by kernel_rfl) (fun u hu=>.inl ⟨rfl,fun d=>⟨by simp[go_sem,execOp,Act.eval,hu.c2],fun e he=>by have hm:=mem_listed he;simp[go_sem,execOp,Act.eval,hu.c2]at hm;subst hm;exact evT_read _ _⟩⟩) ?_
 walk_nrm
 refine anyC_take hS (fun _ _ d h=>h.at d) (i:=4) (v:=.int .i64 (i:Nat)) hs rfl rfl (by kernel_rfl) (by kernel_rfl) (by kernel_rfl) (fun u hu=>.inl ⟨rfl,fun d=>⟨by simp[go_sem,execOp,Act.eval],fun e he=>by have hm:=mem_listed he;simp[go_sem,execOp,Act.eval]at hm⟩⟩) ?_
 walk_nrm
 refine anyC_take hS (fun _ _ d h=>h.at d) (i:=5) (v:=.pointer (some ⟨nb,i*2,none⟩)) hs rfl rfl (by kernel_rfl) (by kernel_rfl) (by kernel_rfl) (fun u hu=>.inl ⟨rfl,fun d=>⟨by simp[go_sem,execOp,Act.eval,hi],fun e he=>by have hm:=mem_listed he;simp[go_sem,execOp,Act.eval,hi]at hm⟩⟩) ?_
 walk_nrm
 refine anyC_take hS (fun _ _ d h=>h.at d) (i:=6) (v:=.pointer (some ⟨nb,i*2,none⟩)) hs rfl rfl (by kernel_rfl) (by kernel_rfl) (by kernel_rfl) (fun u hu=>.inl ⟨rfl,fun d=>⟨by simp[go_sem,execOp,Act.eval],fun e he=>by have hm:=mem_listed he;simp[go_sem,execOp,Act.eval]at hm⟩⟩) ?_
 walk_nrm
 refine anyC_take hS (fun _ _ d h=>h.at d) (i:=7) (v:=.int .u64 (pk (n,t))) hs rfl rfl (by kernel_rfl) (by kernel_rfl) (by kernel_rfl) (fun u hu=>.inl ⟨rfl,fun d=>⟨by simp[go_sem,execOp,Act.eval],fun e he=>by have hm:=mem_listed he;simp[go_sem,execOp,Act.eval]at hm⟩⟩) ?_
 walk_nrm
 refine anyC_all (r:=[8]) (by kernel_rfl) (by kernel_rfl) (fun j1 hj1 hjl=>?_)
 obtain rfl:j1=8:=by simpa using hj1
 refine⟨_,rfl,.inr (.inr ⟨rfl,77,#[.int .u64 (pk (n,t))],fun v w'=>v= .int .i64 n∧w=w',fun w=>by simp[execOp,Act.eval,resolve,invoke,Deferred.ofValue,callable77.run],fun w=>by simp[execOp,Act.eval,resolve,invoke,Deferred.ofValue,callable77.run,callable77.quiet],fun c cs Stop k=>own_of hn ht (k _ _ ⟨rfl,rfl⟩),?_⟩)⟩
 rintro v w' ⟨rfl,rfl⟩
 refine⟨hs,?_⟩
 walk_nrm
 refine anyC_end (by kernel_rfl) ?_ _
 refine oc callable52 #[.pointer (some ⟨nb,i*2,none⟩),.int .i64 n] ?_
 refine own_stI hc rfl hz hnh ?_
 rw[Frame.finish_at]
 walk_nrm
 refine ogE ?_
 refine ogSR kgvs5' kgvr4' ?_
 simp only[kgvr4,kgvBody,Try.f80,zz,Nat.reduceAdd]
 (refine oW fun dd K hK=>?_;go_simp;refine qT hK ?_;clear hK K)
 refine oc callable79 #[sv] ?_
 refine h _ ?_
 exact⟨rfl,rfl,rfl,rfl,rfl,rfl,trivial⟩
theorem gv_3a{sv:Value}{kb hx:Nat}{tg:Bool}{i:Nat}{n t cv:Int}(hv:(cv == pk (n,t))=true)(hk:w.cell? ⟨kb,3,none⟩=some (.bool tg))(hn: -1≤n∧n<65536)(ht:0≤t∧t<2147483648)(hto:(-1:Int)≤(i:Nat)∧((i:Nat):Int)<65536)(hc:w.cell? ⟨kb,hx,none⟩=some (.int .u64 cv))(hz:w.frozen? ⟨kb,hx,none⟩=false)(hnh:¬held F ⟨kb,hx,none⟩){A:Array Value}(hA:Slots 32 A [(0,.pointer (some ⟨kb,0,none⟩)),(1,sv),(2,.pointer (some ⟨kb,hx,none⟩)),(3,.int .i64 (i:Nat)),(8,.int .u64 (pk (n,t)))]){c:Frame}{cs:List Frame}{main:Bool}{Stop:Goroutine→World→Prop}
 (h:Own Try.prog main F Stop (G (c.finish (.tuple #[])) cs) (w.setCell ⟨kb,hx,none⟩ (.int .u64 (pk ((i:Nat),tagOf tg t))))):
 Own Try.prog main F Stop (G (((Go.Conc.base 80).at ⟨A,[]⟩ [.inRegion (oC kgvr4) [1],.code kgvs6,.inBlock 1,.inLoop kgvb1,.inBlock 0]).finish (.tuple #[])) (c::cs)) w:=by
 obtain⟨hsz,h0,h1,h2,h3,h8,_⟩:=hA
 obtain⟨s,rfl⟩:=kgvT_of hsz
 change s 0=_ at h0
 change s 1=_ at h1
 change s 2=_ at h2
 change s 3=_ at h3
 change s 8=_ at h8
 clear hsz
 simp only[kgvT,h0,h1,h2,h3,h8]
 clear h0 h1 h2 h3 h8
 rw[Frame.finish_at]
 simp only[kgvr4,kgvBody,Try.f80,zz,Nat.reduceAdd]
 walk_nrm
 refine ogE ?_
 refine ogSR kgvs6' kgvr5' ?_
 simp only[kgvr5,kgvBody,Try.f80,zz,Nat.reduceAdd]
 iterate 4 (refine oW fun dd K hK=>?_;go_simp;refine qT hK ?_;clear hK K)
 refine oc callable98 #[.pointer (some ⟨kb,0,none⟩),.pointer (some ⟨kb,hx,none⟩),.int .u64 (pk (n,t)),.int .i64 (i:Nat)] ?_
 refine own_turn (eq:=true) hv hk hn ht hto hc rfl hz hnh ?_
 rw[Frame.finish_at]
 walk_nrm
 simp only[if_true]
 refine ogE ?_
 rw[kgvc31']
 refine ogT ?_
 simp only[if_true]
 refine ogX ?_
 refine own_go rfl (fun d=>stepG_leave (fn:=Try.f80) (v:=.tuple #[]) rfl rfl Try.func80 (by simp[results,Try.f80]) (by simp[results,Try.f80,go_sem])) ?_
 exact h
theorem gv_3b{sv:Value}{kb hx:Nat}{tg:Bool}{i:Nat}{n t cv:Int}(hv:(cv == pk (n,t))=false)(hk:w.cell? ⟨kb,3,none⟩=some (.bool tg))(hn: -1≤n∧n<65536)(ht:0≤t∧t<2147483648)(hto:(-1:Int)≤(i:Nat)∧((i:Nat):Int)<65536)(hc:w.cell? ⟨kb,hx,none⟩=some (.int .u64 cv))(hz:w.frozen? ⟨kb,hx,none⟩=false)(hnh:¬held F ⟨kb,hx,none⟩){A:Array Value}(hA:Slots 32 A [(0,.pointer (some ⟨kb,0,none⟩)),(1,sv),(2,.pointer (some ⟨kb,hx,none⟩)),(3,.int .i64 (i:Nat)),(8,.int .u64 (pk (n,t)))]){cs:List Frame}{main:Bool}{Stop:Goroutine→World→Prop}
 (h:∀A,Slots 32 A [(0,.pointer (some ⟨kb,0,none⟩)),(1,sv),(2,.pointer (some ⟨kb,hx,none⟩)),(3,.int .i64 (i:Nat))]→Own Try.prog main F Stop (G (Frame.enter Try.prog 79 #[sv] .normal) (((Go.Conc.base 80).at ⟨A,[]⟩ [.inRegion (oC kgvr0) [1],.code kgvs2,.inBlock 1,.inLoop kgvb1,.inBlock 0])::cs)) w):
 Own Try.prog main F Stop (G (((Go.Conc.base 80).at ⟨A,[]⟩ [.inRegion (oC kgvr4) [1],.code kgvs6,.inBlock 1,.inLoop kgvb1,.inBlock 0]).finish (.tuple #[])) (cs)) w:=by
 obtain⟨hsz,h0,h1,h2,h3,h8,_⟩:=hA
 obtain⟨s,rfl⟩:=kgvT_of hsz
 change s 0=_ at h0
 change s 1=_ at h1
 change s 2=_ at h2
 change s 3=_ at h3
 change s 8=_ at h8
 clear hsz
 simp only[kgvT,h0,h1,h2,h3,h8]
 clear h0 h1 h2 h3 h8
 rw[Frame.finish_at]
 simp only[kgvr4,kgvBody,Try.f80,zz,Nat.reduceAdd]
 walk_nrm
 refine ogE ?_
 refine ogSR kgvs6' kgvr5' ?_
 simp only[kgvr5,kgvBody,Try.f80,zz,Nat.reduceAdd]
 iterate 4 (refine oW fun dd K hK=>?_;go_simp;refine qT hK ?_;clear hK K)
 refine oc callable98 #[.pointer (some ⟨kb,0,none⟩),.pointer (some ⟨kb,hx,none⟩),.int .u64 (pk (n,t)),.int .i64 (i:Nat)] ?_
 refine own_turn (eq:=false) hv hk hn ht hto hc rfl hz hnh ?_
 rw[Frame.finish_at]
 walk_nrm
 simp only[Bool.false_eq_true,if_false]
 refine ogE ?_
 rw[kgvc31']
 refine ogF ?_
 simp only[Bool.false_eq_true,if_false]
 refine ogK ?_
 refine ogI ?_
 refine ogL ?_
 rw[kgvb1']
 refine ogB ?_
 refine ogSR kgvs1' kgvr0' ?_
 simp only[kgvr0,kgvBody,Try.f80,zz,Nat.reduceAdd]
 (refine oW fun dd K hK=>?_;go_simp;refine qT hK ?_;clear hK K)
 refine oc callable79 #[sv] ?_
 refine h _ ?_
 exact⟨rfl,rfl,rfl,rfl,rfl,trivial⟩
end
noncomputable section
variable{F:Fz}{w:World}
@[go_sem] theorem eql_nilE74(a:Addr)(w:World)(es:Array Event):(binOp .eql 74 (.pointer (some a)) (.pointer none)).events Try.prog w es=es:=by kernel_rfl
def kpuBody:Code:=Try.f45.body.getD .skip
def kpus0:=pC [] kpuBody
def kpur0:=pC [zt] kpuBody
def kpus1:=pC [zf] kpuBody
def kpus2:=pC [zf,zt] kpuBody
def kpur1:=pC [zf,zt,zt] kpuBody
def kpuc10:=pC [zf,zt,zf] kpuBody
def kpus3:=pC [zf,zt,zf,zt] kpuBody
def kpus4:=pC [zf,zf] kpuBody
def kpur3:=pC [zf,zf,zt] kpuBody
def kpus5:=pC [zf,zf,zf] kpuBody
def kpus6:=pC [zf,zf,zf,zt] kpuBody
def kpur4:=pC [zf,zf,zf,zt,zt] kpuBody
def kpuc21:=pC [zf,zf,zf,zt,zf] kpuBody
def kpus7:=pC [zf,zf,zf,zt,zf,zt] kpuBody
def kpur5:=pC [zf,zf,zf,zt,zf,zt,zt] kpuBody
def kpus8:=pC [zf,zf,zf,zf] kpuBody
def kpur6:=pC [zf,zf,zf,zf,zt] kpuBody
def kpus9:=pC [zf,zf,zf,zf,zf] kpuBody
def kpur7:=pC [zf,zf,zf,zf,zf,zt] kpuBody
def kpus10:=pC [zf,zf,zf,zf,zf,zf] kpuBody
def kpur8:=pC [zf,zf,zf,zf,zf,zf,zt] kpuBody
def kpus11:=pC [zf,zf,zf,zf,zf,zf,zf] kpuBody
def kpur9:=pC [zf,zf,zf,zf,zf,zf,zf,zt] kpuBody
theorem kpus0':kpus0= .seq kpur0 kpus1:=by kernel_rfl
theorem kpur0':kpur0= .region 0 (oC kpur0) false:=by kernel_rfl
theorem kpus1':kpus1= .seq kpus2 kpus4:=by kernel_rfl
theorem kpus2':kpus2= .seq kpur1 kpuc10:=by kernel_rfl
theorem kpur1':kpur1= .region 1 (oC kpur1) false:=by kernel_rfl
theorem kpuc10':kpuc10= .cond (.tmp 10) kpus3 .skip:=by kernel_rfl
theorem kpus4':kpus4= .seq kpur3 kpus5:=by kernel_rfl
theorem kpur3':kpur3= .region 3 (oC kpur3) false:=by kernel_rfl
theorem kpus5':kpus5= .seq kpus6 kpus8:=by kernel_rfl
theorem kpus6':kpus6= .seq kpur4 kpuc21:=by kernel_rfl
theorem kpur4':kpur4= .region 4 (oC kpur4) false:=by kernel_rfl
theorem kpuc21':kpuc21= .cond (.tmp 21) kpus7 .skip:=by kernel_rfl
theorem kpus7':kpus7= .seq kpur5 .ret:=by kernel_rfl
theorem kpur5':kpur5= .region 5 (oC kpur5) false:=by kernel_rfl
theorem kpus8':kpus8= .seq kpur6 kpus9:=by kernel_rfl
theorem kpur6':kpur6= .region 6 (oC kpur6) false:=by kernel_rfl
theorem kpus9':kpus9= .seq kpur7 kpus10:=by kernel_rfl
theorem kpur7':kpur7= .region 7 (oC kpur7) false:=by kernel_rfl
theorem kpus10':kpus10= .seq kpur8 kpus11:=by kernel_rfl
theorem kpur8':kpur8= .region 8 (oC kpur8) false:=by kernel_rfl
theorem kpus11':kpus11= .seq kpur9 .ret:=by kernel_rfl
theorem kpur9':kpur9= .region 9 (oC kpur9) false:=by kernel_rfl
theorem enter_kpu(args:Array Value):Frame.enter Try.prog 45 args .normal=(Go.Conc.base 45).at {tmps:=args++Array.replicate (40 - args.size) undef,defers:=[]} [.code kpus0]:=enter_at args Try.func45 rfl
theorem callable45:Callable 45:=callable Try.func45 rfl rfl
def kpuT(s:Nat→Value):Array Value:= #[s 0,s 1,s 2,s 3,s 4,s 5,s 6,s 7,s 8,s 9,s 10,s 11,s 12,s 13,s 14,s 15,s 16,s 17,s 18,s 19,s 20,s 21,s 22,s 23,s 24,s 25,s 26,s 27,s 28,s 29,s 30,s 31,s 32,s 33,s 34,s 35,s 36,s 37,s 38,s 39]
theorem kpuT_of{A:Array Value}(h:A.size=40):∃s,A=kpuT s:=by
 obtain⟨s,hs,_⟩:=arr_lit A h
 exact⟨s,hs⟩
theorem pu_0{sv:Value}{kb:Nat}{v:Int}{cs:List Frame}{main:Bool}{Stop:Goroutine→World→Prop}
 (h:∀A,Slots 40 A [(0,.pointer (some ⟨kb,0,none⟩)),(1,sv),(2,.int .i64 v)]→Own Try.prog main F Stop (G (Frame.enter Try.prog 78 #[.pointer (some ⟨kb,0,none⟩),sv,.pointer (some ⟨kb,1,none⟩)] .normal) (((Go.Conc.base 45).at ⟨A,[]⟩ [.inRegion (oC kpur3) [5,6,7,8,9,10],.code kpus5])::cs)) w):
 Own Try.prog main F Stop (G (Frame.enter Try.prog 45 #[.pointer (some ⟨kb,0,none⟩),sv,.int .i64 v] .normal) cs) w:=by
 rw[enter_kpu]
 walk_nrm
 refine ogSR kpus0' kpur0' ?_
 simp only[kpur0,kpuBody,Try.f45,zz,Nat.reduceAdd]
 (refine oW fun dd K hK=>?_;go_simp;refine qT hK ?_;clear hK K)
 refine ogE ?_
 refine ogSE kpus1' ?_
 refine ogSR kpus2' kpur1' ?_
 simp only[kpur1,kpuBody,Try.f45,zz,Nat.reduceAdd]
 iterate 2 (refine oW fun dd K hK=>?_;go_simp;refine qT hK ?_;clear hK K)
 refine ogE ?_
 rw[kpuc10']
 refine ogF ?_
 simp only[Bool.false_eq_true,if_false]
 refine ogK ?_
 refine ogSR kpus4' kpur3' ?_
 simp only[kpur3,kpuBody,Try.f45,zz,Nat.reduceAdd]
 iterate 5 (refine oW fun dd K hK=>?_;go_simp;refine qT hK ?_;clear hK K)
 refine oc callable78 #[.pointer (some ⟨kb,0,none⟩),sv,.pointer (some ⟨kb,1,none⟩)] ?_
 refine h _ ?_
 exact⟨rfl,rfl,rfl,rfl,trivial⟩
theorem pu_1a{sv:Value}{kb:Nat}{v x:Int}{A:Array Value}(hA:Slots 40 A [(0,.pointer (some ⟨kb,0,none⟩)),(1,sv),(2,.int .i64 v)]){c:Frame}{cs:List Frame}{main:Bool}{Stop:Goroutine→World→Prop}
 (h:Own Try.prog main F Stop (G (c.finish (.bool false)) cs) w):
 Own Try.prog main F Stop (G (((Go.Conc.base 45).at ⟨A,[]⟩ [.inRegion (oC kpur3) [5,6,7,8,9,10],.code kpus5]).finish (.tuple #[.int .i64 x,.bool false])) (c::cs)) w:=by
 obtain⟨hsz,h0,h1,h2,_⟩:=hA
 obtain⟨s,rfl⟩:=kpuT_of hsz
 change s 0=_ at h0
 change s 1=_ at h1
 change s 2=_ at h2
 clear hsz
 simp only[kpuT,h0,h1,h2]
 clear h0 h1 h2
 rw[Frame.finish_at]
 simp only[kpur3,kpuBody,Try.f45,zz,Nat.reduceAdd]
 walk_nrm
 iterate 5 (refine oW fun dd K hK=>?_;go_simp;refine qT hK ?_;clear hK K)
 refine ogE ?_
 refine ogSE kpus5' ?_
 refine ogSR kpus6' kpur4' ?_
 simp only[kpur4,kpuBody,Try.f45,zz,Nat.reduceAdd]
 iterate 2 (refine oW fun dd K hK=>?_;go_simp;refine qT hK ?_;clear hK K)
 refine ogE ?_
 rw[kpuc21']
 refine ogT ?_
 simp only[if_true]
 refine ogSR kpus7' kpur5' ?_
 simp only[kpur5,kpuBody,Try.f45,zz,Nat.reduceAdd]
 (refine oW fun dd K hK=>?_;go_simp;refine qT hK ?_;clear hK K)
 refine ogE ?_
 refine ogX ?_
 refine own_go rfl (fun d=>stepG_leave (fn:=Try.f45) (v:=.bool false) rfl rfl Try.func45 (by simp[results,Try.f45]) (by simp[results,Try.f45,go_sem])) ?_
 exact h
theorem pu_1b{sv:Value}{kb:Nat}{v:Int}{i:Nat}{A:Array Value}(hA:Slots 40 A [(0,.pointer (some ⟨kb,0,none⟩)),(1,sv),(2,.int .i64 v)]){cs:List Frame}{main:Bool}{Stop:Goroutine→World→Prop}
 (h:∀A,Slots 40 A [(0,.pointer (some ⟨kb,0,none⟩)),(1,sv),(2,.int .i64 v),(7,.int .i64 (i:Nat))]→Own Try.prog main F Stop (G (Frame.enter Try.prog 79 #[sv] .normal) (((Go.Conc.base 45).at ⟨A,[]⟩ [.inRegion (oC kpur6) [1],.code kpus9])::cs)) w):
 Own Try.prog main F Stop (G (((Go.Conc.base 45).at ⟨A,[]⟩ [.inRegion (oC kpur3) [5,6,7,8,9,10],.code kpus5]).finish (.tuple #[.int .i64 (i:Nat),.bool true])) cs) w:=by
 obtain⟨hsz,h0,h1,h2,_⟩:=hA
 obtain⟨s,rfl⟩:=kpuT_of hsz
 change s 0=_ at h0
 change s 1=_ at h1
 change s 2=_ at h2
 clear hsz
 simp only[kpuT,h0,h1,h2]
 clear h0 h1 h2
 rw[Frame.finish_at]
 simp only[kpur3,kpuBody,Try.f45,zz,Nat.reduceAdd]
 walk_nrm
 iterate 5 (refine oW fun dd K hK=>?_;go_simp;refine qT hK ?_;clear hK K)
 refine ogE ?_
 refine ogSE kpus5' ?_
 refine ogSR kpus6' kpur4' ?_
 simp only[kpur4,kpuBody,Try.f45,zz,Nat.reduceAdd]
 iterate 2 (refine oW fun dd K hK=>?_;go_simp;refine qT hK ?_;clear hK K)
 refine ogE ?_
 rw[kpuc21']
 refine ogF ?_
 simp only[Bool.false_eq_true,if_false]
 refine ogK ?_
 refine ogSR kpus8' kpur6' ?_
 simp only[kpur6,kpuBody,Try.f45,zz,Nat.reduceAdd]
 (refine oW fun dd K hK=>?_;go_simp;refine qT hK ?_;clear hK K)
 refine oc callable79 #[sv] ?_
 refine h _ ?_
 exact⟨rfl,rfl,rfl,rfl,rfl,trivial⟩
theorem pu_2{sv:Value}{kb:Nat}{v:Int}{nb m i:Nat}{v0:Value}(hi:i<m)(hs:KH kb nb m w)(hc:w.cell? ⟨nb,i*2+1,none⟩=some v0)(hz:w.frozen? ⟨nb,i*2+1,none⟩=false)(hnh:¬held F ⟨nb,i*2+1,none⟩){A:Array Value}(hA:Slots 40 A [(0,.pointer (some ⟨kb,0,none⟩)),(1,sv),(2,.int .i64 v),(7,.int .i64 (i:Nat))]){cs:List Frame}{main:Bool}{Stop:Goroutine→World→Prop}
 (h:∀A,Slots 40 A [(0,.pointer (some ⟨kb,0,none⟩)),(1,sv),(2,.int .i64 v),(7,.int .i64 (i:Nat))]→Own Try.prog main F Stop (G (Frame.enter Try.prog 80 #[.pointer (some ⟨kb,0,none⟩),sv,.pointer (some ⟨kb,0,none⟩),.int .i64 (i:Nat)] .normal) (((Go.Conc.base 45).at ⟨A,[]⟩ [.inRegion (oC kpur8) [6],.code kpus11])::cs)) (w.setCell ⟨nb,i*2+1,none⟩ (.int .i64 v))):
 Own Try.prog main F Stop (G (((Go.Conc.base 45).at ⟨A,[]⟩ [.inRegion (oC kpur6) [1],.code kpus9]).finish (.tuple #[])) (cs)) w:=by
 obtain⟨hsz,h0,h1,h2,h7,_⟩:=hA
 obtain⟨s,rfl⟩:=kpuT_of hsz
 change s 0=_ at h0
 change s 1=_ at h1
 change s 2=_ at h2
 change s 7=_ at h7
 clear hsz
 simp only[kpuT,h0,h1,h2,h7]
 clear h0 h1 h2 h7
 have c2:=hs.c2
 rw[Frame.finish_at]
 simp only[kpur6,kpuBody,Try.f45,zz,Nat.reduceAdd]
 walk_nrm
 refine ogE ?_
 refine ogSR kpus9' kpur7' ?_
 simp only[kpur7,kpuBody,Try.f45,zz,Nat.reduceAdd]
 iterate 3 (refine oW fun dd K hK=>?_;go_simp;refine qT hK ?_;clear hK K)
 (refine oW fun dd K hK=>?_;go_simp;refine qL hK ?_;clear hK K)
 (refine oW fun dd K hK=>?_;go_simp;refine qT hK ?_;clear hK K)
 (refine oW fun dd K hK=>?_;go_simp;refine qX hK ?_;clear hK K)
 iterate 2 (refine oW fun dd K hK=>?_;go_simp;refine qT hK ?_;clear hK K)
 refine oc callable52 #[.pointer (some ⟨nb,i*2+1,none⟩),.int .i64 v] ?_
 refine own_stI hc rfl hz hnh ?_
 rw[Frame.finish_at]
 walk_nrm
 refine ogE ?_
 refine ogSR kpus10' kpur8' ?_
 simp only[kpur8,kpuBody,Try.f45,zz,Nat.reduceAdd]
 iterate 6 (refine oW fun dd K hK=>?_;go_simp;refine qT hK ?_;clear hK K)
 refine oc callable80 #[.pointer (some ⟨kb,0,none⟩),sv,.pointer (some ⟨kb,0,none⟩),.int .i64 (i:Nat)] ?_
 refine h _ ?_
 exact⟨rfl,rfl,rfl,rfl,rfl,trivial⟩
theorem pu_3{sv:Value}{kb:Nat}{v:Int}{i:Nat}{A:Array Value}(hA:Slots 40 A [(0,.pointer (some ⟨kb,0,none⟩)),(1,sv),(2,.int .i64 v),(7,.int .i64 (i:Nat))]){c:Frame}{cs:List Frame}{main:Bool}{Stop:Goroutine→World→Prop}
 (h:Own Try.prog main F Stop (G (c.finish (.bool true)) cs) w):
 Own Try.prog main F Stop (G (((Go.Conc.base 45).at ⟨A,[]⟩ [.inRegion (oC kpur8) [6],.code kpus11]).finish (.tuple #[])) (c::cs)) w:=by
 obtain⟨hsz,h0,h1,h2,h7,_⟩:=hA
 obtain⟨s,rfl⟩:=kpuT_of hsz
 change s 0=_ at h0
 change s 1=_ at h1
 change s 2=_ at h2
 change s 7=_ at h7
 clear hsz
 simp only[kpuT,h0,h1,h2,h7]
 clear h0 h1 h2 h7
 rw[Frame.finish_at]
 simp only[kpur8,kpuBody,Try.f45,zz,Nat.reduceAdd]
 walk_nrm
 refine ogE ?_
 refine ogSR kpus11' kpur9' ?_
 simp only[kpur9,kpuBody,Try.f45,zz,Nat.reduceAdd]
 (refine oW fun dd K hK=>?_;go_simp;refine qT hK ?_;clear hK K)
 refine ogE ?_
 refine ogX ?_
 refine own_go rfl (fun d=>stepG_leave (fn:=Try.f45) (v:=.bool true) rfl rfl Try.func45 (by simp[results,Try.f45]) (by simp[results,Try.f45,go_sem])) ?_
 exact h
def kpoBody:Code:=Try.f43.body.getD .skip
def kpos0:=pC [] kpoBody
def kpor0:=pC [zt] kpoBody
def kpos1:=pC [zf] kpoBody
def kpos2:=pC [zf,zt] kpoBody
def kpor1:=pC [zf,zt,zt] kpoBody
def kpoc10:=pC [zf,zt,zf] kpoBody
def kpos3:=pC [zf,zt,zf,zt] kpoBody
def kpos4:=pC [zf,zf] kpoBody
def kpor3:=pC [zf,zf,zt] kpoBody
def kpos5:=pC [zf,zf,zf] kpoBody
def kpos6:=pC [zf,zf,zf,zt] kpoBody
def kpor4:=pC [zf,zf,zf,zt,zt] kpoBody
def kpoc21:=pC [zf,zf,zf,zt,zf] kpoBody
def kpos7:=pC [zf,zf,zf,zt,zf,zt] kpoBody
def kpor5:=pC [zf,zf,zf,zt,zf,zt,zt] kpoBody
def kpos8:=pC [zf,zf,zf,zf] kpoBody
def kpor6:=pC [zf,zf,zf,zf,zt] kpoBody
def kpos9:=pC [zf,zf,zf,zf,zf] kpoBody
def kpor7:=pC [zf,zf,zf,zf,zf,zt] kpoBody
def kpos10:=pC [zf,zf,zf,zf,zf,zf] kpoBody
def kpor8:=pC [zf,zf,zf,zf,zf,zf,zt] kpoBody
def kpos11:=pC [zf,zf,zf,zf,zf,zf,zf] kpoBody
def kpor9:=pC [zf,zf,zf,zf,zf,zf,zf,zt] kpoBody
theorem kpos0':kpos0= .seq kpor0 kpos1:=by kernel_rfl
theorem kpor0':kpor0= .region 0 (oC kpor0) false:=by kernel_rfl
theorem kpos1':kpos1= .seq kpos2 kpos4:=by kernel_rfl
theorem kpos2':kpos2= .seq kpor1 kpoc10:=by kernel_rfl
theorem kpor1':kpor1= .region 1 (oC kpor1) false:=by kernel_rfl
theorem kpoc10':kpoc10= .cond (.tmp 10) kpos3 .skip:=by kernel_rfl
theorem kpos4':kpos4= .seq kpor3 kpos5:=by kernel_rfl
theorem kpor3':kpor3= .region 3 (oC kpor3) false:=by kernel_rfl
theorem kpos5':kpos5= .seq kpos6 kpos8:=by kernel_rfl
theorem kpos6':kpos6= .seq kpor4 kpoc21:=by kernel_rfl
theorem kpor4':kpor4= .region 4 (oC kpor4) false:=by kernel_rfl
theorem kpoc21':kpoc21= .cond (.tmp 21) kpos7 .skip:=by kernel_rfl
theorem kpos7':kpos7= .seq kpor5 .ret:=by kernel_rfl
theorem kpor5':kpor5= .region 5 (oC kpor5) false:=by kernel_rfl
theorem kpos8':kpos8= .seq kpor6 kpos9:=by kernel_rfl
theorem kpor6':kpor6= .region 6 (oC kpor6) false:=by kernel_rfl
theorem kpos9':kpos9= .seq kpor7 kpos10:=by kernel_rfl
theorem kpor7':kpor7= .region 7 (oC kpor7) false:=by kernel_rfl
theorem kpos10':kpos10= .seq kpor8 kpos11:=by kernel_rfl
theorem kpor8':kpor8= .region 8 (oC kpor8) false:=by kernel_rfl
theorem kpos11':kpos11= .seq kpor9 .ret:=by kernel_rfl
theorem kpor9':kpor9= .region 9 (oC kpor9) false:=by kernel_rfl
theorem enter_kpo(args:Array Value):Frame.enter Try.prog 43 args .normal=(Go.Conc.base 43).at {tmps:=args++Array.replicate (40 - args.size) undef,defers:=[]} [.code kpos0]:=enter_at args Try.func43 rfl
theorem callable43:Callable 43:=callable Try.func43 rfl rfl
def kpoT(s:Nat→Value):Array Value:= #[s 0,s 1,s 2,s 3,s 4,s 5,s 6,s 7,s 8,s 9,s 10,s 11,s 12,s 13,s 14,s 15,s 16,s 17,s 18,s 19,s 20,s 21,s 22,s 23,s 24,s 25,s 26,s 27,s 28,s 29,s 30,s 31,s 32,s 33,s 34,s 35,s 36,s 37,s 38,s 39]
theorem kpoT_of{A:Array Value}(h:A.size=40):∃s,A=kpoT s:=by
 obtain⟨s,hs,_⟩:=arr_lit A h
 exact⟨s,hs⟩
theorem po_0{sv:Value}{kb:Nat}{cs:List Frame}{main:Bool}{Stop:Goroutine→World→Prop}
 (h:∀A,Slots 40 A [(0,.pointer (some ⟨kb,0,none⟩)),(1,sv)]→Own Try.prog main F Stop (G (Frame.enter Try.prog 78 #[.pointer (some ⟨kb,0,none⟩),sv,.pointer (some ⟨kb,0,none⟩)] .normal) (((Go.Conc.base 43).at ⟨A,[]⟩ [.inRegion (oC kpor3) [5,6,7,8,9,10],.code kpos5])::cs)) w):
 Own Try.prog main F Stop (G (Frame.enter Try.prog 43 #[.pointer (some ⟨kb,0,none⟩),sv] .normal) cs) w:=by
 rw[enter_kpo]
 walk_nrm
 refine ogSR kpos0' kpor0' ?_
 simp only[kpor0,kpoBody,Try.f43,zz,Nat.reduceAdd]
 iterate 2 (refine oW fun dd K hK=>?_;go_simp;refine qT hK ?_;clear hK K)
 refine ogE ?_
 refine ogSE kpos1' ?_
 refine ogSR kpos2' kpor1' ?_
 simp only[kpor1,kpoBody,Try.f43,zz,Nat.reduceAdd]
 iterate 2 (refine oW fun dd K hK=>?_;go_simp;refine qT hK ?_;clear hK K)
 refine ogE ?_
 rw[kpoc10']
 refine ogF ?_
 simp only[Bool.false_eq_true,if_false]
 refine ogK ?_
 refine ogSR kpos4' kpor3' ?_
 simp only[kpor3,kpoBody,Try.f43,zz,Nat.reduceAdd]
 iterate 5 (refine oW fun dd K hK=>?_;go_simp;refine qT hK ?_;clear hK K)
 refine oc callable78 #[.pointer (some ⟨kb,0,none⟩),sv,.pointer (some ⟨kb,0,none⟩)] ?_
 refine h _ ?_
 exact⟨rfl,rfl,rfl,trivial⟩
theorem po_1a{sv:Value}{kb:Nat}{x:Int}{A:Array Value}(hA:Slots 40 A [(0,.pointer (some ⟨kb,0,none⟩)),(1,sv)]){c:Frame}{cs:List Frame}{main:Bool}{Stop:Goroutine→World→Prop}
 (h:Own Try.prog main F Stop (G (c.finish (.tuple #[.int .i64 0,.bool false])) cs) w):
 Own Try.prog main F Stop (G (((Go.Conc.base 43).at ⟨A,[]⟩ [.inRegion (oC kpor3) [5,6,7,8,9,10],.code kpos5]).finish (.tuple #[.int .i64 x,.bool false])) (c::cs)) w:=by
 obtain⟨hsz,h0,h1,_⟩:=hA
 obtain⟨s,rfl⟩:=kpoT_of hsz
 change s 0=_ at h0
 change s 1=_ at h1
 clear hsz
 simp only[kpoT,h0,h1]
 clear h0 h1
 rw[Frame.finish_at]
 simp only[kpor3,kpoBody,Try.f43,zz,Nat.reduceAdd]
 walk_nrm
 iterate 5 (refine oW fun dd K hK=>?_;go_simp;refine qT hK ?_;clear hK K)
 refine ogE ?_
 refine ogSE kpos5' ?_
 refine ogSR kpos6' kpor4' ?_
 simp only[kpor4,kpoBody,Try.f43,zz,Nat.reduceAdd]
 iterate 2 (refine oW fun dd K hK=>?_;go_simp;refine qT hK ?_;clear hK K)
 refine ogE ?_
 rw[kpoc21']
 refine ogT ?_
 simp only[if_true]
 refine ogSR kpos7' kpor5' ?_
 simp only[kpor5,kpoBody,Try.f43,zz,Nat.reduceAdd]
 iterate 2 (refine oW fun dd K hK=>?_;go_simp;refine qT hK ?_;clear hK K)
 refine ogE ?_
 refine ogX ?_
 refine own_go rfl (fun d=>stepG_leave (fn:=Try.f43) (v:=.tuple #[.int .i64 0,.bool false]) rfl rfl Try.func43 (by simp[results,Try.f43]) (by simp[results,Try.f43,go_sem])) ?_
 exact h
theorem po_1b{sv:Value}{kb:Nat}{i:Nat}{A:Array Value}(hA:Slots 40 A [(0,.pointer (some ⟨kb,0,none⟩)),(1,sv)]){cs:List Frame}{main:Bool}{Stop:Goroutine→World→Prop}
 (h:∀A,Slots 40 A [(0,.pointer (some ⟨kb,0,none⟩)),(1,sv),(6,.int .i64 (i:Nat))]→Own Try.prog main F Stop (G (Frame.enter Try.prog 79 #[sv] .normal) (((Go.Conc.base 43).at ⟨A,[]⟩ [.inRegion (oC kpor6) [1],.code kpos9])::cs)) w):
 Own Try.prog main F Stop (G (((Go.Conc.base 43).at ⟨A,[]⟩ [.inRegion (oC kpor3) [5,6,7,8,9,10],.code kpos5]).finish (.tuple #[.int .i64 (i:Nat),.bool true])) cs) w:=by
 obtain⟨hsz,h0,h1,_⟩:=hA
 obtain⟨s,rfl⟩:=kpoT_of hsz
 change s 0=_ at h0
 change s 1=_ at h1
 clear hsz
 simp only[kpoT,h0,h1]
 clear h0 h1
 rw[Frame.finish_at]
 simp only[kpor3,kpoBody,Try.f43,zz,Nat.reduceAdd]
 walk_nrm
 iterate 5 (refine oW fun dd K hK=>?_;go_simp;refine qT hK ?_;clear hK K)
 refine ogE ?_
 refine ogSE kpos5' ?_
 refine ogSR kpos6' kpor4' ?_
 simp only[kpor4,kpoBody,Try.f43,zz,Nat.reduceAdd]
 iterate 2 (refine oW fun dd K hK=>?_;go_simp;refine qT hK ?_;clear hK K)
 refine ogE ?_
 rw[kpoc21']
 refine ogF ?_
 simp only[Bool.false_eq_true,if_false]
 refine ogK ?_
 refine ogSR kpos8' kpor6' ?_
 simp only[kpor6,kpoBody,Try.f43,zz,Nat.reduceAdd]
 (refine oW fun dd K hK=>?_;go_simp;refine qT hK ?_;clear hK K)
 refine oc callable79 #[sv] ?_
 refine h _ ?_
 exact⟨rfl,rfl,rfl,rfl,trivial⟩
theorem po_2{sv:Value}{kb:Nat}{v:Int}{nb m i:Nat}(hi:i<m)(hs:KH kb nb m w)(hc:w.cell? ⟨nb,i*2+1,none⟩=some (.int .i64 v)){A:Array Value}(hA:Slots 40 A [(0,.pointer (some ⟨kb,0,none⟩)),(1,sv),(6,.int .i64 (i:Nat))]){cs:List Frame}{main:Bool}{Stop:Goroutine→World→Prop}
 (h:∀A,Slots 40 A [(0,.pointer (some ⟨kb,0,none⟩)),(1,sv),(6,.int .i64 (i:Nat)),(8,.int .i64 v)]→Own Try.prog main F Stop (G (Frame.enter Try.prog 80 #[.pointer (some ⟨kb,0,none⟩),sv,.pointer (some ⟨kb,1,none⟩),.int .i64 (i:Nat)] .normal) (((Go.Conc.base 43).at ⟨A,[]⟩ [.inRegion (oC kpor8) [6],.code kpos11])::cs)) w):
 Own Try.prog main F Stop (G (((Go.Conc.base 43).at ⟨A,[]⟩ [.inRegion (oC kpor6) [1],.code kpos9]).finish (.tuple #[])) (cs)) w:=by
 obtain⟨hsz,h0,h1,h6,_⟩:=hA
 obtain⟨s,rfl⟩:=kpoT_of hsz
 change s 0=_ at h0
 change s 1=_ at h1
 change s 6=_ at h6
 clear hsz
 simp only[kpoT,h0,h1,h6]
 clear h0 h1 h6
 have c2:=hs.c2
 rw[Frame.finish_at]
 simp only[kpor6,kpoBody,Try.f43,zz,Nat.reduceAdd]
 walk_nrm
 refine ogE ?_
 refine ogSR kpos9' kpor7' ?_
 simp only[kpor7,kpoBody,Try.f43,zz,Nat.reduceAdd]
 iterate 3 (refine oW fun dd K hK=>?_;go_simp;refine qT hK ?_;clear hK K)
 (refine oW fun dd K hK=>?_;go_simp;refine qL hK ?_;clear hK K)
 (refine oW fun dd K hK=>?_;go_simp;refine qT hK ?_;clear hK K)
 (refine oW fun dd K hK=>?_;go_simp;refine qX hK ?_;clear hK K)
 (refine oW fun dd K hK=>?_;go_simp;refine qT hK ?_;clear hK K)
 refine oc callable54 #[.pointer (some ⟨nb,i*2+1,none⟩)] ?_
 refine own_ldI hc rfl ?_
 rw[Frame.finish_at]
 walk_nrm
 (refine oW fun dd K hK=>?_;go_simp;refine qT hK ?_;clear hK K)
 refine ogE ?_
 refine ogSR kpos10' kpor8' ?_
 simp only[kpor8,kpoBody,Try.f43,zz,Nat.reduceAdd]
 iterate 6 (refine oW fun dd K hK=>?_;go_simp;refine qT hK ?_;clear hK K)
 refine oc callable80 #[.pointer (some ⟨kb,0,none⟩),sv,.pointer (some ⟨kb,1,none⟩),.int .i64 (i:Nat)] ?_
 refine h _ ?_
 exact⟨rfl,rfl,rfl,rfl,rfl,trivial⟩
theorem po_3{sv:Value}{kb:Nat}{v:Int}{i:Nat}{A:Array Value}(hA:Slots 40 A [(0,.pointer (some ⟨kb,0,none⟩)),(1,sv),(6,.int .i64 (i:Nat)),(8,.int .i64 v)]){c:Frame}{cs:List Frame}{main:Bool}{Stop:Goroutine→World→Prop}
 (h:Own Try.prog main F Stop (G (c.finish (.tuple #[.int .i64 v,.bool true])) cs) w):
 Own Try.prog main F Stop (G (((Go.Conc.base 43).at ⟨A,[]⟩ [.inRegion (oC kpor8) [6],.code kpos11]).finish (.tuple #[])) (c::cs)) w:=by
 obtain⟨hsz,h0,h1,h6,h8,_⟩:=hA
 obtain⟨s,rfl⟩:=kpoT_of hsz
 change s 0=_ at h0
 change s 1=_ at h1
 change s 6=_ at h6
 change s 8=_ at h8
 clear hsz
 simp only[kpoT,h0,h1,h6,h8]
 clear h0 h1 h6 h8
 rw[Frame.finish_at]
 simp only[kpor8,kpoBody,Try.f43,zz,Nat.reduceAdd]
 walk_nrm
 refine ogE ?_
 refine ogSR kpos11' kpor9' ?_
 simp only[kpor9,kpoBody,Try.f43,zz,Nat.reduceAdd]
 iterate 3 (refine oW fun dd K hK=>?_;go_simp;refine qT hK ?_;clear hK K)
 refine ogE ?_
 refine ogX ?_
 refine own_go rfl (fun d=>stepG_leave (fn:=Try.f43) (v:=.tuple #[.int .i64 v,.bool true]) rfl rfl Try.func43 (by simp[results,Try.f43]) (by simp[results,Try.f43,go_sem])) ?_
 exact h
def kpeBody:Code:=Try.f44.body.getD .skip
def kpes0:=pC [] kpeBody
def kper0:=pC [zt] kpeBody
def kpes1:=pC [zf] kpeBody
def kpes2:=pC [zf,zt] kpeBody
def kper1:=pC [zf,zt,zt] kpeBody
def kpec10:=pC [zf,zt,zf] kpeBody
def kpes3:=pC [zf,zt,zf,zt] kpeBody
def kpes4:=pC [zf,zf] kpeBody
def kper3:=pC [zf,zf,zt] kpeBody
def kpes5:=pC [zf,zf,zf] kpeBody
def kper4:=pC [zf,zf,zf,zt] kpeBody
def kpes6:=pC [zf,zf,zf,zf] kpeBody
def kpeb0:=pC [zf,zf,zf,zf,zt] kpeBody
def kpel7:=pC [zf,zf,zf,zf,zt,zt] kpeBody
def kpes8:=pC [zf,zf,zf,zf,zt,zt,zt] kpeBody
def kpes9:=pC [zf,zf,zf,zf,zt,zt,zt,zt] kpeBody
def kper5:=pC [zf,zf,zf,zf,zt,zt,zt,zt,zt] kpeBody
def kpec19:=pC [zf,zf,zf,zf,zt,zt,zt,zt,zf] kpeBody
def kpeb1:=pC [zf,zf,zf,zf,zt,zt,zt,zf] kpeBody
def kpes10:=pC [zf,zf,zf,zf,zt,zt,zt,zf,zt] kpeBody
def kper6:=pC [zf,zf,zf,zf,zt,zt,zt,zf,zt,zt] kpeBody
def kpes11:=pC [zf,zf,zf,zf,zt,zt,zt,zf,zt,zf] kpeBody
def kper7:=pC [zf,zf,zf,zf,zt,zt,zt,zf,zt,zf,zt] kpeBody
def kpes12:=pC [zf,zf,zf,zf,zt,zt,zt,zf,zt,zf,zf] kpeBody
def kper8:=pC [zf,zf,zf,zf,zt,zt,zt,zf,zt,zf,zf,zt] kpeBody
def kpes13:=pC [zf,zf,zf,zf,zt,zt,zt,zf,zt,zf,zf,zf] kpeBody
def kper9:=pC [zf,zf,zf,zf,zt,zt,zt,zf,zt,zf,zf,zf,zt] kpeBody
def kpes14:=pC [zf,zf,zf,zf,zt,zt,zt,zf,zt,zf,zf,zf,zf] kpeBody
def kpes15:=pC [zf,zf,zf,zf,zt,zt,zt,zf,zt,zf,zf,zf,zf,zt] kpeBody
def kper10:=pC [zf,zf,zf,zf,zt,zt,zt,zf,zt,zf,zf,zf,zf,zt,zt] kpeBody
def kpec39:=pC [zf,zf,zf,zf,zt,zt,zt,zf,zt,zf,zf,zf,zf,zt,zf] kpeBody
def kpes16:=pC [zf,zf,zf,zf,zt,zt,zt,zf,zt,zf,zf,zf,zf,zt,zf,zt] kpeBody
def kper11:=pC [zf,zf,zf,zf,zt,zt,zt,zf,zt,zf,zf,zf,zf,zt,zf,zt,zt] kpeBody
def kper12:=pC [zf,zf,zf,zf,zt,zt,zt,zf,zt,zf,zf,zf,zf,zf] kpeBody
def kpes17:=pC [zf,zf,zf,zf,zf] kpeBody
def kper13:=pC [zf,zf,zf,zf,zf,zt] kpeBody
theorem kpes0':kpes0= .seq kper0 kpes1:=by kernel_rfl
theorem kper0':kper0= .region 0 (oC kper0) false:=by kernel_rfl
theorem kpes1':kpes1= .seq kpes2 kpes4:=by kernel_rfl
theorem kpes2':kpes2= .seq kper1 kpec10:=by kernel_rfl
theorem kper1':kper1= .region 1 (oC kper1) false:=by kernel_rfl
theorem kpec10':kpec10= .cond (.tmp 10) kpes3 .skip:=by kernel_rfl
theorem kpes4':kpes4= .seq kper3 kpes5:=by kernel_rfl
theorem kper3':kper3= .region 3 (oC kper3) false:=by kernel_rfl
theorem kpes5':kpes5= .seq kper4 kpes6:=by kernel_rfl
theorem kper4':kper4= .region 4 (oC kper4) false:=by kernel_rfl
theorem kpes6':kpes6= .seq kpeb0 kpes17:=by kernel_rfl
theorem kpeb0':kpeb0= .block 0 kpel7:=by kernel_rfl
theorem kpel7':kpel7= .loop kpes8:=by kernel_rfl
theorem kpes8':kpes8= .seq kpes9 kpeb1:=by kernel_rfl
theorem kpes9':kpes9= .seq kper5 kpec19:=by kernel_rfl
theorem kper5':kper5= .region 5 (oC kper5) false:=by kernel_rfl
theorem kpec19':kpec19= .cond (.tmp 19) .skip (.exit 0):=by kernel_rfl
theorem kpeb1':kpeb1= .block 1 kpes10:=by kernel_rfl
theorem kpes10':kpes10= .seq kper6 kpes11:=by kernel_rfl
theorem kper6':kper6= .region 6 (oC kper6) false:=by kernel_rfl
theorem kpes11':kpes11= .seq kper7 kpes12:=by kernel_rfl
theorem kper7':kper7= .region 7 (oC kper7) true:=by kernel_rfl
theorem kpes12':kpes12= .seq kper8 kpes13:=by kernel_rfl
theorem kper8':kper8= .region 8 (oC kper8) false:=by kernel_rfl
theorem kpes13':kpes13= .seq kper9 kpes14:=by kernel_rfl
theorem kper9':kper9= .region 9 (oC kper9) false:=by kernel_rfl
theorem kpes14':kpes14= .seq kpes15 kper12:=by kernel_rfl
theorem kpes15':kpes15= .seq kper10 kpec39:=by kernel_rfl
theorem kper10':kper10= .region 10 (oC kper10) false:=by kernel_rfl
theorem kpec39':kpec39= .cond (.tmp 39) kpes16 .skip:=by kernel_rfl
theorem kpes16':kpes16= .seq kper11 .ret:=by kernel_rfl
theorem kper11':kper11= .region 11 (oC kper11) false:=by kernel_rfl
theorem kper12':kper12= .region 12 (oC kper12) false:=by kernel_rfl
theorem kpes17':kpes17= .seq kper13 .ret:=by kernel_rfl
theorem kper13':kper13= .region 13 (oC kper13) false:=by kernel_rfl
theorem enter_kpe(args:Array Value):Frame.enter Try.prog 44 args .normal=(Go.Conc.base 44).at {tmps:=args++Array.replicate (42 - args.size) undef,defers:=[]} [.code kpes0]:=enter_at args Try.func44 rfl
theorem callable44:Callable 44:=callable Try.func44 rfl rfl
def kpeT(s:Nat→Value):Array Value:= #[s 0,s 1,s 2,s 3,s 4,s 5,s 6,s 7,s 8,s 9,s 10,s 11,s 12,s 13,s 14,s 15,s 16,s 17,s 18,s 19,s 20,s 21,s 22,s 23,s 24,s 25,s 26,s 27,s 28,s 29,s 30,s 31,s 32,s 33,s 34,s 35,s 36,s 37,s 38,s 39,s 40,s 41]
theorem kpeT_of{A:Array Value}(h:A.size=42):∃s,A=kpeT s:=by
 obtain⟨s,hs,_⟩:=arr_lit A h
 exact⟨s,hs⟩
theorem pk_0{sv:Value}{kb:Nat}{cs:List Frame}{main:Bool}{Stop:Goroutine→World→Prop}
 (h:∀A,Slots 42 A [(0,.pointer (some ⟨kb,0,none⟩)),(1,sv)]→Own Try.prog main F Stop (G (Frame.enter Try.prog 79 #[sv] .normal) (((Go.Conc.base 44).at ⟨A,[]⟩ [.inRegion (oC kper3) [1],.code kpes5])::cs)) w):
 Own Try.prog main F Stop (G (Frame.enter Try.prog 44 #[.pointer (some ⟨kb,0,none⟩),sv] .normal) cs) w:=by
 rw[enter_kpe]
 walk_nrm
 refine ogSR kpes0' kper0' ?_
 simp only[kper0,kpeBody,Try.f44,zz,Nat.reduceAdd]
 iterate 2 (refine oW fun dd K hK=>?_;go_simp;refine qT hK ?_;clear hK K)
 refine ogE ?_
 refine ogSE kpes1' ?_
 refine ogSR kpes2' kper1' ?_
 simp only[kper1,kpeBody,Try.f44,zz,Nat.reduceAdd]
 iterate 2 (refine oW fun dd K hK=>?_;go_simp;refine qT hK ?_;clear hK K)
 refine ogE ?_
 rw[kpec10']
 refine ogF ?_
 simp only[Bool.false_eq_true,if_false]
 refine ogK ?_
 refine ogSR kpes4' kper3' ?_
 simp only[kper3,kpeBody,Try.f44,zz,Nat.reduceAdd]
 (refine oW fun dd K hK=>?_;go_simp;refine qT hK ?_;clear hK K)
 refine oc callable79 #[sv] ?_
 refine h _ ?_
 exact⟨rfl,rfl,rfl,trivial⟩
theorem pk_1a{sv:Value}{kb:Nat}{n t:Int}(hn: -1≤n∧n<65536)(ht:0≤t∧t<2147483648)(hneg:n<0)(hc:w.cell? ⟨kb,0,none⟩=some (.int .u64 (pk (n,t)))){A:Array Value}(hA:Slots 42 A [(0,.pointer (some ⟨kb,0,none⟩)),(1,sv)]){c:Frame}{cs:List Frame}{main:Bool}{Stop:Goroutine→World→Prop}
 (h:Own Try.prog main F Stop (G (c.finish (.tuple #[.int .i64 0,.bool false])) cs) w):
 Own Try.prog main F Stop (G (((Go.Conc.base 44).at ⟨A,[]⟩ [.inRegion (oC kper3) [1],.code kpes5]).finish (.tuple #[])) (c::cs)) w:=by
 obtain⟨hsz,h0,h1,_⟩:=hA
 obtain⟨s,rfl⟩:=kpeT_of hsz
 change s 0=_ at h0
 change s 1=_ at h1
 clear hsz
 simp only[kpeT,h0,h1]
 clear h0 h1
 have hneg2:¬0≤n:=by omega
 rw[Frame.finish_at]
 simp only[kper3,kpeBody,Try.f44,zz,Nat.reduceAdd]
 walk_nrm
 refine ogE ?_
 refine ogSR kpes5' kper4' ?_
 simp only[kper4,kpeBody,Try.f44,zz,Nat.reduceAdd]
 iterate 3 (refine oW fun dd K hK=>?_;go_simp;refine qT hK ?_;clear hK K)
 refine oc callable76 #[.pointer (some ⟨kb,0,none⟩)] ?_
 refine own_ldU hc rfl ?_
 rw[Frame.finish_at]
 walk_nrm
 (refine oW fun dd K hK=>?_;go_simp;refine qT hK ?_;clear hK K)
 refine ogE ?_
 refine ogSE kpes6' ?_
 rw[kpeb0']
 refine ogB ?_
 rw[kpel7']
 refine ogP ?_
 refine ogSE kpes8' ?_
 refine ogSR kpes9' kper5' ?_
 simp only[kper5,kpeBody,Try.f44,zz,Nat.reduceAdd]
 (refine oW fun dd K hK=>?_;go_simp;refine qT hK ?_;clear hK K)
 refine oc callable77 #[.int .u64 (pk (n,t))] ?_
 refine own_of hn ht ?_
 rw[Frame.finish_at]
 walk_nrm
 (refine oW fun dd K hK=>?_;go_simp;refine qT hK ?_;clear hK K)
 refine ogE ?_
 rw[kpec19']
 refine ogF ?_
 simp only[Bool.false_eq_true,if_false]
 refine own_go rfl (fun d=>stepG_exit rfl) ?_
 refine ogSR kpes17' kper13' ?_
 simp only[kper13,kpeBody,Try.f44,zz,Nat.reduceAdd]
 iterate 2 (refine oW fun dd K hK=>?_;go_simp;refine qT hK ?_;clear hK K)
 refine ogE ?_
 refine ogX ?_
 refine own_go rfl (fun d=>stepG_leave (fn:=Try.f44) (v:=.tuple #[.int .i64 0,.bool false]) rfl rfl Try.func44 (by simp[results,Try.f44]) (by simp[results,Try.f44,go_sem])) ?_
 exact h
theorem pk_1b{sv:Value}{kb:Nat}{i:Nat}{t:Int}(hn:(-1:Int)≤(i:Nat)∧((i:Nat):Int)<65536)(ht:0≤t∧t<2147483648)(hc:w.cell? ⟨kb,0,none⟩=some (.int .u64 (pk ((i:Nat),t)))){A:Array Value}(hA:Slots 42 A [(0,.pointer (some ⟨kb,0,none⟩)),(1,sv)]){cs:List Frame}{main:Bool}{Stop:Goroutine→World→Prop}
 (h:∀A,Slots 42 A [(0,.pointer (some ⟨kb,0,none⟩)),(1,sv),(6,.int .u64 (pk ((i:Nat),t)))]→Own Try.prog main F Stop (G (Frame.enter Try.prog 79 #[sv] .normal) (((Go.Conc.base 44).at ⟨A,[]⟩ [.inRegion (oC kper6) [1],.code kpes11,.inBlock 1,.inLoop kpes8,.inBlock 0,.code kpes17])::cs)) w):
 Own Try.prog main F Stop (G (((Go.Conc.base 44).at ⟨A,[]⟩ [.inRegion (oC kper3) [1],.code kpes5]).finish (.tuple #[])) (cs)) w:=by
 obtain⟨hsz,h0,h1,_⟩:=hA
 obtain⟨s,rfl⟩:=kpeT_of hsz
 change s 0=_ at h0
 change s 1=_ at h1
 clear hsz
 simp only[kpeT,h0,h1]
 clear h0 h1
 rw[Frame.finish_at]
 simp only[kper3,kpeBody,Try.f44,zz,Nat.reduceAdd]
 walk_nrm
 refine ogE ?_
 refine ogSR kpes5' kper4' ?_
 simp only[kper4,kpeBody,Try.f44,zz,Nat.reduceAdd]
 iterate 3 (refine oW fun dd K hK=>?_;go_simp;refine qT hK ?_;clear hK K)
 refine oc callable76 #[.pointer (some ⟨kb,0,none⟩)] ?_
 refine own_ldU hc rfl ?_
 rw[Frame.finish_at]
 walk_nrm
 (refine oW fun dd K hK=>?_;go_simp;refine qT hK ?_;clear hK K)
 refine ogE ?_
 refine ogSE kpes6' ?_
 rw[kpeb0']
 refine ogB ?_
 rw[kpel7']
 refine ogP ?_
 refine ogSE kpes8' ?_
 refine ogSR kpes9' kper5' ?_
 simp only[kper5,kpeBody,Try.f44,zz,Nat.reduceAdd]
 (refine oW fun dd K hK=>?_;go_simp;refine qT hK ?_;clear hK K)
 refine oc callable77 #[.int .u64 (pk ((i:Nat),t))] ?_
 refine own_of hn ht ?_
 rw[Frame.finish_at]
 walk_nrm
 (refine oW fun dd K hK=>?_;go_simp;refine qT hK ?_;clear hK K)
 refine ogE ?_
 rw[kpec19']
 refine ogT ?_
 simp only[if_true]
 refine ogK ?_
 rw[kpeb1']
 refine ogB ?_
 refine ogSR kpes10' kper6' ?_
 simp only[kper6,kpeBody,Try.f44,zz,Nat.reduceAdd]
 (refine oW fun dd K hK=>?_;go_simp;refine qT hK ?_;clear hK K)
 refine oc callable79 #[sv] ?_
 refine h _ ?_
 exact⟨rfl,rfl,rfl,rfl,trivial⟩
theorem pk_2{sv:Value}{kb:Nat}{nb m i:Nat}{t v0:Int}(hn:(-1:Int)≤(i:Nat)∧((i:Nat):Int)<65536)(ht:0≤t∧t<2147483648)(hi:i<m)(hs:KH kb nb m w)(hc:w.cell? ⟨nb,i*2+1,none⟩=some (.int .i64 v0)){A:Array Value}(hA:Slots 42 A [(0,.pointer (some ⟨kb,0,none⟩)),(1,sv),(6,.int .u64 (pk ((i:Nat),t)))]){cs:List Frame}{main:Bool}{Stop:Goroutine→World→Prop}
 (h:∀A,Slots 42 A [(0,.pointer (some ⟨kb,0,none⟩)),(1,sv),(6,.int .u64 (pk ((i:Nat),t))),(7,.int .i64 v0)]→Own Try.prog main F Stop (G (Frame.enter Try.prog 79 #[sv] .normal) (((Go.Conc.base 44).at ⟨A,[]⟩ [.inRegion (oC kper8) [1],.code kpes13,.inBlock 1,.inLoop kpes8,.inBlock 0,.code kpes17])::cs)) w):
 Own Try.prog main F Stop (G (((Go.Conc.base 44).at ⟨A,[]⟩ [.inRegion (oC kper6) [1],.code kpes11,.inBlock 1,.inLoop kpes8,.inBlock 0,.code kpes17]).finish (.tuple #[])) (cs)) w:=by
 obtain⟨hsz,h0,h1,h6,_⟩:=hA
 obtain⟨s,rfl⟩:=kpeT_of hsz
 change s 0=_ at h0
 change s 1=_ at h1
 change s 6=_ at h6
 clear hsz
 simp only[kpeT,h0,h1,h6]
 clear h0 h1 h6
 have hS:∀w d,KH kb nb m w→KH kb nb m (World.at w d):=fun w d h=>h.at d
 rw[Frame.finish_at]
 simp only[kper6,kpeBody,Try.f44,zz,Nat.reduceAdd]
 walk_nrm
 refine ogE ?_
 refine ogSE kpes11' ?_
 rw[kper7']
 refine own_drawnC (KH kb nb m) (last:=9) run_mixed (ll_of (by kernel_rfl)) (by decide) ?_
 simp only[kper7,kpeBody,Try.f44,zz,Nat.reduceAdd]
 refine anyC_take hS (fun _ _ d h=>h.at d) (i:=0) (v:=.pointer (some ⟨kb,0,none⟩)) hs rfl rfl (by kernel_rfl) (by kernel_rfl) (by kernel_rfl) (fun u hu=>.inl ⟨rfl,fun d=>⟨by simp[go_sem,execOp,Act.eval],fun e he=>by have hm:=mem_listed he;simp[go_sem,execOp,Act.eval]at hm⟩⟩) ?_
 walk_nrm
 refine anyC_take hS (fun _ _ d h=>h.at d) (i:=1) (v:=.pointer (some ⟨kb,0,none⟩)) hs rfl rfl (by kernel_rfl) (by kernel_rfl) (by kernel_rfl) (fun u hu=>.inl ⟨rfl,fun d=>⟨by simp[go_sem,execOp,Act.eval],fun e he=>by have hm:=mem_listed he;simp[go_sem,execOp,Act.eval]at hm⟩⟩) ?_
 walk_nrm
 refine anyC_take hS (fun _ _ d h=>h.at d) (i:=2) (v:=.pointer (some ⟨kb,2,none⟩)) hs rfl rfl (by kernel_rfl) (by kernel_rfl) (by kernel_rfl) (fun u hu=>.inl ⟨rfl,fun d=>⟨by simp[go_sem,execOp,Act.eval],fun e he=>by have hm:=mem_listed he;simp[go_sem,execOp,Act.eval]at hm⟩⟩) ?_
 walk_nrm
 refine anyC_take hS (fun _ _ d h=>h.at d) (i:=3) (v:=.slice (some ⟨nb,0,none⟩) m m) hs rfl rfl (by kernel_rfl) (by kernel_rfl) (by kernel_rfl) (fun u hu=>.inl ⟨rfl,fun d=>⟨by simp[go_sem,execOp,Act.eval,hu.c2],fun e he=>by have hm:=mem_listed he;simp[go_sem,execOp,Act.eval,hu.c2]at hm;subst hm;exact evT_read _ _⟩⟩) ?_
 walk_nrm
 refine anyC_take hS (fun _ _ d h=>h.at d) (i:=4) (v:=.int .u64 (pk ((i:Nat),t))) hs rfl rfl (by kernel_rfl) (by kernel_rfl) (by kernel_rfl) (fun u hu=>.inl ⟨rfl,fun d=>⟨by simp[go_sem,execOp,Act.eval],fun e he=>by have hm:=mem_listed he;simp[go_sem,execOp,Act.eval]at hm⟩⟩) ?_
 walk_nrm
 refine anyC_all (r:=[5]) (by kernel_rfl) (by kernel_rfl) (fun j1 hj1 hjl=>?_)
 obtain rfl:j1=5:=by simpa using hj1
 refine⟨_,rfl,.inr (.inr ⟨rfl,77,#[.int .u64 (pk ((i:Nat),t))],fun v w'=>v= .int .i64 (i:Nat)∧w=w',fun w=>by simp[execOp,Act.eval,resolve,invoke,Deferred.ofValue,callable77.run],fun w=>by simp[execOp,Act.eval,resolve,invoke,Deferred.ofValue,callable77.run,callable77.quiet],fun c cs Stop k=>own_of hn ht (k _ _ ⟨rfl,rfl⟩),?_⟩)⟩
 rintro v w' ⟨rfl,rfl⟩
 refine⟨hs,?_⟩
 walk_nrm
 refine anyC_take hS (fun _ _ d h=>h.at d) (i:=6) (v:=.pointer (some ⟨nb,i*2,none⟩)) hs rfl rfl (by kernel_rfl) (by kernel_rfl) (by kernel_rfl) (fun u hu=>.inl ⟨rfl,fun d=>⟨by simp[go_sem,execOp,Act.eval,hi],fun e he=>by have hm:=mem_listed he;simp[go_sem,execOp,Act.eval,hi]at hm⟩⟩) ?_
 walk_nrm
 refine anyC_take hS (fun _ _ d h=>h.at d) (i:=7) (v:=.pointer (some ⟨nb,i*2+1,none⟩)) hs rfl rfl (by kernel_rfl) (by kernel_rfl) (by kernel_rfl) (fun u hu=>.inl ⟨rfl,fun d=>⟨by simp[go_sem,execOp,Act.eval],fun e he=>by have hm:=mem_listed he;simp[go_sem,execOp,Act.eval]at hm⟩⟩) ?_
 walk_nrm
 refine anyC_all (r:=[8]) (by kernel_rfl) (by kernel_rfl) (fun j1 hj1 hjl=>?_)
 obtain rfl:j1=8:=by simpa using hj1
 refine⟨_,rfl,.inr (.inr ⟨rfl,54,#[.pointer (some ⟨nb,i*2+1,none⟩)],fun v w'=>v= .int .i64 v0∧w=w',fun w=>by simp[execOp,Act.eval,resolve,invoke,Deferred.ofValue,callable54.run],fun w=>by simp[execOp,Act.eval,resolve,invoke,Deferred.ofValue,callable54.run,callable54.quiet],fun c cs Stop k=>own_ldI hc rfl (k _ _ ⟨rfl,rfl⟩),?_⟩)⟩
 rintro v w' ⟨rfl,rfl⟩
 refine⟨hs,?_⟩
 walk_nrm
 refine anyC_end (by kernel_rfl) ?_ _
 (refine oW fun dd K hK=>?_;go_simp;refine qT hK ?_;clear hK K)
 refine ogE ?_
 refine ogSR kpes12' kper8' ?_
 simp only[kper8,kpeBody,Try.f44,zz,Nat.reduceAdd]
 (refine oW fun dd K hK=>?_;go_simp;refine qT hK ?_;clear hK K)
 refine oc callable79 #[sv] ?_
 refine h _ ?_
 exact⟨rfl,rfl,rfl,rfl,rfl,trivial⟩
theorem pk_3a{sv:Value}{kb:Nat}{v:Int}{i:Nat}{n t u:Int}(heq:(pk (n,u) == pk ((i:Nat),t))=true)(hc:w.cell? ⟨kb,0,none⟩=some (.int .u64 (pk (n,u)))){A:Array Value}(hA:Slots 42 A [(0,.pointer (some ⟨kb,0,none⟩)),(1,sv),(6,.int .u64 (pk ((i:Nat),t))),(7,.int .i64 v)]){c:Frame}{cs:List Frame}{main:Bool}{Stop:Goroutine→World→Prop}
 (h:Own Try.prog main F Stop (G (c.finish (.tuple #[.int .i64 v,.bool true])) cs) w):
 Own Try.prog main F Stop (G (((Go.Conc.base 44).at ⟨A,[]⟩ [.inRegion (oC kper8) [1],.code kpes13,.inBlock 1,.inLoop kpes8,.inBlock 0,.code kpes17]).finish (.tuple #[])) (c::cs)) w:=by
 obtain⟨hsz,h0,h1,h6,h7,_⟩:=hA
 obtain⟨s,rfl⟩:=kpeT_of hsz
 change s 0=_ at h0
 change s 1=_ at h1
 change s 6=_ at h6
 change s 7=_ at h7
 clear hsz
 simp only[kpeT,h0,h1,h6,h7]
 clear h0 h1 h6 h7
 rw[Frame.finish_at]
 simp only[kper8,kpeBody,Try.f44,zz,Nat.reduceAdd]
 walk_nrm
 refine ogE ?_
 refine ogSR kpes13' kper9' ?_
 simp only[kper9,kpeBody,Try.f44,zz,Nat.reduceAdd]
 iterate 3 (refine oW fun dd K hK=>?_;go_simp;refine qT hK ?_;clear hK K)
 refine oc callable76 #[.pointer (some ⟨kb,0,none⟩)] ?_
 refine own_ldU hc rfl ?_
 rw[Frame.finish_at]
 walk_nrm
 (refine oW fun dd K hK=>?_;go_simp;refine qT hK ?_;clear hK K)
 refine ogE ?_
 refine ogSE kpes14' ?_
 refine ogSR kpes15' kper10' ?_
 simp only[kper10,kpeBody,Try.f44,zz,Nat.reduceAdd]
 iterate 3 (refine oW fun dd K hK=>?_;go_simp;refine qT hK ?_;clear hK K)
 refine ogE ?_
 rw[kpec39']
 refine ogT ?_
 simp only[if_true]
 refine ogSR kpes16' kper11' ?_
 simp only[kper11,kpeBody,Try.f44,zz,Nat.reduceAdd]
 iterate 3 (refine oW fun dd K hK=>?_;go_simp;refine qT hK ?_;clear hK K)
 refine ogE ?_
 refine ogX ?_
 refine own_go rfl (fun d=>stepG_leave (fn:=Try.f44) (v:=.tuple #[.int .i64 v,.bool true]) rfl rfl Try.func44 (by simp[results,Try.f44]) (by simp[results,Try.f44,go_sem])) ?_
 exact h
theorem pk_3b{sv:Value}{kb:Nat}{v:Int}{i:Nat}{n t u:Int}(heq:(pk (n,u) == pk ((i:Nat),t))=false)(hn: -1≤n∧n<65536)(ht:0≤u∧u<2147483648)(hneg:n<0)(hc:w.cell? ⟨kb,0,none⟩=some (.int .u64 (pk (n,u)))){A:Array Value}(hA:Slots 42 A [(0,.pointer (some ⟨kb,0,none⟩)),(1,sv),(6,.int .u64 (pk ((i:Nat),t))),(7,.int .i64 v)]){c:Frame}{cs:List Frame}{main:Bool}{Stop:Goroutine→World→Prop}
 (h:Own Try.prog main F Stop (G (c.finish (.tuple #[.int .i64 0,.bool false])) cs) w):
 Own Try.prog main F Stop (G (((Go.Conc.base 44).at ⟨A,[]⟩ [.inRegion (oC kper8) [1],.code kpes13,.inBlock 1,.inLoop kpes8,.inBlock 0,.code kpes17]).finish (.tuple #[])) (c::cs)) w:=by
 obtain⟨hsz,h0,h1,h6,h7,_⟩:=hA
 obtain⟨s,rfl⟩:=kpeT_of hsz
 change s 0=_ at h0
 change s 1=_ at h1
 change s 6=_ at h6
 change s 7=_ at h7
 clear hsz
 simp only[kpeT,h0,h1,h6,h7]
 clear h0 h1 h6 h7
 have hneg2:¬0≤n:=by omega
 rw[Frame.finish_at]
 simp only[kper8,kpeBody,Try.f44,zz,Nat.reduceAdd]
 walk_nrm
 refine ogE ?_
 refine ogSR kpes13' kper9' ?_
 simp only[kper9,kpeBody,Try.f44,zz,Nat.reduceAdd]
 iterate 3 (refine oW fun dd K hK=>?_;go_simp;refine qT hK ?_;clear hK K)
 refine oc callable76 #[.pointer (some ⟨kb,0,none⟩)] ?_
 refine own_ldU hc rfl ?_
 rw[Frame.finish_at]
 walk_nrm
 (refine oW fun dd K hK=>?_;go_simp;refine qT hK ?_;clear hK K)
 refine ogE ?_
 refine ogSE kpes14' ?_
 refine ogSR kpes15' kper10' ?_
 simp only[kper10,kpeBody,Try.f44,zz,Nat.reduceAdd]
 iterate 3 (refine oW fun dd K hK=>?_;go_simp;refine qT hK ?_;clear hK K)
 refine ogE ?_
 rw[kpec39']
 refine ogF ?_
 simp only[Bool.false_eq_true,if_false]
 refine ogK ?_
 rw[kper12']
 refine ogR ?_
 simp only[kper12,kpeBody,Try.f44,zz,Nat.reduceAdd]
 iterate 2 (refine oW fun dd K hK=>?_;go_simp;refine qT hK ?_;clear hK K)
 refine ogE ?_
 refine ogI ?_
 refine ogL ?_
 refine ogSE kpes8' ?_
 refine ogSR kpes9' kper5' ?_
 simp only[kper5,kpeBody,Try.f44,zz,Nat.reduceAdd]
 (refine oW fun dd K hK=>?_;go_simp;refine qT hK ?_;clear hK K)
 refine oc callable77 #[.int .u64 (pk (n,u))] ?_
 refine own_of hn ht ?_
 rw[Frame.finish_at]
 walk_nrm
 (refine oW fun dd K hK=>?_;go_simp;refine qT hK ?_;clear hK K)
 refine ogE ?_
 rw[kpec19']
 refine ogF ?_
 simp only[Bool.false_eq_true,if_false]
 refine own_go rfl (fun d=>stepG_exit rfl) ?_
 refine ogSR kpes17' kper13' ?_
 simp only[kper13,kpeBody,Try.f44,zz,Nat.reduceAdd]
 iterate 2 (refine oW fun dd K hK=>?_;go_simp;refine qT hK ?_;clear hK K)
 refine ogE ?_
 refine ogX ?_
 refine own_go rfl (fun d=>stepG_leave (fn:=Try.f44) (v:=.tuple #[.int .i64 0,.bool false]) rfl rfl Try.func44 (by simp[results,Try.f44]) (by simp[results,Try.f44,go_sem])) ?_
 exact h
theorem pk_3c{sv:Value}{kb:Nat}{v:Int}{i j:Nat}{t u:Int}(heq:(pk ((j:Nat),u) == pk ((i:Nat),t))=false)(hn:(-1:Int)≤(j:Nat)∧((j:Nat):Int)<65536)(ht:0≤u∧u<2147483648)(hc:w.cell? ⟨kb,0,none⟩=some (.int .u64 (pk ((j:Nat),u)))){A:Array Value}(hA:Slots 42 A [(0,.pointer (some ⟨kb,0,none⟩)),(1,sv),(6,.int .u64 (pk ((i:Nat),t))),(7,.int .i64 v)]){cs:List Frame}{main:Bool}{Stop:Goroutine→World→Prop}
 (h:∀A,Slots 42 A [(0,.pointer (some ⟨kb,0,none⟩)),(1,sv),(6,.int .u64 (pk ((j:Nat),u)))]→Own Try.prog main F Stop (G (Frame.enter Try.prog 79 #[sv] .normal) (((Go.Conc.base 44).at ⟨A,[]⟩ [.inRegion (oC kper6) [1],.code kpes11,.inBlock 1,.inLoop kpes8,.inBlock 0,.code kpes17])::cs)) w):
 Own Try.prog main F Stop (G (((Go.Conc.base 44).at ⟨A,[]⟩ [.inRegion (oC kper8) [1],.code kpes13,.inBlock 1,.inLoop kpes8,.inBlock 0,.code kpes17]).finish (.tuple #[])) (cs)) w:=by
 obtain⟨hsz,h0,h1,h6,h7,_⟩:=hA
 obtain⟨s,rfl⟩:=kpeT_of hsz
 change s 0=_ at h0
 change s 1=_ at h1
 change s 6=_ at h6
 change s 7=_ at h7
 clear hsz
 simp only[kpeT,h0,h1,h6,h7]
 clear h0 h1 h6 h7
 rw[Frame.finish_at]
 simp only[kper8,kpeBody,Try.f44,zz,Nat.reduceAdd]
 walk_nrm
 refine ogE ?_
 refine ogSR kpes13' kper9' ?_
 simp only[kper9,kpeBody,Try.f44,zz,Nat.reduceAdd]
 iterate 3 (refine oW fun dd K hK=>?_;go_simp;refine qT hK ?_;clear hK K)
 refine oc callable76 #[.pointer (some ⟨kb,0,none⟩)] ?_
 refine own_ldU hc rfl ?_
 rw[Frame.finish_at]
 walk_nrm
 (refine oW fun dd K hK=>?_;go_simp;refine qT hK ?_;clear hK K)
 refine ogE ?_
 refine ogSE kpes14' ?_
 refine ogSR kpes15' kper10' ?_
 simp only[kper10,kpeBody,Try.f44,zz,Nat.reduceAdd]
 iterate 3 (refine oW fun dd K hK=>?_;go_simp;refine qT hK ?_;clear hK K)
 refine ogE ?_
 rw[kpec39']
 refine ogF ?_
 simp only[Bool.false_eq_true,if_false]
 refine ogK ?_
 rw[kper12']
 refine ogR ?_
 simp only[kper12,kpeBody,Try.f44,zz,Nat.reduceAdd]
 iterate 2 (refine oW fun dd K hK=>?_;go_simp;refine qT hK ?_;clear hK K)
 refine ogE ?_
 refine ogI ?_
 refine ogL ?_
 refine ogSE kpes8' ?_
 refine ogSR kpes9' kper5' ?_
 simp only[kper5,kpeBody,Try.f44,zz,Nat.reduceAdd]
 (refine oW fun dd K hK=>?_;go_simp;refine qT hK ?_;clear hK K)
 refine oc callable77 #[.int .u64 (pk ((j:Nat),u))] ?_
 refine own_of hn ht ?_
 rw[Frame.finish_at]
 walk_nrm
 (refine oW fun dd K hK=>?_;go_simp;refine qT hK ?_;clear hK K)
 refine ogE ?_
 rw[kpec19']
 refine ogT ?_
 simp only[if_true]
 refine ogK ?_
 rw[kpeb1']
 refine ogB ?_
 refine ogSR kpes10' kper6' ?_
 simp only[kper6,kpeBody,Try.f44,zz,Nat.reduceAdd]
 (refine oW fun dd K hK=>?_;go_simp;refine qT hK ?_;clear hK K)
 refine oc callable79 #[sv] ?_
 refine h _ ?_
 exact⟨rfl,rfl,rfl,rfl,trivial⟩
def kemBody:Code:=Try.f46.body.getD .skip
def kems0:=pC [] kemBody
def kemr0:=pC [zt] kemBody
def kems1:=pC [zf] kemBody
def kems2:=pC [zf,zt] kemBody
def kemr1:=pC [zf,zt,zt] kemBody
def kemc6:=pC [zf,zt,zf] kemBody
def kems3:=pC [zf,zt,zf,zt] kemBody
def kems4:=pC [zf,zf] kemBody
def kemr3:=pC [zf,zf,zt] kemBody
def kems5:=pC [zf,zf,zf] kemBody
def kemr4:=pC [zf,zf,zf,zt] kemBody
theorem kems0':kems0= .seq kemr0 kems1:=by kernel_rfl
theorem kemr0':kemr0= .region 0 (oC kemr0) false:=by kernel_rfl
theorem kems1':kems1= .seq kems2 kems4:=by kernel_rfl
theorem kems2':kems2= .seq kemr1 kemc6:=by kernel_rfl
theorem kemr1':kemr1= .region 1 (oC kemr1) false:=by kernel_rfl
theorem kemc6':kemc6= .cond (.tmp 6) kems3 .skip:=by kernel_rfl
theorem kems4':kems4= .seq kemr3 kems5:=by kernel_rfl
theorem kemr3':kemr3= .region 3 (oC kemr3) false:=by kernel_rfl
theorem kems5':kems5= .seq kemr4 .ret:=by kernel_rfl
theorem kemr4':kemr4= .region 4 (oC kemr4) false:=by kernel_rfl
theorem enter_kem(args:Array Value):Frame.enter Try.prog 46 args .normal=(Go.Conc.base 46).at {tmps:=args++Array.replicate (15 - args.size) undef,defers:=[]} [.code kems0]:=enter_at args Try.func46 rfl
theorem callable46:Callable 46:=callable Try.func46 rfl rfl
def kemT(s:Nat→Value):Array Value:= #[s 0,s 1,s 2,s 3,s 4,s 5,s 6,s 7,s 8,s 9,s 10,s 11,s 12,s 13,s 14]
theorem kemT_of{A:Array Value}(h:A.size=15):∃s,A=kemT s:=by
 obtain⟨s,hs,_⟩:=arr_lit A h
 exact⟨s,hs⟩
theorem em_0{sv:Value}{kb:Nat}{cs:List Frame}{main:Bool}{Stop:Goroutine→World→Prop}
 (h:∀A,Slots 15 A [(0,.pointer (some ⟨kb,0,none⟩)),(1,sv)]→Own Try.prog main F Stop (G (Frame.enter Try.prog 79 #[sv] .normal) (((Go.Conc.base 46).at ⟨A,[]⟩ [.inRegion (oC kemr3) [1],.code kems5])::cs)) w):
 Own Try.prog main F Stop (G (Frame.enter Try.prog 46 #[.pointer (some ⟨kb,0,none⟩),sv] .normal) cs) w:=by
 rw[enter_kem]
 walk_nrm
 refine ogSR kems0' kemr0' ?_
 simp only[kemr0,kemBody,Try.f46,zz,Nat.reduceAdd]
 (refine oW fun dd K hK=>?_;go_simp;refine qT hK ?_;clear hK K)
 refine ogE ?_
 refine ogSE kems1' ?_
 refine ogSR kems2' kemr1' ?_
 simp only[kemr1,kemBody,Try.f46,zz,Nat.reduceAdd]
 iterate 2 (refine oW fun dd K hK=>?_;go_simp;refine qT hK ?_;clear hK K)
 refine ogE ?_
 rw[kemc6']
 refine ogF ?_
 simp only[Bool.false_eq_true,if_false]
 refine ogK ?_
 refine ogSR kems4' kemr3' ?_
 simp only[kemr3,kemBody,Try.f46,zz,Nat.reduceAdd]
 (refine oW fun dd K hK=>?_;go_simp;refine qT hK ?_;clear hK K)
 refine oc callable79 #[sv] ?_
 refine h _ ?_
 exact⟨rfl,rfl,rfl,trivial⟩
theorem em_1{sv:Value}{kb:Nat}{n t:Int}(hn: -1≤n∧n<65536)(ht:0≤t∧t<2147483648)(hc:w.cell? ⟨kb,0,none⟩=some (.int .u64 (pk (n,t)))){A:Array Value}(hA:Slots 15 A [(0,.pointer (some ⟨kb,0,none⟩)),(1,sv)]){c:Frame}{cs:List Frame}{main:Bool}{Stop:Goroutine→World→Prop}
 (h:Own Try.prog main F Stop (G (c.finish (.bool (decide (n<0)))) cs) w):
 Own Try.prog main F Stop (G (((Go.Conc.base 46).at ⟨A,[]⟩ [.inRegion (oC kemr3) [1],.code kems5]).finish (.tuple #[])) (c::cs)) w:=by
 obtain⟨hsz,h0,h1,_⟩:=hA
 obtain⟨s,rfl⟩:=kemT_of hsz
 change s 0=_ at h0
 change s 1=_ at h1
 clear hsz
 simp only[kemT,h0,h1]
 clear h0 h1
 rw[Frame.finish_at]
 simp only[kemr3,kemBody,Try.f46,zz,Nat.reduceAdd]
 walk_nrm
 refine ogE ?_
 refine ogSR kems5' kemr4' ?_
 simp only[kemr4,kemBody,Try.f46,zz,Nat.reduceAdd]
 iterate 3 (refine oW fun dd K hK=>?_;go_simp;refine qT hK ?_;clear hK K)
 refine oc callable76 #[.pointer (some ⟨kb,0,none⟩)] ?_
 refine own_ldU hc rfl ?_
 rw[Frame.finish_at]
 walk_nrm
 refine oc callable77 #[.int .u64 (pk (n,t))] ?_
 refine own_of hn ht ?_
 rw[Frame.finish_at]
 walk_nrm
 iterate 2 (refine oW fun dd K hK=>?_;go_simp;refine qT hK ?_;clear hK K)
 refine ogE ?_
 refine ogX ?_
 refine own_go rfl (fun d=>stepG_leave (fn:=Try.f46) (v:=.bool (decide (n<0))) rfl rfl Try.func46 (by simp[results,Try.f46]) (by simp[results,Try.f46,go_sem])) ?_
 exact h
end
noncomputable section
variable{F:Fz}{w:World}
def kdoBody:Code:=Try.f64.body.getD .skip
def kdos0:=pC [] kdoBody
def kdor0:=pC [zt] kdoBody
def kdos1:=pC [zf] kdoBody
def kdos2:=pC [zf,zt] kdoBody
def kdor1:=pC [zf,zt,zt] kdoBody
def kdob0:=pC [zf,zt,zf] kdoBody
def kdos3:=pC [zf,zt,zf,zt] kdoBody
def kdor2:=pC [zf,zt,zf,zt,zt] kdoBody
def kdoc15:=pC [zf,zt,zf,zt,zf] kdoBody
def kdos4:=pC [zf,zt,zf,zt,zf,zt] kdoBody
def kdor3:=pC [zf,zt,zf,zt,zf,zt,zt] kdoBody
def kdos5:=pC [zf,zt,zf,zt,zf,zf] kdoBody
def kdor4:=pC [zf,zt,zf,zt,zf,zf,zt] kdoBody
def kdoc23:=pC [zf,zt,zf,zt,zf,zf,zf] kdoBody
def kdos6:=pC [zf,zt,zf,zt,zf,zf,zf,zt] kdoBody
def kdor5:=pC [zf,zt,zf,zt,zf,zf,zf,zt,zt] kdoBody
def kdos7:=pC [zf,zt,zf,zt,zf,zf,zf,zt,zf] kdoBody
def kdor6:=pC [zf,zt,zf,zt,zf,zf,zf,zt,zf,zt] kdoBody
def kdos8:=pC [zf,zt,zf,zt,zf,zf,zf,zf] kdoBody
def kdor7:=pC [zf,zt,zf,zt,zf,zf,zf,zf,zt] kdoBody
def kdoc34:=pC [zf,zt,zf,zt,zf,zf,zf,zf,zf] kdoBody
def kdos9:=pC [zf,zt,zf,zt,zf,zf,zf,zf,zf,zt] kdoBody
def kdor8:=pC [zf,zt,zf,zt,zf,zf,zf,zf,zf,zt,zt] kdoBody
def kdos10:=pC [zf,zt,zf,zt,zf,zf,zf,zf,zf,zt,zf] kdoBody
def kdor9:=pC [zf,zt,zf,zt,zf,zf,zf,zf,zf,zt,zf,zt] kdoBody
def kdos11:=pC [zf,zt,zf,zt,zf,zf,zf,zf,zf,zf] kdoBody
def kdor10:=pC [zf,zt,zf,zt,zf,zf,zf,zf,zf,zf,zt] kdoBody
def kdoc45:=pC [zf,zt,zf,zt,zf,zf,zf,zf,zf,zf,zf] kdoBody
def kdos12:=pC [zf,zt,zf,zt,zf,zf,zf,zf,zf,zf,zf,zt] kdoBody
def kdor11:=pC [zf,zt,zf,zt,zf,zf,zf,zf,zf,zf,zf,zt,zt] kdoBody
def kdos13:=pC [zf,zf] kdoBody
def kdor12:=pC [zf,zf,zt] kdoBody
theorem kdos0':kdos0= .seq kdor0 kdos1:=by kernel_rfl
theorem kdor0':kdor0= .region 0 (oC kdor0) false:=by kernel_rfl
theorem kdos1':kdos1= .seq kdos2 kdos13:=by kernel_rfl
theorem kdos2':kdos2= .seq kdor1 kdob0:=by kernel_rfl
theorem kdor1':kdor1= .region 1 (oC kdor1) false:=by kernel_rfl
theorem kdob0':kdob0= .block 0 kdos3:=by kernel_rfl
theorem kdos3':kdos3= .seq kdor2 kdoc15:=by kernel_rfl
theorem kdor2':kdor2= .region 2 (oC kdor2) false:=by kernel_rfl
theorem kdoc15':kdoc15= .cond (.tmp 15) kdos4 kdos5:=by kernel_rfl
theorem kdos4':kdos4= .seq kdor3 .ret:=by kernel_rfl
theorem kdor3':kdor3= .region 3 (oC kdor3) false:=by kernel_rfl
theorem kdos5':kdos5= .seq kdor4 kdoc23:=by kernel_rfl
theorem kdor4':kdor4= .region 4 (oC kdor4) false:=by kernel_rfl
theorem kdoc23':kdoc23= .cond (.tmp 23) kdos6 kdos8:=by kernel_rfl
theorem kdos6':kdos6= .seq kdor5 kdos7:=by kernel_rfl
theorem kdor5':kdor5= .region 5 (oC kdor5) false:=by kernel_rfl
theorem kdos7':kdos7= .seq kdor6 .ret:=by kernel_rfl
theorem kdor6':kdor6= .region 6 (oC kdor6) false:=by kernel_rfl
theorem kdos8':kdos8= .seq kdor7 kdoc34:=by kernel_rfl
theorem kdor7':kdor7= .region 7 (oC kdor7) false:=by kernel_rfl
theorem kdoc34':kdoc34= .cond (.tmp 34) kdos9 kdos11:=by kernel_rfl
theorem kdos9':kdos9= .seq kdor8 kdos10:=by kernel_rfl
theorem kdor8':kdor8= .region 8 (oC kdor8) false:=by kernel_rfl
theorem kdos10':kdos10= .seq kdor9 .ret:=by kernel_rfl
theorem kdor9':kdor9= .region 9 (oC kdor9) false:=by kernel_rfl
theorem kdos11':kdos11= .seq kdor10 kdoc45:=by kernel_rfl
theorem kdor10':kdor10= .region 10 (oC kdor10) false:=by kernel_rfl
theorem kdoc45':kdoc45= .cond (.tmp 45) kdos12 .skip:=by kernel_rfl
theorem kdos12':kdos12= .seq kdor11 .ret:=by kernel_rfl
theorem kdor11':kdor11= .region 11 (oC kdor11) false:=by kernel_rfl
theorem kdos13':kdos13= .seq kdor12 .ret:=by kernel_rfl
theorem kdor12':kdor12= .region 12 (oC kdor12) false:=by kernel_rfl
theorem enter_kdo(args:Array Value):Frame.enter Try.prog 64 args .normal=(Go.Conc.base 64).at {tmps:=args++Array.replicate (52 - args.size) undef,defers:=[]} [.code kdos0]:=enter_at args Try.func64 rfl
theorem callable64:Callable 64:=callable Try.func64 rfl rfl
def kdoT(s:Nat→Value):Array Value:= #[s 0,s 1,s 2,s 3,s 4,s 5,s 6,s 7,s 8,s 9,s 10,s 11,s 12,s 13,s 14,s 15,s 16,s 17,s 18,s 19,s 20,s 21,s 22,s 23,s 24,s 25,s 26,s 27,s 28,s 29,s 30,s 31,s 32,s 33,s 34,s 35,s 36,s 37,s 38,s 39,s 40,s 41,s 42,s 43,s 44,s 45,s 46,s 47,s 48,s 49,s 50,s 51]
theorem kdoT_of{A:Array Value}(h:A.size=52):∃s,A=kdoT s:=by
 obtain⟨s,hs,_⟩:=arr_lit A h
 exact⟨s,hs⟩
theorem kdo_other{n:Nat}(hU:Under F n)(hn:n≤w.heap.size){sv:Value}{kb i:Nat}{kd a b c0:Int}(k1:(kd == 1)=false)(k2:(kd == 2)=false)(k3:(kd == 3)=false)(k4:(kd == 4)=false){c:Frame}{cs:List Frame}{main:Bool}{Stop:Goroutine→World→Prop}
 (h:Own Try.prog main F Stop (G (c.finish (.agg #[.bool false,.int .i64 0,.slice none 0 0])) cs) (ansW ((w.alloc (.cells #[.int .i64 kd,.int .i64 a,.int .i64 b,.int .i64 c0] 47)).alloc (.cells #[.bool false,.int .i64 0,.slice none 0 0] 44)) (w.heap.size+1) false 0)):
 Own Try.prog main F Stop (G (Frame.enter Try.prog 64 #[.pointer (some ⟨kb,0,none⟩),sv,.int .i64 i,.agg #[.int .i64 kd,.int .i64 a,.int .i64 b,.int .i64 c0]] .normal) (c::cs)) w:=by
 rw[enter_kdo]
 walk_nrm
 refine ogSR kdos0' kdor0' ?_
 simp only[kdor0,kdoBody,Try.f64,zz,Nat.reduceAdd]
 iterate 2 (refine oW fun dd K hK=>?_;go_simp;refine qA hK hU ?_;clear hK K)
 refine ogE ?_
 refine ogSE kdos1' ?_
 refine ogSR kdos2' kdor1' ?_
 simp only[kdor1,kdoBody,Try.f64,zz,Nat.reduceAdd]
 (refine oW fun dd K hK=>?_;go_simp;refine qT hK ?_;clear hK K)
 (refine oW fun dd K hK=>?_;go_simp;refine qL hK ?_;clear hK K)
 refine ogE ?_
 rw[kdob0']
 refine ogB ?_
 refine ogSR kdos3' kdor2' ?_
 simp only[kdor2,kdoBody,Try.f64,zz,Nat.reduceAdd]
 iterate 2 (refine oW fun dd K hK=>?_;go_simp;refine qT hK ?_;clear hK K)
 refine ogE ?_
 rw[kdoc15']
 refine ogF ?_
 simp only[Bool.false_eq_true,if_false]
 refine ogSR kdos5' kdor4' ?_
 simp only[kdor4,kdoBody,Try.f64,zz,Nat.reduceAdd]
 iterate 2 (refine oW fun dd K hK=>?_;go_simp;refine qT hK ?_;clear hK K)
 refine ogE ?_
 rw[kdoc23']
 refine ogF ?_
 simp only[Bool.false_eq_true,if_false]
 refine ogSR kdos8' kdor7' ?_
 simp only[kdor7,kdoBody,Try.f64,zz,Nat.reduceAdd]
 iterate 2 (refine oW fun dd K hK=>?_;go_simp;refine qT hK ?_;clear hK K)
 refine ogE ?_
 rw[kdoc34']
 refine ogF ?_
 simp only[Bool.false_eq_true,if_false]
 refine ogSR kdos11' kdor10' ?_
 simp only[kdor10,kdoBody,Try.f64,zz,Nat.reduceAdd]
 iterate 2 (refine oW fun dd K hK=>?_;go_simp;refine qT hK ?_;clear hK K)
 refine ogE ?_
 rw[kdoc45']
 refine ogF ?_
 simp only[Bool.false_eq_true,if_false]
 refine ogK ?_
 refine ogI ?_
 refine ogSR kdos13' kdor12' ?_
 simp only[kdor12,kdoBody,Try.f64,zz,Nat.reduceAdd]
 (refine oW fun dd K hK=>?_;go_simp;refine qT hK ?_;clear hK K)
 (refine oW fun dd K hK=>?_;go_simp;refine hK _ _ ⟨⟨⟨0,grew3 (fun k=>not_held hU (show n≤w.heap.size+1 by omega)) _ _ _⟩,fun e he=>by(have hm:=mem_listed he;clear he hK;simp[go_sem,storedEv]at hm;rcases hm with rfl|rfl|rfl<;>exact evT_write _ _ ((fun k=>not_held hU (show n≤w.heap.size+1 by omega)) _))⟩,?_⟩;clear hK K;simp only[setCell_at'];refine Own.at ?_ dd)
 refine ogE ?_
 refine ogX ?_
 refine own_leave (fn:=Try.f64) (v:=.agg #[.bool false,.int .i64 0,.slice none 0 0]) rfl rfl Try.func64 (fun d=>by simp[results,Try.f64,go_sem]) (fun d e he=>by(simp[results,Try.f64,go_sem]at he;rcases he with rfl|rfl|rfl<;>exact evT_read _ _)) ?_
 exact h
theorem kdo_pu0{n:Nat}(hU:Under F n)(hn:n≤w.heap.size){sv:Value}{kb i:Nat}{a b c0:Int}{cs:List Frame}{main:Bool}{Stop:Goroutine→World→Prop}
 (h:∀A,Slots 52 A [(8,.pointer (some ⟨w.heap.size+1,0,none⟩))]→Own Try.prog main F Stop (G (Frame.enter Try.prog 45 #[.pointer (some ⟨kb,0,none⟩),sv,.int .i64 a] .normal) (((Go.Conc.base 64).at ⟨A,[]⟩ [.inRegion (oC kdor3) [4,5,6],.code .ret,.inBlock 0,.code kdos13])::cs)) ((w.alloc (.cells #[.int .i64 1,.int .i64 a,.int .i64 b,.int .i64 c0] 47)).alloc (.cells #[.bool false,.int .i64 0,.slice none 0 0] 44))):
 Own Try.prog main F Stop (G (Frame.enter Try.prog 64 #[.pointer (some ⟨kb,0,none⟩),sv,.int .i64 i,.agg #[.int .i64 1,.int .i64 a,.int .i64 b,.int .i64 c0]] .normal) cs) w:=by
 rw[enter_kdo]
 walk_nrm
 refine ogSR kdos0' kdor0' ?_
 simp only[kdor0,kdoBody,Try.f64,zz,Nat.reduceAdd]
 iterate 2 (refine oW fun dd K hK=>?_;go_simp;refine qA hK hU ?_;clear hK K)
 refine ogE ?_
 refine ogSE kdos1' ?_
 refine ogSR kdos2' kdor1' ?_
 simp only[kdor1,kdoBody,Try.f64,zz,Nat.reduceAdd]
 (refine oW fun dd K hK=>?_;go_simp;refine qT hK ?_;clear hK K)
 (refine oW fun dd K hK=>?_;go_simp;refine qL hK ?_;clear hK K)
 refine ogE ?_
 rw[kdob0']
 refine ogB ?_
 refine ogSR kdos3' kdor2' ?_
 simp only[kdor2,kdoBody,Try.f64,zz,Nat.reduceAdd]
 iterate 2 (refine oW fun dd K hK=>?_;go_simp;refine qT hK ?_;clear hK K)
 refine ogE ?_
 rw[kdoc15']
 refine ogT ?_
 simp only[if_true]
 refine ogSR kdos4' kdor3' ?_
 simp only[kdor3,kdoBody,Try.f64,zz,Nat.reduceAdd]
 iterate 3 (refine oW fun dd K hK=>?_;go_simp;refine qT hK ?_;clear hK K)
 (refine oW fun dd K hK=>?_;go_simp;refine qL hK ?_;clear hK K)
 refine oc callable45 #[.pointer (some ⟨kb,0,none⟩),sv,.int .i64 a] ?_
 refine h _ ?_
 exact⟨rfl,rfl,trivial⟩
theorem kdo_po0{n:Nat}(hU:Under F n)(hn:n≤w.heap.size){sv:Value}{kb i:Nat}{a b c0:Int}{cs:List Frame}{main:Bool}{Stop:Goroutine→World→Prop}
 (h:∀A,Slots 52 A [(8,.pointer (some ⟨w.heap.size+1,0,none⟩))]→Own Try.prog main F Stop (G (Frame.enter Try.prog 43 #[.pointer (some ⟨kb,0,none⟩),sv] .normal) (((Go.Conc.base 64).at ⟨A,[]⟩ [.inRegion (oC kdor5) [2,3,4,5,6,7],.code kdos7,.inBlock 0,.code kdos13])::cs)) ((w.alloc (.cells #[.int .i64 2,.int .i64 a,.int .i64 b,.int .i64 c0] 47)).alloc (.cells #[.bool false,.int .i64 0,.slice none 0 0] 44))):
 Own Try.prog main F Stop (G (Frame.enter Try.prog 64 #[.pointer (some ⟨kb,0,none⟩),sv,.int .i64 i,.agg #[.int .i64 2,.int .i64 a,.int .i64 b,.int .i64 c0]] .normal) cs) w:=by
 rw[enter_kdo]
 walk_nrm
 refine ogSR kdos0' kdor0' ?_
 simp only[kdor0,kdoBody,Try.f64,zz,Nat.reduceAdd]
 iterate 2 (refine oW fun dd K hK=>?_;go_simp;refine qA hK hU ?_;clear hK K)
 refine ogE ?_
 refine ogSE kdos1' ?_
 refine ogSR kdos2' kdor1' ?_
 simp only[kdor1,kdoBody,Try.f64,zz,Nat.reduceAdd]
 (refine oW fun dd K hK=>?_;go_simp;refine qT hK ?_;clear hK K)
 (refine oW fun dd K hK=>?_;go_simp;refine qL hK ?_;clear hK K)
 refine ogE ?_
 rw[kdob0']
 refine ogB ?_
 refine ogSR kdos3' kdor2' ?_
 simp only[kdor2,kdoBody,Try.f64,zz,Nat.reduceAdd]
 iterate 2 (refine oW fun dd K hK=>?_;go_simp;refine qT hK ?_;clear hK K)
 refine ogE ?_
 rw[kdoc15']
 refine ogF ?_
 simp only[Bool.false_eq_true,if_false]
 refine ogSR kdos5' kdor4' ?_
 simp only[kdor4,kdoBody,Try.f64,zz,Nat.reduceAdd]
 iterate 2 (refine oW fun dd K hK=>?_;go_simp;refine qT hK ?_;clear hK K)
 refine ogE ?_
 rw[kdoc23']
 refine ogT ?_
 simp only[if_true]
 refine ogSR kdos6' kdor5' ?_
 simp only[kdor5,kdoBody,Try.f64,zz,Nat.reduceAdd]
 iterate 2 (refine oW fun dd K hK=>?_;go_simp;refine qT hK ?_;clear hK K)
 refine oc callable43 #[.pointer (some ⟨kb,0,none⟩),sv] ?_
 refine h _ ?_
 exact⟨rfl,rfl,trivial⟩
theorem kdo_pe0{n:Nat}(hU:Under F n)(hn:n≤w.heap.size){sv:Value}{kb i:Nat}{a b c0:Int}{cs:List Frame}{main:Bool}{Stop:Goroutine→World→Prop}
 (h:∀A,Slots 52 A [(8,.pointer (some ⟨w.heap.size+1,0,none⟩))]→Own Try.prog main F Stop (G (Frame.enter Try.prog 44 #[.pointer (some ⟨kb,0,none⟩),sv] .normal) (((Go.Conc.base 64).at ⟨A,[]⟩ [.inRegion (oC kdor8) [2,3,4,5,6,7],.code kdos10,.inBlock 0,.code kdos13])::cs)) ((w.alloc (.cells #[.int .i64 3,.int .i64 a,.int .i64 b,.int .i64 c0] 47)).alloc (.cells #[.bool false,.int .i64 0,.slice none 0 0] 44))):
 Own Try.prog main F Stop (G (Frame.enter Try.prog 64 #[.pointer (some ⟨kb,0,none⟩),sv,.int .i64 i,.agg #[.int .i64 3,.int .i64 a,.int .i64 b,.int .i64 c0]] .normal) cs) w:=by
 rw[enter_kdo]
 walk_nrm
 refine ogSR kdos0' kdor0' ?_
 simp only[kdor0,kdoBody,Try.f64,zz,Nat.reduceAdd]
 iterate 2 (refine oW fun dd K hK=>?_;go_simp;refine qA hK hU ?_;clear hK K)
 refine ogE ?_
 refine ogSE kdos1' ?_
 refine ogSR kdos2' kdor1' ?_
 simp only[kdor1,kdoBody,Try.f64,zz,Nat.reduceAdd]
 (refine oW fun dd K hK=>?_;go_simp;refine qT hK ?_;clear hK K)
 (refine oW fun dd K hK=>?_;go_simp;refine qL hK ?_;clear hK K)
 refine ogE ?_
 rw[kdob0']
 refine ogB ?_
 refine ogSR kdos3' kdor2' ?_
 simp only[kdor2,kdoBody,Try.f64,zz,Nat.reduceAdd]
 iterate 2 (refine oW fun dd K hK=>?_;go_simp;refine qT hK ?_;clear hK K)
 refine ogE ?_
 rw[kdoc15']
 refine ogF ?_
 simp only[Bool.false_eq_true,if_false]
 refine ogSR kdos5' kdor4' ?_
 simp only[kdor4,kdoBody,Try.f64,zz,Nat.reduceAdd]
 iterate 2 (refine oW fun dd K hK=>?_;go_simp;refine qT hK ?_;clear hK K)
 refine ogE ?_
 rw[kdoc23']
 refine ogF ?_
 simp only[Bool.false_eq_true,if_false]
 refine ogSR kdos8' kdor7' ?_
 simp only[kdor7,kdoBody,Try.f64,zz,Nat.reduceAdd]
 iterate 2 (refine oW fun dd K hK=>?_;go_simp;refine qT hK ?_;clear hK K)
 refine ogE ?_
 rw[kdoc34']
 refine ogT ?_
 simp only[if_true]
 refine ogSR kdos9' kdor8' ?_
 simp only[kdor8,kdoBody,Try.f64,zz,Nat.reduceAdd]
 iterate 2 (refine oW fun dd K hK=>?_;go_simp;refine qT hK ?_;clear hK K)
 refine oc callable44 #[.pointer (some ⟨kb,0,none⟩),sv] ?_
 refine h _ ?_
 exact⟨rfl,rfl,trivial⟩
theorem kdo_em0{n:Nat}(hU:Under F n)(hn:n≤w.heap.size){sv:Value}{kb i:Nat}{a b c0:Int}{cs:List Frame}{main:Bool}{Stop:Goroutine→World→Prop}
 (h:∀A,Slots 52 A [(8,.pointer (some ⟨w.heap.size+1,0,none⟩))]→Own Try.prog main F Stop (G (Frame.enter Try.prog 46 #[.pointer (some ⟨kb,0,none⟩),sv] .normal) (((Go.Conc.base 64).at ⟨A,[]⟩ [.inRegion (oC kdor11) [2,3,4],.code .ret,.inBlock 0,.code kdos13])::cs)) ((w.alloc (.cells #[.int .i64 4,.int .i64 a,.int .i64 b,.int .i64 c0] 47)).alloc (.cells #[.bool false,.int .i64 0,.slice none 0 0] 44))):
 Own Try.prog main F Stop (G (Frame.enter Try.prog 64 #[.pointer (some ⟨kb,0,none⟩),sv,.int .i64 i,.agg #[.int .i64 4,.int .i64 a,.int .i64 b,.int .i64 c0]] .normal) cs) w:=by
 rw[enter_kdo]
 walk_nrm
 refine ogSR kdos0' kdor0' ?_
 simp only[kdor0,kdoBody,Try.f64,zz,Nat.reduceAdd]
 iterate 2 (refine oW fun dd K hK=>?_;go_simp;refine qA hK hU ?_;clear hK K)
 refine ogE ?_
 refine ogSE kdos1' ?_
 refine ogSR kdos2' kdor1' ?_
 simp only[kdor1,kdoBody,Try.f64,zz,Nat.reduceAdd]
 (refine oW fun dd K hK=>?_;go_simp;refine qT hK ?_;clear hK K)
 (refine oW fun dd K hK=>?_;go_simp;refine qL hK ?_;clear hK K)
 refine ogE ?_
 rw[kdob0']
 refine ogB ?_
 refine ogSR kdos3' kdor2' ?_
 simp only[kdor2,kdoBody,Try.f64,zz,Nat.reduceAdd]
 iterate 2 (refine oW fun dd K hK=>?_;go_simp;refine qT hK ?_;clear hK K)
 refine ogE ?_
 rw[kdoc15']
 refine ogF ?_
 simp only[Bool.false_eq_true,if_false]
 refine ogSR kdos5' kdor4' ?_
 simp only[kdor4,kdoBody,Try.f64,zz,Nat.reduceAdd]
 iterate 2 (refine oW fun dd K hK=>?_;go_simp;refine qT hK ?_;clear hK K)
 refine ogE ?_
 rw[kdoc23']
 refine ogF ?_
 simp only[Bool.false_eq_true,if_false]
 refine ogSR kdos8' kdor7' ?_
 simp only[kdor7,kdoBody,Try.f64,zz,Nat.reduceAdd]
 iterate 2 (refine oW fun dd K hK=>?_;go_simp;refine qT hK ?_;clear hK K)
 refine ogE ?_
 rw[kdoc34']
 refine ogF ?_
 simp only[Bool.false_eq_true,if_false]
 refine ogSR kdos11' kdor10' ?_
 simp only[kdor10,kdoBody,Try.f64,zz,Nat.reduceAdd]
 iterate 2 (refine oW fun dd K hK=>?_;go_simp;refine qT hK ?_;clear hK K)
 refine ogE ?_
 rw[kdoc45']
 refine ogT ?_
 simp only[if_true]
 refine ogSR kdos12' kdor11' ?_
 simp only[kdor11,kdoBody,Try.f64,zz,Nat.reduceAdd]
 iterate 2 (refine oW fun dd K hK=>?_;go_simp;refine qT hK ?_;clear hK K)
 refine oc callable46 #[.pointer (some ⟨kb,0,none⟩),sv] ?_
 refine h _ ?_
 exact⟨rfl,rfl,trivial⟩
theorem kdo_pu1{ab:Nat}(ha:Ans w ab)(hnh:∀k,¬held F ⟨ab,k,none⟩){b:Bool}{A:Array Value}(hA:Slots 52 A [(8,.pointer (some ⟨ab,0,none⟩))]){c:Frame}{cs:List Frame}{main:Bool}{Stop:Goroutine→World→Prop}
 (h:Own Try.prog main F Stop (G (c.finish (.agg #[.bool b,.int .i64 0,.slice none 0 0])) cs) (ansW w ab b 0)):
 Own Try.prog main F Stop (G (((Go.Conc.base 64).at ⟨A,[]⟩ [.inRegion (oC kdor3) [4,5,6],.code .ret,.inBlock 0,.code kdos13]).finish (.bool b)) (c::cs)) w:=by
 obtain⟨hsz,h8,_⟩:=hA
 obtain⟨s,rfl⟩:=kdoT_of hsz
 change s 8=_ at h8
 clear hsz
 simp only[kdoT,h8]
 clear h8
 obtain⟨x0,x1,x2,c0,c1,c2⟩:=ha.c
 have z0:=ha.z 0
 have z1:=ha.z 1
 have z2:=ha.z 2
 rw[Frame.finish_at]
 simp only[kdor3,kdoBody,Try.f64,zz,Nat.reduceAdd]
 walk_nrm
 (refine oW fun dd K hK=>?_;go_simp;refine qT hK ?_;clear hK K)
 (refine oW fun dd K hK=>?_;go_simp;refine hK _ _ ⟨⟨⟨0,grew3 hnh _ _ _⟩,fun e he=>by(have hm:=mem_listed he;clear he hK;simp[go_sem,storedEv,c0,c1,c2,z0,z1,z2]at hm;rcases hm with rfl|rfl|rfl<;>exact evT_write _ _ (hnh _))⟩,?_⟩;clear hK K;simp only[setCell_at'];refine Own.at ?_ dd)
 refine ogE ?_
 refine ogX ?_
 refine own_leave (fn:=Try.f64) (v:=.agg #[.bool b,.int .i64 0,.slice none 0 0]) rfl rfl Try.func64 (fun d=>by simp[results,Try.f64,go_sem,c0,c1,c2,z0,z1,z2]) (fun d e he=>by(simp[results,Try.f64,go_sem,c0,c1,c2,z0,z1,z2]at he;rcases he with rfl|rfl|rfl<;>exact evT_read _ _)) ?_
 exact h
theorem kdo_po1{ab:Nat}(ha:Ans w ab)(hnh:∀k,¬held F ⟨ab,k,none⟩){b:Bool}{v:Int}{A:Array Value}(hA:Slots 52 A [(8,.pointer (some ⟨ab,0,none⟩))]){c:Frame}{cs:List Frame}{main:Bool}{Stop:Goroutine→World→Prop}
 (h:Own Try.prog main F Stop (G (c.finish (.agg #[.bool b,.int .i64 v,.slice none 0 0])) cs) (ansW w ab b v)):
 Own Try.prog main F Stop (G (((Go.Conc.base 64).at ⟨A,[]⟩ [.inRegion (oC kdor5) [2,3,4,5,6,7],.code kdos7,.inBlock 0,.code kdos13]).finish (.tuple #[.int .i64 v,.bool b])) (c::cs)) w:=by
 obtain⟨hsz,h8,_⟩:=hA
 obtain⟨s,rfl⟩:=kdoT_of hsz
 change s 8=_ at h8
 clear hsz
 simp only[kdoT,h8]
 clear h8
 obtain⟨x0,x1,x2,c0,c1,c2⟩:=ha.c
 have z0:=ha.z 0
 have z1:=ha.z 1
 have z2:=ha.z 2
 rw[Frame.finish_at]
 simp only[kdor5,kdoBody,Try.f64,zz,Nat.reduceAdd]
 walk_nrm
 iterate 5 (refine oW fun dd K hK=>?_;go_simp;refine qT hK ?_;clear hK K)
 refine ogE ?_
 refine ogSR kdos7' kdor6' ?_
 simp only[kdor6,kdoBody,Try.f64,zz,Nat.reduceAdd]
 iterate 3 (refine oW fun dd K hK=>?_;go_simp;refine qT hK ?_;clear hK K)
 (refine oW fun dd K hK=>?_;go_simp;refine hK _ _ ⟨⟨⟨0,grew3 hnh _ _ _⟩,fun e he=>by(have hm:=mem_listed he;clear he hK;simp[go_sem,storedEv,c0,c1,c2,z0,z1,z2]at hm;rcases hm with rfl|rfl|rfl<;>exact evT_write _ _ (hnh _))⟩,?_⟩;clear hK K;simp only[setCell_at'];refine Own.at ?_ dd)
 refine ogE ?_
 refine ogX ?_
 refine own_leave (fn:=Try.f64) (v:=.agg #[.bool b,.int .i64 v,.slice none 0 0]) rfl rfl Try.func64 (fun d=>by simp[results,Try.f64,go_sem,c0,c1,c2,z0,z1,z2]) (fun d e he=>by(simp[results,Try.f64,go_sem,c0,c1,c2,z0,z1,z2]at he;rcases he with rfl|rfl|rfl<;>exact evT_read _ _)) ?_
 exact h
theorem kdo_pe1{ab:Nat}(ha:Ans w ab)(hnh:∀k,¬held F ⟨ab,k,none⟩){b:Bool}{v:Int}{A:Array Value}(hA:Slots 52 A [(8,.pointer (some ⟨ab,0,none⟩))]){c:Frame}{cs:List Frame}{main:Bool}{Stop:Goroutine→World→Prop}
 (h:Own Try.prog main F Stop (G (c.finish (.agg #[.bool b,.int .i64 v,.slice none 0 0])) cs) (ansW w ab b v)):
 Own Try.prog main F Stop (G (((Go.Conc.base 64).at ⟨A,[]⟩ [.inRegion (oC kdor8) [2,3,4,5,6,7],.code kdos10,.inBlock 0,.code kdos13]).finish (.tuple #[.int .i64 v,.bool b])) (c::cs)) w:=by
 obtain⟨hsz,h8,_⟩:=hA
 obtain⟨s,rfl⟩:=kdoT_of hsz
 change s 8=_ at h8
 clear hsz
 simp only[kdoT,h8]
 clear h8
 obtain⟨x0,x1,x2,c0,c1,c2⟩:=ha.c
 have z0:=ha.z 0
 have z1:=ha.z 1
 have z2:=ha.z 2
 rw[Frame.finish_at]
 simp only[kdor8,kdoBody,Try.f64,zz,Nat.reduceAdd]
 walk_nrm
 iterate 5 (refine oW fun dd K hK=>?_;go_simp;refine qT hK ?_;clear hK K)
 refine ogE ?_
 refine ogSR kdos10' kdor9' ?_
 simp only[kdor9,kdoBody,Try.f64,zz,Nat.reduceAdd]
 iterate 3 (refine oW fun dd K hK=>?_;go_simp;refine qT hK ?_;clear hK K)
 (refine oW fun dd K hK=>?_;go_simp;refine hK _ _ ⟨⟨⟨0,grew3 hnh _ _ _⟩,fun e he=>by(have hm:=mem_listed he;clear he hK;simp[go_sem,storedEv,c0,c1,c2,z0,z1,z2]at hm;rcases hm with rfl|rfl|rfl<;>exact evT_write _ _ (hnh _))⟩,?_⟩;clear hK K;simp only[setCell_at'];refine Own.at ?_ dd)
 refine ogE ?_
 refine ogX ?_
 refine own_leave (fn:=Try.f64) (v:=.agg #[.bool b,.int .i64 v,.slice none 0 0]) rfl rfl Try.func64 (fun d=>by simp[results,Try.f64,go_sem,c0,c1,c2,z0,z1,z2]) (fun d e he=>by(simp[results,Try.f64,go_sem,c0,c1,c2,z0,z1,z2]at he;rcases he with rfl|rfl|rfl<;>exact evT_read _ _)) ?_
 exact h
theorem kdo_em1{ab:Nat}(ha:Ans w ab)(hnh:∀k,¬held F ⟨ab,k,none⟩){b:Bool}{A:Array Value}(hA:Slots 52 A [(8,.pointer (some ⟨ab,0,none⟩))]){c:Frame}{cs:List Frame}{main:Bool}{Stop:Goroutine→World→Prop}
 (h:Own Try.prog main F Stop (G (c.finish (.agg #[.bool b,.int .i64 0,.slice none 0 0])) cs) (ansW w ab b 0)):
 Own Try.prog main F Stop (G (((Go.Conc.base 64).at ⟨A,[]⟩ [.inRegion (oC kdor11) [2,3,4],.code .ret,.inBlock 0,.code kdos13]).finish (.bool b)) (c::cs)) w:=by
 obtain⟨hsz,h8,_⟩:=hA
 obtain⟨s,rfl⟩:=kdoT_of hsz
 change s 8=_ at h8
 clear hsz
 simp only[kdoT,h8]
 clear h8
 obtain⟨x0,x1,x2,c0,c1,c2⟩:=ha.c
 have z0:=ha.z 0
 have z1:=ha.z 1
 have z2:=ha.z 2
 rw[Frame.finish_at]
 simp only[kdor11,kdoBody,Try.f64,zz,Nat.reduceAdd]
 walk_nrm
 (refine oW fun dd K hK=>?_;go_simp;refine qT hK ?_;clear hK K)
 (refine oW fun dd K hK=>?_;go_simp;refine hK _ _ ⟨⟨⟨0,grew3 hnh _ _ _⟩,fun e he=>by(have hm:=mem_listed he;clear he hK;simp[go_sem,storedEv,c0,c1,c2,z0,z1,z2]at hm;rcases hm with rfl|rfl|rfl<;>exact evT_write _ _ (hnh _))⟩,?_⟩;clear hK K;simp only[setCell_at'];refine Own.at ?_ dd)
 refine ogE ?_
 refine ogX ?_
 refine own_leave (fn:=Try.f64) (v:=.agg #[.bool b,.int .i64 0,.slice none 0 0]) rfl rfl Try.func64 (fun d=>by simp[results,Try.f64,go_sem,c0,c1,c2,z0,z1,z2]) (fun d e he=>by(simp[results,Try.f64,go_sem,c0,c1,c2,z0,z1,z2]at he;rcases he with rfl|rfl|rfl<;>exact evT_read _ _)) ?_
 exact h
end
section
variable{F:Fz}{w w':World}{kb:Nat}
structure KS where
 k:KSt
 nb:Nat
abbrev KS.m(s:KS):Nat:=s.k.nx.length
structure KU(kb:Nat)(s:KS)(w:World):Prop where
 wf:KWf s.k
 o:w.heap[kb]? =some (.cells #[.int .u64 (pk s.k.hd),.int .u64 (pk s.k.fr),.slice (some ⟨s.nb,0,none⟩) s.m s.m,.bool s.k.tg] 92 (0,0))
 n:∃c,w.heap[s.nb]? =some (.cells c 129 (0,0))∧c.size=s.m*2∧∀i,i<s.m→c[i*2]? =some (.int .i64 (s.k.nx.getD i 0))∧c[i*2+1]? =some (.int .i64 (s.k.vl.getD i 0))
def KR(kb:Nat)(s:KS)(r:Nat):Prop:=r=kb∨r=s.nb
section
variable{s:KS}
theorem KU.ne(h:KU kb s w):s.nb≠kb:=by
 intro e
 obtain⟨c,h1,_⟩:=h.n
 rw[e,h.o]at h1
 simp only[Option.some.injEq,Obj.cells.injEq]at h1
 exact absurd h1.2.1 (by decide)
theorem KU.low(h:KU kb s w){r:Nat}(hr:KR kb s r):r<w.heap.size:=by
 rcases hr with rfl|rfl
 ·exact(Array.getElem?_eq_some_iff.1 h.o).1
 ·obtain⟨c,h1,_⟩:=h.n
  exact(alt h1)
theorem KU.same(h:KU kb s w)(hs:∀r,KR kb s r→w'.heap[r]? =w.heap[r]?):KU kb s w':=by
 obtain⟨c,h1,h2⟩:=h.n
 exact⟨h.wf,(hs _ (.inl rfl)).trans h.o,c,(hs _ (.inr rfl)).trans h1,h2⟩
theorem KU.c0(h:KU kb s w):w.cell? ⟨kb,0,none⟩=some (.int .u64 (pk s.k.hd)):=by simp[World.cell?,h.o]
theorem KU.c1(h:KU kb s w):w.cell? ⟨kb,1,none⟩=some (.int .u64 (pk s.k.fr)):=by simp[World.cell?,h.o]
theorem KU.c2(h:KU kb s w):KH kb s.nb s.m w:=⟨by simp[World.cell?,h.o]⟩
theorem KU.c3(h:KU kb s w):w.cell? ⟨kb,3,none⟩=some (.bool s.k.tg):=by simp[World.cell?,h.o]
theorem KU.z(h:KU kb s w)(j:Nat):w.frozen? ⟨kb,j,none⟩=false:=by simp[World.frozen?,h.o]
theorem KU.nc(h:KU kb s w){i:Nat}(hi:i<s.m):w.cell? ⟨s.nb,i*2,none⟩=some (.int .i64 (s.k.nx.getD i 0))∧w.cell? ⟨s.nb,i*2+1,none⟩=some (.int .i64 (s.k.vl.getD i 0))∧∀j,w.frozen? ⟨s.nb,j,none⟩=false:=by
 obtain⟨c,h1,h2,h3⟩:=h.n
 obtain⟨e1,e2⟩:=h3 i hi
 exact⟨by simp only[World.cell?,h1];simpa using e1,by simp only[World.cell?,h1];simpa using e2,fun j=>by simp[World.frozen?,h1]⟩
theorem KU.setHd(h:KU kb s w){x:Int×Int}(hx: -1≤x.1∧x.1<s.m∧0≤x.2∧x.2<2147483648)(ht:s.k.tg=false→x.2=0):KU kb {s with k:={s.k with hd:=x}} (w.setCell ⟨kb,0,none⟩ (.int .u64 (pk x))):=by
 obtain⟨c,h1,h2⟩:=h.n
 have hw:=h.wf
 refine⟨⟨hw.n1,hw.n2,hw.n3,hw.nx,hx,hw.fr,fun e=>⟨ht e,(hw.tg e).2⟩⟩,?_,c,(heap_setCell_ne _ _ _ h.ne).trans h1,h2⟩
 rw[heap_setCell_eq h.o];rfl
theorem KU.setFr(h:KU kb s w){x:Int×Int}(hx: -1≤x.1∧x.1<s.m∧0≤x.2∧x.2<2147483648)(ht:s.k.tg=false→x.2=0):KU kb {s with k:={s.k with fr:=x}} (w.setCell ⟨kb,1,none⟩ (.int .u64 (pk x))):=by
 obtain⟨c,h1,h2⟩:=h.n
 have hw:=h.wf
 refine⟨⟨hw.n1,hw.n2,hw.n3,hw.nx,hw.hd,hx,fun e=>⟨(hw.tg e).1,ht e⟩⟩,?_,c,(heap_setCell_ne _ _ _ h.ne).trans h1,h2⟩
 rw[heap_setCell_eq h.o];rfl
theorem getD_set{l:List Int}{i j:Nat}{v:Int}(hi:i<l.length):(l.set i v).getD j 0=if i=j then v else l.getD j 0:=by
 simp only[List.getD_eq_getElem?_getD,List.getElem?_set]
 split
 ·rename_i e
  subst e
  simp[hi]
 ·rfl
theorem KU.setNx(h:KU kb s w){i:Nat}(hi:i<s.m){v:Int}(hv: -1≤v∧v<s.m):KU kb {s with k:={s.k with nx:=s.k.nx.set i v}} (w.setCell ⟨s.nb,i*2,none⟩ (.int .i64 v)):=by
 obtain⟨c,h1,h2,h3⟩:=h.n
 have hw:=h.wf
 refine⟨⟨by simpa using hw.n1,by simpa using hw.n2,by simpa using hw.n3,fun x hx=>?_,by simpa using hw.hd,by simpa using hw.fr,hw.tg⟩,?_,c.setIfInBounds (i*2) (.int .i64 v),?_,by simpa [KS.m]using h2,fun j hj=>?_⟩
 ·simp only[List.length_set]
  rcases List.mem_or_eq_of_mem_set hx with h|h
  ·exact hw.nx x h
  ·rw[h];exact hv
 ·rw[heap_setCell_ne _ _ _ (Ne.symm h.ne),h.o];simp[KS.m]
 ·rw[heap_setCell_eq h1]
 ·have hj:j<s.m:=by simpa [KS.m]using hj
  obtain⟨e1,e2⟩:=h3 j hj
  have hb:i*2<c.size:=by omega
  refine⟨?_,?_⟩
  ·rw[getD_set hi]
   by_cases e:i=j
   ·subst e;simp[hb]
   ·rw[Array.getElem?_setIfInBounds_ne (by omega),e1,if_neg e]
  ·rw[Array.getElem?_setIfInBounds_ne (by omega)];exact e2
theorem KU.setVl(h:KU kb s w){i:Nat}(hi:i<s.m){v:Int}:KU kb {s with k:={s.k with vl:=s.k.vl.set i v}} (w.setCell ⟨s.nb,i*2+1,none⟩ (.int .i64 v)):=by
 obtain⟨c,h1,h2,h3⟩:=h.n
 have hw:=h.wf
 have hi':i<s.k.vl.length:=by rw[← hw.n1];exact hi
 refine⟨⟨by simpa using hw.n1,hw.n2,hw.n3,hw.nx,hw.hd,hw.fr,hw.tg⟩,?_,c.setIfInBounds (i*2+1) (.int .i64 v),?_,by simpa [KS.m]using h2,fun j hj=>?_⟩
 ·rw[heap_setCell_ne _ _ _ (Ne.symm h.ne),h.o]
 ·rw[heap_setCell_eq h1]
 ·obtain⟨e1,e2⟩:=h3 j hj
  have hb:i*2+1<c.size:=by have:=h2;have:i<s.m:=hi;omega
  refine⟨?_,?_⟩
  ·rw[Array.getElem?_setIfInBounds_ne (by omega)];exact e1
  ·rw[getD_set hi']
   by_cases e:i=j
   ·subst e;simp[hb]
   ·rw[Array.getElem?_setIfInBounds_ne (by omega),e2,if_neg e]
theorem pk_eq(h:KWf s.k){n t:Int}(ht:0≤t∧t<2147483648):(pk s.k.hd == pk (n,t))=decide (s.k.hd=(n,t))∧(pk s.k.fr == pk (n,t))=decide (s.k.fr=(n,t)):=by
 have key:∀x:Int×Int,0≤x.2∧x.2<2147483648→(pk x == pk (n,t))=decide (x=(n,t)):=fun x hx=>by
  by_cases e:x=(n,t)
  ·subst e;simp
  ·rw[decide_eq_false e]
   simp only[beq_eq_false_iff_ne,ne_eq]
   exact fun e2=>e (pk_inj hx ht e2)
 exact⟨key _ h.hd.2.2,key _ h.fr.2.2⟩
theorem tag_ok(tg:Bool)(t:Int):(0≤tagOf tg t∧tagOf tg t<2147483648)∧(tg=false→tagOf tg t=0):=by
 unfold tagOf
 cases tg with
 | true=>simp;omega
 | false=>simp
end
theorem step_len(s:KSt)(c:KCl):(s.step c).1.nx.length=s.nx.length:=by
 unfold KSt.step
 repeat' split
 all_goals simp
end
section
variable{w w':World}
theorem cell_heap{b j:Nat}(hw:w'.heap[b]? =w.heap[b]?):w'.cell? ⟨b,j,none⟩=w.cell? ⟨b,j,none⟩∧w'.frozen? ⟨b,j,none⟩=w.frozen? ⟨b,j,none⟩:=by
 constructor
 ·unfold World.cell?;simp only[hw]
 ·unfold World.frozen?;simp only[hw]
theorem row_cells{base n size cap g:Nat}{e:TypeId}{xs:List Value}(h:w.ownsRow base e size (.slice (some ⟨g,0,none⟩) n cap) n xs):∀j u,xs[j]? =some u→w.cell? ((⟨g,0,none⟩:Addr).add j)=some u:=by
 intro j u hj
 obtain⟨b,c,e1,h1⟩:=row_get h hj
 cases e1
 have e1:(⟨g,0,none⟩:Addr).add j=⟨g,j,none⟩:=by
  unfold Addr.add
  split
  ·subst_vars;rfl
  ·simp
 rw[e1]
 exact h1.c
theorem run_append_fresh{P:Program}{w:World}(t ty e:TypeId)(i:TypeInfo)(z:Value)(size bytes:Nat)(ht:P.underlying t=some (.slice e))(hi:P.info? e=some i)(hz:i.zero=some z)
 (hsize:i.size=size) (hby:i.bytes=bytes) (hzs:z.cells.size=size) (hsz:0<size)
 (v:Value) (n:Nat) (xs:List Value) (hown:w.ownsRow 0 e size v n xs)
 (a:Addr) (m c:Nat) (news:List Value) (hl:news.length=m*size) (hnews:∀j u,news[j]? =some u→w.cell? (a.add j)=some u) (h1:∀u∈news,u.oneCell'=true)
 (h63:n+m≤maxLen) (hbytes:(n+m)*bytes≤140737488355328):
 ∃v' w',(Builtin.append_ #[t,t] ty #[v,.slice (some a) m c]).run P w= .ok v' w'∧w'.ownsRow 0 e size v' (n+m) (xs++news)∧w.grownBy w' v.ownBlock∧(v'.ownBlock=v.ownBlock∨∃g,v'.ownBlock=some g∧w.heap.size≤g):=by
 rcases hown.2 with⟨rfl,rfl⟩|⟨g,cap,cur,rfl,h2,h3,h4,h5,h6,h7⟩
 ·have hxs:xs=[]:=List.eq_nil_of_length_eq_zero (by have:=hown.1;simpa using this)
  subst hxs
  obtain⟨v',w',hrun,r1,r2,_⟩:=run_append_own (P:=P) w w.heap.size t ty e i z size bytes ht hi hz hsize hby hzs hsz (.slice none 0 0) 0 [] (World.ownsRow_nil w _ e size) a m c news hl hnews h1 h63 hbytes (Nat.le_refl _)
  refine⟨v',w',hrun,ownsRow_mono_base (Nat.zero_le _) r1,r2,?_⟩
  rcases r1.2 with⟨rfl,_⟩|⟨g',cap',cur',rfl,h2,_⟩
  ·exact .inl rfl
  ·exact .inr ⟨g',rfl,h2⟩
 ·by_cases hroom:n+m≤cap
  ·obtain⟨w',hr,r1,r2⟩:=run_append_own_spare (P:=P) w 0 t ty e i size ht hi hsize g n cap xs hown a m c news hl hnews h1 hroom
   exact⟨_,w',hr,r1,r2,.inl rfl⟩
  ·obtain⟨v',w',hrun,r1,r2⟩:=run_append_arg_grows (P:=P) w t ty e i z size bytes ht hi hz hsize hby hzs hsz ⟨g,0,none⟩ n cap xs hown.1 (row_cells hown) a m c news hl hnews (by omega) h63 hbytes
   refine⟨v',w',hrun,ownsRow_mono_base (Nat.zero_le _) r1,⟨r2.os,r2.tape,r2.output,r2.size,fun k hk _=>r2.block k hk (by simp)⟩,?_⟩
   rcases r1.2 with⟨rfl,h0⟩|⟨g',cap',cur',rfl,h2,_⟩
   ·omega
   ·exact .inr ⟨g',rfl,h2⟩
theorem wpList_append_fresh{P:Program}{ops:Array Oper}{rest:List Oper}{o:Oper}{a:Act}{w:World}{Q:Exit→Act→World→Prop}(hgd:o.guard=none)(s x:Operand)(t:TypeId)
 (ho:o.op= .call {callee:=.builtin .append,args:= #[s,x],argTypes:= #[t,t]})
 (e:TypeId) (i:TypeInfo) (z:Value) (size bytes:Nat) (h1:P.underlying t=some (.slice e)) (h2:P.info? e=some i) (h3:i.zero=some z) (h4:i.size=size) (h5:i.bytes=bytes) (h6:z.cells.size=size) (h7:0<size)
 (v:Value) (n:Nat) (olds:List Value) (hs:a.eval s=v) (hown:w.ownsRow 0 e size v n olds)
 (ad:Addr) (m c:Nat) (news:List Value) (hx:a.eval x= .slice (some ad) m c) (hn:news.length=m*size) (hc:∀j u,news[j]? =some u→w.cell? (ad.add j)=some u) (h1c:∀u∈news,u.oneCell'=true)
 (b1:n+m≤maxLen) (b2:(n+m)*bytes≤140737488355328)
 (h:∀v' w',w'.ownsRow 0 e size v' (n+m) (olds++news)→w.grownBy w' v.ownBlock→(v'.ownBlock=v.ownBlock∨∃g,v'.ownBlock=some g∧w.heap.size≤g)→wpList P ops Q rest (a.put o.dst v') w'):wpList P ops Q (o::rest) a w:=
 wpList_plain hgd fun _ hK=>by
  obtain⟨v',w',hrun,r1,r2,r3⟩:=run_append_fresh (P:=P) (w:=w) t o.type e i z size bytes h1 h2 h3 h4 h5 h6 h7 v n olds hown ad m c news hn hc h1c b1 b2
  unfold Oper.wp execOp
  simp only[ho,resolve,invoke,builtin,Sem.run_bind,Sem.run_pure,Result.andThen_ok,List.map_toArray,List.map_cons,List.map_nil,hs,hx,hrun]
  exact hK _ _ (h v' w' r1 r2 r3)
theorem infoOf{P:Program}{t:TypeId}{s b:Nat}(h:(P.info? t).map (fun i=>(i.zero.map (·.cells.size),i.size,i.bytes))=some (some s,s,b)):∃i z,P.info? t=some i∧i.zero=some z∧i.size=s∧i.bytes=b∧z.cells.size=s:=by
 obtain⟨i,hi,h1⟩:=Option.map_eq_some_iff.1 h
 simp only[Prod.mk.injEq]at h1
 obtain⟨z,hz,h2⟩:=Option.map_eq_some_iff.1 h1.1
 exact⟨i,z,hi,hz,h1.2.1,h1.2.2,h2⟩
theorem infoA3:∃i z,Try.prog.info? 3=some i∧i.zero=some z∧i.size=1∧i.bytes=8∧z.cells.size=1:=infoOf (by kernel_rfl)
theorem infoA2:∃i z,Try.prog.info? 2=some i∧i.zero=some z∧i.size=1∧i.bytes=8∧z.cells.size=1:=infoOf (by kernel_rfl)
theorem new_cells{X:World}{l:List Value}{e:TypeId}{z:Nat}(hz:X.heap.size=z):∀(j:Nat) (u:Value),l[j]? =some u→(X.alloc (.cells l.toArray e)).cell? ((⟨z,0,none⟩:Addr).add j)=some u:=by
 intro j u h
 subst hz
 have hb:=heap_alloc_new X (.cells l.toArray e)
 have e1:(⟨X.heap.size,0,none⟩:Addr).add j=⟨X.heap.size,j,none⟩:=by
  unfold Addr.add
  split
  ·subst_vars;rfl
  ·simp
 rw[e1]
 simp only[World.cell?,hb]
 simpa using h
theorem own_slice{v:Value}{base n size:Nat}{e:TypeId}{xs:List Value}(h:w.ownsRow base e size v (n+1) xs):∃g cap,v= .slice (some ⟨g,0,none⟩) (n+1) cap:=by
 rcases h.2 with⟨_,h⟩|⟨g,cap,_,h,_⟩
 ·omega
 ·exact⟨g,cap,h⟩
theorem grown_old{W w1:World}{o:Obj}{row:Option Nat}(hg:(W.alloc o).grownBy w1 row){r:Nat}(hr:r<W.heap.size)(hne:some r≠row):w1.heap[r]? =W.heap[r]?:=
 (hg.block r (by simp;omega) hne).trans (heap_alloc_lt _ _ hr)
structure ValsAt(w wr:World)(ov:Value)(xs:List Int):Prop where
 row:wr.ownsRow 0 2 1 ov xs.length (xs.map fun v=>.int .i64 v)
 size:w.heap.size≤wr.heap.size
 old:∀r,r<w.heap.size→wr.heap[r]? =w.heap[r]?
 new:∀g,ov.ownBlock=some g→w.heap.size≤g
structure RRow(w:World)(a:Option Addr)(xs:List Value):Prop where
 c:∀k x,xs[k]? =some x→∃b o,a=some ⟨b,o,none⟩∧w.cell? ⟨b,o+k,none⟩=some x
theorem RRow.heap{a:Option Addr}{xs:List Value}(h:RRow w a xs)(e:w'.heap=w.heap):RRow w' a xs:=
 ⟨fun k x hx=>by
  obtain⟨b,o,h1,h2⟩:=h.c k x hx
  exact⟨b,o,h1,by simpa only[World.cell?,e]using h2⟩⟩
theorem rrow_of{base n size c:Nat}{e:TypeId}{a:Option Addr}{xs:List Value}(h:w.ownsRow base e size (.slice a n c) n xs):RRow w a xs:=
 ⟨fun k x hx=>by
  obtain⟨b,cap,e1,h1⟩:=row_get h hx
  cases e1
  exact⟨b,0,rfl,by rw[Nat.zero_add];exact h1.c⟩⟩
theorem ans_get(l:List (Bool×Int)):∀(k:Nat),(ansC l)[k*3]? =(l[k]?).map (fun a=>Value.bool a.1)∧(ansC l)[k*3+1]? =(l[k]?).map (fun a=>Value.int .i64 a.2)∧(ansC l)[k*3+2]? =(l[k]?).map (fun a=>Value.slice none 0 0):=by
 induction l with
 | nil=>intro k;simp[ansC]
 | cons a l ih=>
   intro k
   have e:ansC (a::l)=Value.bool a.1::Value.int .i64 a.2::Value.slice none 0 0::ansC l:=rfl
   cases k with
   | zero=>simp[e]
   | succ k=>
     have e2:(k+1)*3=k*3+1+1+1:=by omega
     rw[e,e2]
     simpa using ih k
end
section
variable{w w':World}{kb:Nat}
theorem ldU_calls{b o:Nat}{v:Int}(hc:w.cell? ⟨b,o,none⟩=some (.int .u64 v)):
 Calls Try.prog 76 #[.pointer (some ⟨b,o,none⟩)] w fun e w'=>e= .returned (.int .u64 v)∧w'=w:=by
 have hl:=run_call_load (P:=Try.prog) Try.func97 (by kernel_rfl) (by kernel_rfl) (by kernel_rfl) .u64 (by kernel_rfl) hc
 go_enter Try.func76,Try.ntmps76
 go_wp2
 go_ret
 exact⟨rfl,rfl⟩
theorem ldI_calls{b o:Nat}{v:Int}(hc:w.cell? ⟨b,o,none⟩=some (.int .i64 v)):
 Calls Try.prog 54 #[.pointer (some ⟨b,o,none⟩)] w fun e w'=>e= .returned (.int .i64 v)∧w'=w:=by
 have hl:=run_call_load (P:=Try.prog) Try.func88 (by kernel_rfl) (by kernel_rfl) (by kernel_rfl) .i64 (by kernel_rfl) hc
 go_enter Try.func54,Try.ntmps54
 go_wp2
 go_ret
 exact⟨rfl,rfl⟩
theorem stI_calls{b o:Nat}{u:Value}{v:Int}(hc:w.cell? ⟨b,o,none⟩=some u)(hz:w.frozen? ⟨b,o,none⟩=false):
 Calls Try.prog 52 #[.pointer (some ⟨b,o,none⟩),.int .i64 v] w fun e w'=>e= .returned (.tuple #[])∧w'=w.setCell ⟨b,o,none⟩ (.int .i64 v):=by
 have hl:=run_call_store (P:=Try.prog) Try.func87 (by kernel_rfl) (by kernel_rfl) (by kernel_rfl) (by kernel_rfl) (k:=.i64) (y:=v) hc hz
 go_enter Try.func52,Try.ntmps52
 go_wp2
 go_end0
 exact⟨rfl,rfl⟩
theorem stU_calls{b o:Nat}{u:Value}{v:Int}(hc:w.cell? ⟨b,o,none⟩=some u)(hz:w.frozen? ⟨b,o,none⟩=false):
 Calls Try.prog 74 #[.pointer (some ⟨b,o,none⟩),.int .u64 v] w fun e w'=>e= .returned (.tuple #[])∧w'=w.setCell ⟨b,o,none⟩ (.int .u64 v):=by
 have hl:=run_call_store (P:=Try.prog) Try.func96 (by kernel_rfl) (by kernel_rfl) (by kernel_rfl) (by kernel_rfl) (k:=.u64) (y:=v) hc hz
 go_enter Try.func74,Try.ntmps74
 go_wp2
 go_end0
 exact⟨rfl,rfl⟩
theorem of_calls{n t:Int}(hn: -1≤n∧n<65536)(ht:0≤t∧t<2147483648):
 Calls Try.prog 77 #[.int .u64 (pk (n,t))] w fun e w'=>e= .returned (.int .i64 n)∧w'=w:=by
 have e1:pk (n,t) / 4294967296=n+1:=by unfold pk;simp only;omega
 have e2:IntKind.i64.wrap (n+1)=n+1:=IntWalk.i64_in _ (by omega)
 have e3:IntKind.i64.wrap n=n:=IntWalk.i64_in _ (by omega)
 have e4:IntKind.i64.wrap (n+1 - 1)=n:=by rw[Int.add_sub_cancel];exact e3
 go_enter Try.func77,Try.ntmps77
 go_wp2
 go_ret
 exact⟨rfl,rfl⟩
theorem packed_calls{n t:Int}(hn: -1≤n∧n<65536)(ht:0≤t∧t<2147483648):
 Calls Try.prog 75 #[.int .i64 n,.int .u64 t] w fun e w'=>e= .returned (.int .u64 (pk (n,t)))∧w'=w:=by
 have e1:IntKind.i64.wrap (n+1)=n+1:=IntWalk.i64_in _ (by omega)
 have e2:IntKind.u64.wrap (n+1)=n+1:=wraps63 _ (by omega) (by omega)
 have e3:IntKind.u64.wrap ((n+1)*4294967296)=(n+1)*4294967296:=wraps63 _ (by omega) (by omega)
 have e4:bits .or .u64 ((n+1)*4294967296) t=(n+1)*4294967296+t:=pk_or (by omega) (by omega) ht.1 ht.2
 go_enter Try.func75,Try.ntmps75
 go_wp2
 go_ret
 exact⟨rfl,rfl⟩
end
end Go.Proofs.Ytlcgkpapnpdfpaa
