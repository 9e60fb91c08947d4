/-
  SeqlockNone holds for every input.
  Part 5 of 5.
-/
import Derived.Test.YtlcgkpapnpdfpaaZD
import Derived.Test.YtlcgkpapnpdfpaaRows
import Derived.ProofKit
import Derived.Carry
import Derived.Deep.Slices
import Derived.ChangeSlices
import Derived.Conc.LeavingOf
import Derived.ChangeSame
set_option linter.unusedSimpArgs false
set_option linter.unusedVariables false
set_option linter.unusedSectionVars false
set_option maxRecDepth 100000
set_option maxHeartbeats 8000000
namespace Go.Proofs.Ytlcgkpapnpdfpaa
open Go Go.Conc Go.RowKit Go.Proofs
section
variable{An:Anchor}{w w' w0:World}
def fxOps1:Nat→List Op4:=fun i=>if i=0 then[⟨1,1,10,1⟩]else if i=1 then[⟨3,1,0,0⟩]else[]
def fxOps2:Nat→List Op4:=fun i=>if i=0 then[⟨1,1,10,1⟩]else if i=1 then[⟨4,0,0,0⟩]else[]
def fxS1:List Int:=[1,1,0,0,0,0,0,1,1]
def fxS2:List Int:=[1,0,0,0,0,0,1]
def fxE1:GS SPl×List Nat:=gOver fxOps1 2 99 fxS1 10 (ss0 [1,2])
def fxE2:GS SPl×List Nat:=gOver fxOps2 2 99 fxS2 10 (ss0 [1,2])
theorem fxE1_done:gDone 2 99 fxE1:=by decide +kernel
theorem fxE2_done:gDone 2 99 fxE2:=by decide +kernel
theorem fxE1_st:SSt.state fxE1.1.q=[2,10,11]:=by decide +kernel
theorem fxE2_st:SSt.state fxE2.1.q=[2,10,11]:=by decide +kernel
def fxA1:List SAn:=(fxE1.1.th 1).ans
def fxA2:List SAn:=(fxE2.1.th 1).ans
theorem fxE1_ans:fxA1=[(false,0,[])]:=by decide +kernel
theorem fxE2_ans:fxA2=[(true,0,[1,11])]:=by decide +kernel
theorem gover_eq{m:Pl}{ops:Nat→List Op4}{n M:Nat}{S:List Int}{s:GS m}{f0:Nat}(hd:gDone n M (gOver ops n M S f0 s))(t:GS m×List Nat)(h:∃k,∀f,k≤f→gOver ops n M S f s=t):t=gOver ops n M S f0 s:=by
 obtain⟨k,hk⟩:=h
 rw[← hk (max k f0) (by omega)]
 exact gRounds_stays f0 _ hd _ (by omega)
theorem bld_at{X:World}{k:Nat}{c:Array Value}{e:TypeId}(h:X.heap[k]? =some (.cells c e (0,0))){j:Nat}{v:Value}(hv:c[j]? =some v):X.cell? ⟨k,j,none⟩=some v∧X.frozen? ⟨k,j,none⟩=false:=⟨by simp only[World.cell?,h];simpa using hv,by simp[World.frozen?,h]⟩
theorem fx_in{u:World}{b0 b1 bt bs:Nat}{k1 a1 x1 y1 k2 a2 x2 y2:Int}{S:List Int}(h0:u.heap[b0]? =some (.cells #[.int .i64 k1,.int .i64 a1,.int .i64 x1,.int .i64 y1] 47 (0,0)))(h1:u.heap[b1]? =some (.cells #[.int .i64 k2,.int .i64 a2,.int .i64 x2,.int .i64 y2] 47 (0,0)))(ht:u.heap[bt]? =some (.cells #[.slice (some ⟨b0,0,none⟩) 1 1,.slice (some ⟨b1,0,none⟩) 1 1] 34 (0,0)))(hs:u.heap[bs]? =some (.cells (S.map fun i:Int=>Value.int .i64 i).toArray 3 (0,0)))(hl:S.length<100):
 OpsIn u (fun _=>False) 2 bt 0 2 (some ⟨bt,0,none⟩) (fun i=>some ⟨if i=0 then b0 else b1,0,none⟩) (fun _=>1) (fun _=>1) (fun i=>if i=0 then[⟨k1,a1,x1,y1⟩]else if i=1 then[⟨k2,a2,x2,y2⟩]else[]) S (some ⟨bs,0,none⟩):=by
 refine⟨rfl,fun _=>rfl,fun _=>(alt ht),fun j hj=>?_,fun j hj=>?_,fun j hj k x hx=>?_,by omega,fun _=>⟨_,_,_,_,_,rfl,id,hs,fun k v hv=>⟨by rw[Nat.zero_add];simpa using hv,by simp⟩⟩⟩
 ·have:j=0∨j=1:=by omega
  rcases this with rfl|rfl
  ·exact⟨(bld_at ht rfl).1,(bld_at (j:=0) ht rfl).2,Nat.le_refl _⟩
  ·exact⟨(bld_at ht rfl).1,(bld_at (j:=1) ht rfl).2,Nat.le_refl _⟩
 ·have:j=0∨j=1:=by omega
  rcases this with rfl|rfl<;>rfl
 ·have:j=0∨j=1:=by omega
  rcases this with rfl|rfl
  ·have hk:k=0:=by
    have:=(List.getElem?_eq_some_iff.1 hx).1
    simp at this
    omega
   subst hk
   obtain rfl:(⟨k1,a1,x1,y1⟩:Op4)=x:=by simpa using hx
   exact⟨_,_,rfl,id,(bld_at h0 rfl).1,(bld_at h0 rfl).1,(bld_at h0 rfl).1,(bld_at h0 rfl).1,(bld_at (j:=0) h0 rfl).2,(bld_at (j:=1) h0 rfl).2,(bld_at (j:=2) h0 rfl).2,(bld_at (j:=3) h0 rfl).2⟩
  ·have hk:k=0:=by
    have:=(List.getElem?_eq_some_iff.1 hx).1
    simp at this
    omega
   subst hk
   obtain rfl:(⟨k2,a2,x2,y2⟩:Op4)=x:=by simpa using hx
   exact⟨_,_,rfl,id,(bld_at h1 rfl).1,(bld_at h1 rfl).1,(bld_at h1 rfl).1,(bld_at h1 rfl).1,(bld_at (j:=0) h1 rfl).2,(bld_at (j:=1) h1 rfl).2,(bld_at (j:=2) h1 rfl).2,(bld_at (j:=3) h1 rfl).2⟩
theorem fx_row{u:World}{vb:Nat}{vs:List Int}(h:u.heap[vb]? =some (.cells (vs.map fun i:Int=>Value.int .i64 i).toArray 2 (0,0))):InRow u (some ⟨vb,0,none⟩) vs:=fun i x hx=>⟨vb,0,rfl,by
 rw[Nat.zero_add]
 exact(bld_at h (by simp[hx])).1⟩
structure FxT(u:World)(T:Nat)(ok:Bool)(l:List Int):Prop where
 t:∃aa xa xc g cap la lc,u.cell? ⟨T,0,none⟩=some (.slice (some ⟨aa,0,none⟩) 2 2)∧u.cell? ⟨T,2,none⟩=some (.slice (some ⟨xa,0,none⟩) 3 xc)∧u.cell? ⟨aa,1,none⟩=some (.slice (some ⟨g,0,none⟩) 1 cap)∧u.cell? ⟨g,0,none⟩=some (.bool ok)∧u.cell? ⟨g,2,none⟩=some (.slice la l.length lc)∧RRow u la (l.map fun v=>.int .i64 v)∧u.cell? ⟨xa,0,none⟩=some (.int .i64 2)∧u.cell? ⟨xa,2,none⟩=some (.int .i64 11)
theorem FxT.same{u u':World}{T:Nat}{ok:Bool}{l:List Int}(h:FxT u T ok l)(hs:∀(r:Nat) (c:Array Value) (e:TypeId) (z:Nat×Nat),u.heap[r]? =some (.cells c e z)→u'.heap[r]? =some (.cells c e z)):FxT u' T ok l:=by
 obtain⟨aa,xa,xc,g,cap,la,lc,h1,h2,h3,h4,h5,h6,h7,h8⟩:=h.t
 have hc:∀{a:Addr} {v:Value},u.cell? a=some v→u'.cell? a=some v:=fun{a v} h=>by
  obtain⟨c,e,z,ho⟩:=cell_block h
  have:=hs _ _ _ _ ho
  rw[← h];unfold World.cell?;simp only[this,ho]
 refine⟨aa,xa,xc,g,cap,la,lc,hc h1,hc h2,hc h3,hc h4,hc h5,⟨fun k x hx=>?_⟩,hc h7,hc h8⟩
 obtain⟨b,o,e1,e2⟩:=h6.c k x hx
 exact⟨b,o,e1,hc e2⟩
theorem fxt_of{u u':World}{ans:Nat→List SAn}{order:List Nat}{aa:Nat}{rows:Nat→Value}{av:Nat→List SA}{oa xa:Option Addr}{oc xc:Nat}{st:Bool}{ok:Bool}{n1:Int}{l:List Int}(h:SPlayU w 2 ans [2,10,11] order aa rows av (.slice oa order.length oc) (.slice xa ([2,10,11]:List Int).length xc) u)(ha:ans 1=[(ok,n1,l)])
 (hT:u'.heap=(u.alloc (.cells #[.slice (some ⟨aa,0,none⟩) 2 2,.slice oa order.length oc,.slice xa ([2,10,11]:List Int).length xc,.bool st] 31)).heap):FxT u' u.heap.size ok l:=by
 have hn:u'.heap[u.heap.size]? =some (.cells #[.slice (some ⟨aa,0,none⟩) 2 2,.slice oa order.length oc,.slice xa ([2,10,11]:List Int).length xc,.bool st] 31 (0,0)):=by rw[hT];exact heap_alloc_new _ _
 have ho:∀r,r<u.heap.size→u'.heap[r]? =u.heap[r]?:=fun r hr=>by rw[hT];exact heap_alloc_lt _ _ hr
 have hc:∀{a:Addr} {v:Value},u.cell? a=some v→u'.cell? a=some v:=fun{a v} h=>by
  obtain⟨c,e,z,hb⟩:=cell_block h
  rw[← h];unfold World.cell?;simp only[ho _ (alt hb)]
 obtain⟨c,a1,a2,a3⟩:=h.arr
 obtain⟨r1,r2,r3,r4⟩:=h.row 1 (by decide)
 rw[ha]at r1
 obtain⟨sa,hsa⟩:∃sa,av 1=[sa]:=by
  cases hq:av 1 with
  | nil=>rw[hq]at r1;cases r1
  | cons x t=>
    cases t with
    | nil=>exact⟨x,rfl⟩
    | cons y t=>rw[hq]at r1;simp at r1
 rw[hsa]at r1 r3 r4
 have r1:sa.an=(ok,n1,l):=by simpa using r1
 obtain⟨an,la,ll,lc⟩:=sa
 simp only at r1
 subst r1
 have r3:u.ownsRow 0 44 3 (rows 1) (0+1) (SA.v ⟨(ok,n1,l),la,ll,lc⟩).cells:=by simpa using r3
 obtain⟨g,cap,hg⟩:=own_slice r3
 have hcells:(SA.v ⟨(ok,n1,l),la,ll,lc⟩).cells=[.bool ok,.int .i64 n1,.slice la ll lc]:=rfl
 rw[hcells]at r3
 obtain⟨b,cp,e1,g0⟩:=row_get (k:=0) r3 rfl
 obtain⟨b2,cp2,e2,g2⟩:=row_get (k:=2) r3 rfl
 rw[hg]at e1 e2
 cases e1
 cases e2
 have hl:SAU ⟨(ok,n1,l),la,ll,lc⟩ u:=r4 _ (by simp)
 have hl2:u.ownsRow 0 2 1 (.slice la ll lc) l.length (l.map fun v=>.int .i64 v):=hl
 have hll:ll=l.length:=by
  rcases hl2.2 with⟨e,e2⟩|⟨_,_,_,e,_⟩
  ·cases e
   omega
  ·cases e
   rfl
 have hst:=h.st
 obtain⟨bx,cx,ex,x0⟩:=row_get (k:=0) hst rfl
 obtain⟨bx2,cx2,ex2,x2⟩:=row_get (k:=2) hst rfl
 cases ex
 cases ex2
 refine⟨aa,bx,xc,g,cap,la,lc,(bld_at hn rfl).1,(bld_at hn rfl).1,hc ?_,hc g0.c,hc (hll ▸ g2.c),?_,hc x0.c,hc x2.c⟩
 ·have:=a3 1 (by decide)
  rw[hg]at this
  exact(bld_at a1 this).1
 ·refine⟨fun k x hx=>?_⟩
  obtain⟨b,cp,e,hk⟩:=row_get hl2 hx
  cases e
  exact⟨b,0,rfl,by rw[Nat.zero_add];exact hc hk.c⟩
theorem fx_r4{T1 T2:Nat}{b1:Bool}{l1:List Int}(h1:FxT w T1 false l1)(h2:FxT w T2 b1 [1,11]){A:Array Value}(hA:Slots 124 A [(2,.pointer (some ⟨T1,0,none⟩)),(3,.pointer (some ⟨T2,0,none⟩))]):
 sfxr4.wp Try.prog (nrm fun a u=>a.defers=[]∧(a.tmps.size=124∧a.tmps.getD 89 undef= .bool false∧w.heap.size≤u.heap.size∧∀r,r<w.heap.size→u.heap[r]? =w.heap[r]?)) ⟨A,[]⟩ w:=by
 obtain⟨hsz,h02,h03,_⟩:=hA
 obtain⟨s,rfl⟩:=sfxT_of hsz
 change s 2=_ at h02
 change s 3=_ at h03
 clear hsz
 obtain⟨aa,xa,xc,g,cap,la,lc,c1,c2,c3,c4,c5,c6,c7,c8⟩:=h1.t
 obtain⟨aa2,xa2,xc2,g2,cap2,la2,lc2,d1,d2,d3,d4,d5,d6,d7,d8⟩:=h2.t
 have C:Aside (Calls Try.prog 22 #[.slice la2 2 lc2,.slice (some ⟨w.heap.size,0,none⟩) 2 2] (w.alloc (.cells #[.int .i64 1,.int .i64 11] 2)) fun x w'=>x= .returned (.bool true)∧w'.heap=(w.alloc (.cells #[.int .i64 1,.int .i64 11] 2)).heap):=
  same22 (xs:=[1,11]) (by decide) (d6.alloc _) (rrow_new w ([1,11].map fun v=>.int .i64 v) 2)
 clear h1 h2 c5 c6 d4 d6 d7 d8 d2
 simp only[sfxr4,sfxBody,pC,Try.f13,Option.getD_some,sfxT,h02,h03,List.append_eq,List.append,List.cons_append,List.nil_append]
 clear h02 h03
 go_wp2_with (go_at_call 22;refine C.out.mono ?_;rintro e w1 ⟨rfl,hw1⟩;have W1:Aside (w1.heap=(w.alloc (.cells #[.int .i64 1,.int .i64 11] 2)).heap):=hw1;clear hw1)
 refine⟨rfl,rfl,rfl,?_,fun r hr=>?_⟩
 ·rw[W1.out];simp
 ·rw[W1.out];exact heap_alloc_lt _ _ hr
end
section
variable{F:Fz}{w:World}
theorem ccl_01{nn:Nat}(hU:Under F nn)(hn:nn≤w.heap.size){sv:Value}{lb n:Nat}{a b c0:Int}{cs:List Frame}{main:Bool}{Stop:Goroutine→World→Prop}
 (h:∀A,Slots 67 A [(0,.pointer (some ⟨lb,0,none⟩)),(1,sv),(3,.int .i64 (n:Nat)),(6,.pointer (some ⟨w.heap.size,0,none⟩)),(8,.pointer (some ⟨w.heap.size+1,0,none⟩)),(9,.pointer (some ⟨w.heap.size+2,0,none⟩))]→Own Try.prog main F Stop (G ((Go.Conc.base 20).at ⟨A,[]⟩ [.code cclr5,.inBlock 0,.code ccls10]) cs) (((w.alloc (.cells #[.int .i64 1,.int .i64 a,.int .i64 b,.int .i64 c0] 47)).alloc (.cells #[.bool false,.int .i64 0,.slice none 0 0] 44)).alloc (.cells #[.bool true,.int .i64 0,.slice none 0 0] 44))):
 Own Try.prog main F Stop (G (Frame.enter Try.prog 20 #[.pointer (some ⟨lb,0,none⟩),sv,.agg #[.int .i64 1,.int .i64 a,.int .i64 b,.int .i64 c0],.int .i64 (n:Nat)] .normal) cs) w:=by
 rw[enter_ccl]
 walk_nrm
 refine ogSR ccls0' cclr0' ?_
 simp only[cclr0,cclBody,Try.f20,zz,Nat.reduceAdd]
 iterate 2 (refine oW fun dd K hK=>?_;go_simp;refine qA hK hU ?_;clear hK K)
 refine ogE ?_
 refine ogSR ccls1' cclr1' ?_
 simp only[cclr1,cclBody,Try.f20,zz,Nat.reduceAdd]
 (refine oW fun dd K hK=>?_;go_simp;refine qT hK ?_;clear hK K)
 (refine oW fun dd K hK=>?_;go_simp;refine qA hK hU ?_;clear hK K)
 (refine oW fun dd K hK=>?_;go_simp;refine hK _ _ ⟨⟨⟨0,grew3 (fun k=>not_held hU (show nn≤w.heap.size+2 by omega)) _ _ _⟩,fun e he=>by(have hm:=mem_listed he;clear he hK;simp[go_sem,storedEv]at hm;rcases hm with rfl|rfl|rfl<;>exact evT_write _ _ ((fun k=>not_held hU (show nn≤w.heap.size+2 by omega)) _))⟩,?_⟩;clear hK K;simp only[setCell_at'];refine Own.at ?_ dd)
 have e1:=an_new44 ((w.alloc (.cells #[.int .i64 1,.int .i64 a,.int .i64 b,.int .i64 c0] 47)).alloc (.cells #[.bool false,.int .i64 0,.slice none 0 0] 44)) (.bool false) (.int .i64 0) (.slice none 0 0) (.bool true) (.int .i64 0) (.slice none 0 0)
 have e2:((w.alloc (.cells #[.int .i64 1,.int .i64 a,.int .i64 b,.int .i64 c0] 47)).alloc (.cells #[.bool false,.int .i64 0,.slice none 0 0] 44)).heap.size=w.heap.size+2:=size2 _ _ _
 rw[e2]at e1
 rw[e1]
 clear e1 e2
 refine ogE ?_
 refine ogSE ccls2' ?_
 refine ogSR ccls3' cclr2' ?_
 simp only[cclr2,cclBody,Try.f20,zz,Nat.reduceAdd]
 (refine oW fun dd K hK=>?_;go_simp;refine qT hK ?_;clear hK K)
 (refine oW fun dd K hK=>?_;go_simp;refine qL hK ?_;clear hK K)
 refine ogE ?_
 rw[cclb0']
 refine ogB ?_
 refine ogSR ccls4' cclr4' ?_
 simp only[cclr4,cclBody,Try.f20,zz,Nat.reduceAdd]
 iterate 2 (refine oW fun dd K hK=>?_;go_simp;refine qT hK ?_;clear hK K)
 refine ogE ?_
 rw[cclc14']
 refine ogT ?_
 simp only[if_true]
 refine h _ ?_
 exact⟨rfl,rfl,rfl,rfl,rfl,rfl,rfl,trivial⟩
theorem ccl_11{sv:Value}{main:Bool}{sb:Option Nat}{m:Nat}{X:Nat→World→Prop}{ls:SS}{lb n pb ab rb:Nat}{a b c0:Int}(S:StepS sv main sb X)(h:AlS lb sb X w ls m w)(hsb:∀b,sb=some b→¬SR lb ls b)(hsbl:∀b,sb=some b→b<w.heap.size)(hev:ls.k.ver.tmod 2=0)(hm:m+32<4611686018427387904)(hn16:n≤16)(hs:OpAt pb 1 a b c0 w)(ha:w.heap[ab]? =some (.cells #[.bool true,.int .i64 0,.slice none 0 0] 44 (0,0)))(hb:Ans w rb)(hne:ab≠rb)
 (hpn:some pb≠sb∧pb≠lb∧pb≠ls.wb) (hna:some ab≠sb∧ab≠lb∧ab≠ls.wb) (hnr:some rb≠sb∧rb≠lb∧rb≠ls.wb) {A:Array Value} (hA:Slots 67 A [(0,.pointer (some ⟨lb,0,none⟩)),(1,sv),(3,.int .i64 (n:Nat)),(6,.pointer (some ⟨pb,0,none⟩)),(8,.pointer (some ⟨rb,0,none⟩)),(9,.pointer (some ⟨ab,0,none⟩))]) {c:Frame} {cs:List Frame} {Stop:Goroutine→World→Prop}
 (K:∀w2 w3,AlS lb sb X w ⟨ls.k.wrote 1 (opVals n b c0),ls.wb,ls.wo⟩ (m+ls.n+3) w2→AnsW w2 w3 ab rb→Own Try.prog main F0 Stop (G (c.finish (.agg #[.bool true,.int .i64 0,.slice none 0 0])) cs) w3):
 Own Try.prog main F0 Stop (G ((Go.Conc.base 20).at ⟨A,[]⟩ [.code cclr5,.inBlock 0,.code ccls10]) (c::cs)) w:=by
 have hne2:=Ne.symm hne
 have hpl:pb<w.heap.size:=(Array.getElem?_eq_some_iff.1 hs.o).1
 have hal:ab<w.heap.size:=(alt ha)
 have hrl:rb<w.heap.size:=by
  obtain⟨_,_,_,h1⟩:=hb.o
  exact(alt h1)
 have hs0:=hs
 have hS:∀w d,OpAt pb 1 a b c0 w→OpAt pb 1 a b c0 (World.at w d):=fun w d h=>h.at d
 obtain⟨hsz,h0,h1,h3,h6,h8,h9,_⟩:=hA
 obtain⟨s,rfl⟩:=cclT_of hsz
 change s 0=_ at h0
 change s 1=_ at h1
 change s 3=_ at h3
 change s 6=_ at h6
 change s 8=_ at h8
 change s 9=_ at h9
 clear hsz
 simp only[cclT,h0,h1,h3,h6,h8,h9]
 clear h0 h1 h3 h6 h8 h9
 rw[cclr5']
 refine own_drawnC (OpAt pb 1 a b c0) (last:=9) run_mixed (ll_of (by kernel_rfl)) (by decide) ?_
 simp only[cclr5,cclBody,Try.f20,zz,Nat.reduceAdd]
 refine anyC_take hS (fun _ _ d h=>h.at d) (i:=0) (v:=.pointer (some ⟨lb,0,none⟩)) hs rfl rfl (by kernel_rfl) (by kernel_rfl) (by kernel_rfl) (fun u hu=>.inl ⟨rfl,fun d=>⟨by simp[go_sem,execOp,Act.eval],fun e he=>by have hm:=mem_listed he;simp[go_sem,execOp,Act.eval]at hm⟩⟩) ?_
 walk_nrm
 refine anyC_take hS (fun _ _ d h=>h.at d) (i:=1) (v:=sv) hs rfl rfl (by kernel_rfl) (by kernel_rfl) (by kernel_rfl) (fun u hu=>.inl ⟨rfl,fun d=>⟨by simp[go_sem,execOp,Act.eval],fun e he=>by have hm:=mem_listed he;simp[go_sem,execOp,Act.eval]at hm⟩⟩) ?_
 walk_nrm
 refine anyC_take hS (fun _ _ d h=>h.at d) (i:=2) (v:=.pointer (some ⟨pb,1,none⟩)) hs rfl rfl (by kernel_rfl) (by kernel_rfl) (by kernel_rfl) (fun u hu=>.inl ⟨rfl,fun d=>⟨by simp[go_sem,execOp,Act.eval],fun e he=>by have hm:=mem_listed he;simp[go_sem,execOp,Act.eval]at hm⟩⟩) ?_
 walk_nrm
 refine anyC_take hS (fun _ _ d h=>h.at d) (i:=3) (v:=.int .i64 a) hs rfl rfl (by kernel_rfl) (by kernel_rfl) (by kernel_rfl) (fun u hu=>.inl ⟨rfl,fun d=>⟨by simp[go_sem,execOp,Act.eval,hu.f1],fun e he=>by have hm:=mem_listed he;simp[go_sem,execOp,Act.eval,hu.f1]at hm;subst hm;exact evT_read _ _⟩⟩) ?_
 walk_nrm
 refine anyC_take hS (fun _ _ d h=>h.at d) (i:=4) (v:=.agg #[.int .i64 1,.int .i64 a,.int .i64 b,.int .i64 c0]) hs rfl rfl (by kernel_rfl) (by kernel_rfl) (by kernel_rfl) (fun u hu=>.inl ⟨rfl,fun d=>⟨by simp[go_sem,execOp,Act.eval,hu.f0,hu.f1,hu.f2,hu.f3],fun e he=>by have hm:=mem_listed he;simp[go_sem,execOp,Act.eval,hu.f0,hu.f1,hu.f2,hu.f3]at hm;rcases hm with rfl|rfl|rfl|rfl<;>exact evT_read _ _⟩⟩) ?_
 walk_nrm
 refine anyC_take hS (fun _ _ d h=>h.at d) (i:=5) (v:=.int .i64 (n:Nat)) hs rfl rfl (by kernel_rfl) (by kernel_rfl) (by kernel_rfl) (fun u hu=>.inl ⟨rfl,fun d=>⟨by simp[go_sem,execOp,Act.eval],fun e he=>by have hm:=mem_listed he;simp[go_sem,execOp,Act.eval]at hm⟩⟩) ?_
 walk_nrm
 refine anyC_all (r:=[6]) (by kernel_rfl) (by kernel_rfl) (fun j1 hj1 hjl=>?_)
 obtain rfl:j1=6:=by simpa using hj1
 refine⟨_,rfl,.inr (.inr ⟨rfl,55,#[.agg #[.int .i64 1,.int .i64 a,.int .i64 b,.int .i64 c0],.int .i64 (n:Nat)],fun v w'=>ValsAt w w' v (opVals n b c0),fun w=>by simp[execOp,Act.eval,resolve,invoke,Deferred.ofValue,callable55.run],fun w=>by simp[execOp,Act.eval,resolve,invoke,Deferred.ofValue,callable55.run,callable55.quiet],fun c cs Stop k=>own_cvals hn16 fun w1 v hV=>k _ _ hV,?_⟩)⟩
 rintro v w1 hV
 refine⟨⟨(hV.old _ hpl).trans hs.o⟩,?_⟩
 have hs1:OpAt pb 1 a b c0 w1:=⟨(hV.old _ hpl).trans hs.o⟩
 clear hs
 have hs:=hs1
 have hrow:=hV.row
 rw[opVals_len]at hrow
 obtain⟨va,vl,vc,hv⟩:=row_slice hrow
 subst hv
 obtain rfl:vl=n:=by
  rcases hrow.2 with⟨e,h⟩|⟨_,_,_,e,_⟩
  ·cases e;exact h.symm
  ·cases e;rfl
 have a1:AlS lb sb X w ls m w1:=h.grow S hV.size (fun r hr=>hV.old r hr) (fun r hr=>hV.old r (h.u.low hr)) (fun b hb _=>hV.old b (hsbl b hb))
 walk_nrm
 refine anyC_all (r:=[7]) (by kernel_rfl) (by kernel_rfl) (fun j1 hj1 hjl=>?_)
 obtain rfl:j1=7:=by simpa using hj1
 refine⟨_,rfl,.inr (.inr ⟨rfl,24,#[.pointer (some ⟨lb,0,none⟩),sv,.int .i64 a,.slice va vl vc],fun v w'=>v= .bool true∧AlS lb sb X w ⟨ls.k.wrote 1 (opVals vl b c0),ls.wb,ls.wo⟩ (m+ls.n+3) w',fun w=>by simp[execOp,Act.eval,resolve,invoke,Deferred.ofValue,callable24.run],fun w=>by simp[execOp,Act.eval,resolve,invoke,Deferred.ofValue,callable24.run,callable24.quiet],fun c cs Stop k=>(by
  have hk:=own_write_al1 (a:=a) (vc:=vc) (c:=c) (cs:=cs) (Stop:=Stop) S a1 hsb hev hm (vs:=opVals vl b c0) (.of_row hV.row) (fun y hy=>by
   subst hy
   have h1:=hV.new _ rfl
   have h2:=h.u.low (r:=lb) (.inl rfl)
   have h3:=h.u.low (r:=ls.wb) (.inr rfl)
   exact⟨by omega,by omega,fun e=>by have:=hsbl _ e.symm;omega⟩) (fun w2 a2=>k _ _ ⟨rfl,a2⟩)
  rw[opVals_len]at hk
  exact hk),?_⟩)⟩
 rintro v w2 ⟨hvb,a2⟩
 subst hvb
 have hs2:OpAt pb 1 a b c0 w2:=⟨(a2.o _ hpl hpn.1 hpn.2.1 hpn.2.2).trans hs0.o⟩
 refine⟨hs2,?_⟩
 clear hs hs1
 have hs:=hs2
 walk_nrm
 refine anyC_take hS (fun _ _ d h=>h.at d) (i:=8) (v:=.pointer (some ⟨ab,0,none⟩)) hs rfl rfl (by kernel_rfl) (by kernel_rfl) (by kernel_rfl) (fun u hu=>.inl ⟨rfl,fun d=>⟨by simp[go_sem,execOp,Act.eval],fun e he=>by have hm:=mem_listed he;simp[go_sem,execOp,Act.eval]at hm⟩⟩) ?_
 walk_nrm
 refine anyC_end (by kernel_rfl) ?_ _
 have hab:=a2.o ab hal hna.1 hna.2.1 hna.2.2
 have c0x:=(bld_at (hab.trans ha) (j:=0) rfl).1
 have c1x:=(bld_at (hab.trans ha) (j:=1) rfl).1
 have c2x:=(bld_at (hab.trans ha) (j:=2) rfl).1
 have z0:=(bld_at (hab.trans ha) (j:=0) rfl).2
 have z1:=(bld_at (hab.trans ha) (j:=1) rfl).2
 have z2:=(bld_at (hab.trans ha) (j:=2) rfl).2
 obtain⟨y0v,y1v,y2v,hrb0⟩:=hb.o
 have hrb:=(a2.o rb hrl hnr.1 hnr.2.1 hnr.2.2).trans hrb0
 have d0:=(bld_at hrb (j:=0) rfl).1
 have y0:=(bld_at hrb (j:=0) rfl).2
 have d1:=(bld_at hrb (j:=1) rfl).1
 have y1:=(bld_at hrb (j:=1) rfl).2
 have d2:=(bld_at hrb (j:=2) rfl).1
 have y2:=(bld_at hrb (j:=2) rfl).2
 (refine oW fun dd K hK=>?_;go_simp;refine hK _ _ ⟨⟨⟨0,grew_setCell rfl (noF0 _) _⟩,fun e he=>by(have hm:=mem_listed he;clear he hK;simp[go_sem,storedEv,c0x,z0]at hm;subst hm;exact evT_write _ _ (noF0 _))⟩,?_⟩;clear hK K;simp only[setCell_at'];refine Own.at ?_ dd)
 refine ogE ?_
 refine ogI ?_
 refine ogSR ccls10' cclr14' ?_
 simp only[cclr14,cclBody,Try.f20,zz,Nat.reduceAdd]
 (refine oW fun dd K hK=>?_;go_simp;refine hK _ _ ⟨⟨⟨0,Grew.refl _ _⟩,fun e he=>by(have hm:=mem_listed he;clear he hK;simp[go_sem,c0x,c1x,c2x,z0,z1,z2,d0,d1,d2,y0,y1,y2,hne,hne2]at hm;rcases hm with rfl|rfl|rfl<;>exact evT_read _ _)⟩,Own.at ?_ dd⟩;clear hK K)
 (refine oW fun dd K hK=>?_;go_simp;refine hK _ _ ⟨⟨⟨0,grew3 (fun k=>noF0 _) _ _ _⟩,fun e he=>by(have hm:=mem_listed he;clear he hK;simp[go_sem,storedEv,c0x,c1x,c2x,z0,z1,z2,d0,d1,d2,y0,y1,y2,hne,hne2]at hm;rcases hm with rfl|rfl|rfl<;>exact evT_write _ _ ((fun k=>noF0 _) _))⟩,?_⟩;clear hK K;simp only[setCell_at'];refine Own.at ?_ dd)
 refine ogE ?_
 refine ogX ?_
 refine own_leave (fn:=Try.f20) (v:=.agg #[.bool true,.int .i64 0,.slice none 0 0]) rfl rfl Try.func20 (fun d=>by simp[results,Try.f20,go_sem,c0x,c1x,c2x,z0,z1,z2,d0,d1,d2,y0,y1,y2,hne,hne2]) (fun d e he=>by(simp[results,Try.f20,go_sem,c0x,c1x,c2x,z0,z1,z2,d0,d1,d2,y0,y1,y2,hne,hne2]at he;rcases he with rfl|rfl|rfl<;>exact evT_read _ _)) ?_
 exact K w2 _ a2 ⟨by simp,fun r h1 h2=>by simp[old_set h1,old_set h2]⟩
theorem ccl_02{nn:Nat}(hU:Under F nn)(hn:nn≤w.heap.size){sv:Value}{lb n:Nat}{a b c0:Int}{cs:List Frame}{main:Bool}{Stop:Goroutine→World→Prop}
 (h:∀A,Slots 67 A [(0,.pointer (some ⟨lb,0,none⟩)),(1,sv),(3,.int .i64 (n:Nat)),(6,.pointer (some ⟨w.heap.size,0,none⟩)),(8,.pointer (some ⟨w.heap.size+1,0,none⟩)),(9,.pointer (some ⟨w.heap.size+2,0,none⟩))]→Own Try.prog main F Stop (G ((Go.Conc.base 20).at ⟨A,[]⟩ [.code cclr7,.inBlock 0,.code ccls10]) cs) (((w.alloc (.cells #[.int .i64 2,.int .i64 a,.int .i64 b,.int .i64 c0] 47)).alloc (.cells #[.bool false,.int .i64 0,.slice none 0 0] 44)).alloc (.cells #[.bool true,.int .i64 0,.slice none 0 0] 44))):
 Own Try.prog main F Stop (G (Frame.enter Try.prog 20 #[.pointer (some ⟨lb,0,none⟩),sv,.agg #[.int .i64 2,.int .i64 a,.int .i64 b,.int .i64 c0],.int .i64 (n:Nat)] .normal) cs) w:=by
 rw[enter_ccl]
 walk_nrm
 refine ogSR ccls0' cclr0' ?_
 simp only[cclr0,cclBody,Try.f20,zz,Nat.reduceAdd]
 iterate 2 (refine oW fun dd K hK=>?_;go_simp;refine qA hK hU ?_;clear hK K)
 refine ogE ?_
 refine ogSR ccls1' cclr1' ?_
 simp only[cclr1,cclBody,Try.f20,zz,Nat.reduceAdd]
 (refine oW fun dd K hK=>?_;go_simp;refine qT hK ?_;clear hK K)
 (refine oW fun dd K hK=>?_;go_simp;refine qA hK hU ?_;clear hK K)
 (refine oW fun dd K hK=>?_;go_simp;refine hK _ _ ⟨⟨⟨0,grew3 (fun k=>not_held hU (show nn≤w.heap.size+2 by omega)) _ _ _⟩,fun e he=>by(have hm:=mem_listed he;clear he hK;simp[go_sem,storedEv]at hm;rcases hm with rfl|rfl|rfl<;>exact evT_write _ _ ((fun k=>not_held hU (show nn≤w.heap.size+2 by omega)) _))⟩,?_⟩;clear hK K;simp only[setCell_at'];refine Own.at ?_ dd)
 have e1:=an_new44 ((w.alloc (.cells #[.int .i64 2,.int .i64 a,.int .i64 b,.int .i64 c0] 47)).alloc (.cells #[.bool false,.int .i64 0,.slice none 0 0] 44)) (.bool false) (.int .i64 0) (.slice none 0 0) (.bool true) (.int .i64 0) (.slice none 0 0)
 have e2:((w.alloc (.cells #[.int .i64 2,.int .i64 a,.int .i64 b,.int .i64 c0] 47)).alloc (.cells #[.bool false,.int .i64 0,.slice none 0 0] 44)).heap.size=w.heap.size+2:=size2 _ _ _
 rw[e2]at e1
 rw[e1]
 clear e1 e2
 refine ogE ?_
 refine ogSE ccls2' ?_
 refine ogSR ccls3' cclr2' ?_
 simp only[cclr2,cclBody,Try.f20,zz,Nat.reduceAdd]
 (refine oW fun dd K hK=>?_;go_simp;refine qT hK ?_;clear hK K)
 (refine oW fun dd K hK=>?_;go_simp;refine qL hK ?_;clear hK K)
 refine ogE ?_
 rw[cclb0']
 refine ogB ?_
 refine ogSR ccls4' cclr4' ?_
 simp only[cclr4,cclBody,Try.f20,zz,Nat.reduceAdd]
 iterate 2 (refine oW fun dd K hK=>?_;go_simp;refine qT hK ?_;clear hK K)
 refine ogE ?_
 rw[cclc14']
 refine ogF ?_
 simp only[Bool.false_eq_true,if_false]
 refine ogSR ccls5' cclr6' ?_
 simp only[cclr6,cclBody,Try.f20,zz,Nat.reduceAdd]
 iterate 2 (refine oW fun dd K hK=>?_;go_simp;refine qT hK ?_;clear hK K)
 refine ogE ?_
 rw[cclc25']
 refine ogT ?_
 simp only[if_true]
 refine h _ ?_
 exact⟨rfl,rfl,rfl,rfl,rfl,rfl,rfl,trivial⟩
theorem ccl_12{sv:Value}{main:Bool}{sb:Option Nat}{m:Nat}{X:Nat→World→Prop}{ls:SS}{lb n pb ab rb:Nat}{a b c0:Int}(S:StepS sv main sb X)(h:AlS lb sb X w ls m w)(hsb:∀b,sb=some b→¬SR lb ls b)(hsbl:∀b,sb=some b→b<w.heap.size)(hev:ls.k.ver.tmod 2=0)(hm:m+32<4611686018427387904)(hn16:n≤16)(hs:OpAt pb 2 a b c0 w)(ha:w.heap[ab]? =some (.cells #[.bool true,.int .i64 0,.slice none 0 0] 44 (0,0)))(hb:Ans w rb)(hne:ab≠rb)
 (hpn:some pb≠sb∧pb≠lb∧pb≠ls.wb) (hna:some ab≠sb∧ab≠lb∧ab≠ls.wb) (hnr:some rb≠sb∧rb≠lb∧rb≠ls.wb) {A:Array Value} (hA:Slots 67 A [(0,.pointer (some ⟨lb,0,none⟩)),(1,sv),(3,.int .i64 (n:Nat)),(6,.pointer (some ⟨pb,0,none⟩)),(8,.pointer (some ⟨rb,0,none⟩)),(9,.pointer (some ⟨ab,0,none⟩))]) {c:Frame} {cs:List Frame} {Stop:Goroutine→World→Prop}
 (K:∀w2 w3,AlS lb sb X w ⟨ls.k.wrote 2 (opVals n b c0),ls.wb,ls.wo⟩ (m+ls.n+3) w2→AnsW w2 w3 ab rb→Own Try.prog main F0 Stop (G (c.finish (.agg #[.bool true,.int .i64 0,.slice none 0 0])) cs) w3):
 Own Try.prog main F0 Stop (G ((Go.Conc.base 20).at ⟨A,[]⟩ [.code cclr7,.inBlock 0,.code ccls10]) (c::cs)) w:=by
 have hne2:=Ne.symm hne
 have hpl:pb<w.heap.size:=(Array.getElem?_eq_some_iff.1 hs.o).1
 have hal:ab<w.heap.size:=(alt ha)
 have hrl:rb<w.heap.size:=by
  obtain⟨_,_,_,h1⟩:=hb.o
  exact(alt h1)
 have hs0:=hs
 have hS:∀w d,OpAt pb 2 a b c0 w→OpAt pb 2 a b c0 (World.at w d):=fun w d h=>h.at d
 obtain⟨hsz,h0,h1,h3,h6,h8,h9,_⟩:=hA
 obtain⟨s,rfl⟩:=cclT_of hsz
 change s 0=_ at h0
 change s 1=_ at h1
 change s 3=_ at h3
 change s 6=_ at h6
 change s 8=_ at h8
 change s 9=_ at h9
 clear hsz
 simp only[cclT,h0,h1,h3,h6,h8,h9]
 clear h0 h1 h3 h6 h8 h9
 rw[cclr7']
 refine own_drawnC (OpAt pb 2 a b c0) (last:=9) run_mixed (ll_of (by kernel_rfl)) (by decide) ?_
 simp only[cclr7,cclBody,Try.f20,zz,Nat.reduceAdd]
 refine anyC_take hS (fun _ _ d h=>h.at d) (i:=0) (v:=.pointer (some ⟨lb,0,none⟩)) hs rfl rfl (by kernel_rfl) (by kernel_rfl) (by kernel_rfl) (fun u hu=>.inl ⟨rfl,fun d=>⟨by simp[go_sem,execOp,Act.eval],fun e he=>by have hm:=mem_listed he;simp[go_sem,execOp,Act.eval]at hm⟩⟩) ?_
 walk_nrm
 refine anyC_take hS (fun _ _ d h=>h.at d) (i:=1) (v:=sv) hs rfl rfl (by kernel_rfl) (by kernel_rfl) (by kernel_rfl) (fun u hu=>.inl ⟨rfl,fun d=>⟨by simp[go_sem,execOp,Act.eval],fun e he=>by have hm:=mem_listed he;simp[go_sem,execOp,Act.eval]at hm⟩⟩) ?_
 walk_nrm
 refine anyC_take hS (fun _ _ d h=>h.at d) (i:=2) (v:=.pointer (some ⟨pb,1,none⟩)) hs rfl rfl (by kernel_rfl) (by kernel_rfl) (by kernel_rfl) (fun u hu=>.inl ⟨rfl,fun d=>⟨by simp[go_sem,execOp,Act.eval],fun e he=>by have hm:=mem_listed he;simp[go_sem,execOp,Act.eval]at hm⟩⟩) ?_
 walk_nrm
 refine anyC_take hS (fun _ _ d h=>h.at d) (i:=3) (v:=.int .i64 a) hs rfl rfl (by kernel_rfl) (by kernel_rfl) (by kernel_rfl) (fun u hu=>.inl ⟨rfl,fun d=>⟨by simp[go_sem,execOp,Act.eval,hu.f1],fun e he=>by have hm:=mem_listed he;simp[go_sem,execOp,Act.eval,hu.f1]at hm;subst hm;exact evT_read _ _⟩⟩) ?_
 walk_nrm
 refine anyC_take hS (fun _ _ d h=>h.at d) (i:=4) (v:=.agg #[.int .i64 2,.int .i64 a,.int .i64 b,.int .i64 c0]) hs rfl rfl (by kernel_rfl) (by kernel_rfl) (by kernel_rfl) (fun u hu=>.inl ⟨rfl,fun d=>⟨by simp[go_sem,execOp,Act.eval,hu.f0,hu.f1,hu.f2,hu.f3],fun e he=>by have hm:=mem_listed he;simp[go_sem,execOp,Act.eval,hu.f0,hu.f1,hu.f2,hu.f3]at hm;rcases hm with rfl|rfl|rfl|rfl<;>exact evT_read _ _⟩⟩) ?_
 walk_nrm
 refine anyC_take hS (fun _ _ d h=>h.at d) (i:=5) (v:=.int .i64 (n:Nat)) hs rfl rfl (by kernel_rfl) (by kernel_rfl) (by kernel_rfl) (fun u hu=>.inl ⟨rfl,fun d=>⟨by simp[go_sem,execOp,Act.eval],fun e he=>by have hm:=mem_listed he;simp[go_sem,execOp,Act.eval]at hm⟩⟩) ?_
 walk_nrm
 refine anyC_all (r:=[6]) (by kernel_rfl) (by kernel_rfl) (fun j1 hj1 hjl=>?_)
 obtain rfl:j1=6:=by simpa using hj1
 refine⟨_,rfl,.inr (.inr ⟨rfl,55,#[.agg #[.int .i64 2,.int .i64 a,.int .i64 b,.int .i64 c0],.int .i64 (n:Nat)],fun v w'=>ValsAt w w' v (opVals n b c0),fun w=>by simp[execOp,Act.eval,resolve,invoke,Deferred.ofValue,callable55.run],fun w=>by simp[execOp,Act.eval,resolve,invoke,Deferred.ofValue,callable55.run,callable55.quiet],fun c cs Stop k=>own_cvals hn16 fun w1 v hV=>k _ _ hV,?_⟩)⟩
 rintro v w1 hV
 refine⟨⟨(hV.old _ hpl).trans hs.o⟩,?_⟩
 have hs1:OpAt pb 2 a b c0 w1:=⟨(hV.old _ hpl).trans hs.o⟩
 clear hs
 have hs:=hs1
 have hrow:=hV.row
 rw[opVals_len]at hrow
 obtain⟨va,vl,vc,hv⟩:=row_slice hrow
 subst hv
 obtain rfl:vl=n:=by
  rcases hrow.2 with⟨e,h⟩|⟨_,_,_,e,_⟩
  ·cases e;exact h.symm
  ·cases e;rfl
 have a1:AlS lb sb X w ls m w1:=h.grow S hV.size (fun r hr=>hV.old r hr) (fun r hr=>hV.old r (h.u.low hr)) (fun b hb _=>hV.old b (hsbl b hb))
 walk_nrm
 refine anyC_all (r:=[7]) (by kernel_rfl) (by kernel_rfl) (fun j1 hj1 hjl=>?_)
 obtain rfl:j1=7:=by simpa using hj1
 refine⟨_,rfl,.inr (.inr ⟨rfl,25,#[.pointer (some ⟨lb,0,none⟩),sv,.int .i64 a,.slice va vl vc],fun v w'=>v= .bool true∧AlS lb sb X w ⟨ls.k.wrote 2 (opVals vl b c0),ls.wb,ls.wo⟩ (m+ls.n+3) w',fun w=>by simp[execOp,Act.eval,resolve,invoke,Deferred.ofValue,callable25.run],fun w=>by simp[execOp,Act.eval,resolve,invoke,Deferred.ofValue,callable25.run,callable25.quiet],fun c cs Stop k=>(by
  have hk:=own_write_al2 (a:=a) (vc:=vc) (c:=c) (cs:=cs) (Stop:=Stop) S a1 hsb hev hm (vs:=opVals vl b c0) (.of_row hV.row) (fun y hy=>by
   subst hy
   have h1:=hV.new _ rfl
   have h2:=h.u.low (r:=lb) (.inl rfl)
   have h3:=h.u.low (r:=ls.wb) (.inr rfl)
   exact⟨by omega,by omega,fun e=>by have:=hsbl _ e.symm;omega⟩) (fun w2 a2=>k _ _ ⟨rfl,a2⟩)
  rw[opVals_len]at hk
  exact hk),?_⟩)⟩
 rintro v w2 ⟨hvb,a2⟩
 subst hvb
 have hs2:OpAt pb 2 a b c0 w2:=⟨(a2.o _ hpl hpn.1 hpn.2.1 hpn.2.2).trans hs0.o⟩
 refine⟨hs2,?_⟩
 clear hs hs1
 have hs:=hs2
 walk_nrm
 refine anyC_take hS (fun _ _ d h=>h.at d) (i:=8) (v:=.pointer (some ⟨ab,0,none⟩)) hs rfl rfl (by kernel_rfl) (by kernel_rfl) (by kernel_rfl) (fun u hu=>.inl ⟨rfl,fun d=>⟨by simp[go_sem,execOp,Act.eval],fun e he=>by have hm:=mem_listed he;simp[go_sem,execOp,Act.eval]at hm⟩⟩) ?_
 walk_nrm
 refine anyC_end (by kernel_rfl) ?_ _
 have hab:=a2.o ab hal hna.1 hna.2.1 hna.2.2
 have c0x:=(bld_at (hab.trans ha) (j:=0) rfl).1
 have c1x:=(bld_at (hab.trans ha) (j:=1) rfl).1
 have c2x:=(bld_at (hab.trans ha) (j:=2) rfl).1
 have z0:=(bld_at (hab.trans ha) (j:=0) rfl).2
 have z1:=(bld_at (hab.trans ha) (j:=1) rfl).2
 have z2:=(bld_at (hab.trans ha) (j:=2) rfl).2
 obtain⟨y0v,y1v,y2v,hrb0⟩:=hb.o
 have hrb:=(a2.o rb hrl hnr.1 hnr.2.1 hnr.2.2).trans hrb0
 have d0:=(bld_at hrb (j:=0) rfl).1
 have y0:=(bld_at hrb (j:=0) rfl).2
 have d1:=(bld_at hrb (j:=1) rfl).1
 have y1:=(bld_at hrb (j:=1) rfl).2
 have d2:=(bld_at hrb (j:=2) rfl).1
 have y2:=(bld_at hrb (j:=2) rfl).2
 (refine oW fun dd K hK=>?_;go_simp;refine hK _ _ ⟨⟨⟨0,grew_setCell rfl (noF0 _) _⟩,fun e he=>by(have hm:=mem_listed he;clear he hK;simp[go_sem,storedEv,c0x,z0]at hm;subst hm;exact evT_write _ _ (noF0 _))⟩,?_⟩;clear hK K;simp only[setCell_at'];refine Own.at ?_ dd)
 refine ogE ?_
 refine ogI ?_
 refine ogSR ccls10' cclr14' ?_
 simp only[cclr14,cclBody,Try.f20,zz,Nat.reduceAdd]
 (refine oW fun dd K hK=>?_;go_simp;refine hK _ _ ⟨⟨⟨0,Grew.refl _ _⟩,fun e he=>by(have hm:=mem_listed he;clear he hK;simp[go_sem,c0x,c1x,c2x,z0,z1,z2,d0,d1,d2,y0,y1,y2,hne,hne2]at hm;rcases hm with rfl|rfl|rfl<;>exact evT_read _ _)⟩,Own.at ?_ dd⟩;clear hK K)
 (refine oW fun dd K hK=>?_;go_simp;refine hK _ _ ⟨⟨⟨0,grew3 (fun k=>noF0 _) _ _ _⟩,fun e he=>by(have hm:=mem_listed he;clear he hK;simp[go_sem,storedEv,c0x,c1x,c2x,z0,z1,z2,d0,d1,d2,y0,y1,y2,hne,hne2]at hm;rcases hm with rfl|rfl|rfl<;>exact evT_write _ _ ((fun k=>noF0 _) _))⟩,?_⟩;clear hK K;simp only[setCell_at'];refine Own.at ?_ dd)
 refine ogE ?_
 refine ogX ?_
 refine own_leave (fn:=Try.f20) (v:=.agg #[.bool true,.int .i64 0,.slice none 0 0]) rfl rfl Try.func20 (fun d=>by simp[results,Try.f20,go_sem,c0x,c1x,c2x,z0,z1,z2,d0,d1,d2,y0,y1,y2,hne,hne2]) (fun d e he=>by(simp[results,Try.f20,go_sem,c0x,c1x,c2x,z0,z1,z2,d0,d1,d2,y0,y1,y2,hne,hne2]at he;rcases he with rfl|rfl|rfl<;>exact evT_read _ _)) ?_
 exact K w2 _ a2 ⟨by simp,fun r h1 h2=>by simp[old_set h1,old_set h2]⟩
end
section
variable{w w' w0:World}{lb:Nat}
def SSt.call1(s:SSt)(n:Nat)(o:Op4):SSt×SAn×Nat:=
 if o.kd=1 then(s.wrote 1 (opVals n o.b o.c),(true,0,[]),s.ws.length+3)
 else if o.kd=2 then(s.wrote 2 (opVals n o.b o.c),(true,0,[]),s.ws.length+3)
 else if o.kd=3 then(s,(true,0,s.ws),s.ws.length+2)
 else if o.kd=4 then(s,(true,0,s.ws),s.ws.length)
 else if o.kd=5 then(s,(decide (o.a<s.ver),s.ver,[]),1)
 else(s,(false,0,[]),0)
section
variable{sv:Value}{main:Bool}{sb:Option Nat}{m:Nat}{X:Nat→World→Prop}{s s':SS}
theorem AlS.fin{W3 w2 w3:World}{ab rb m':Nat}(S:StepS sv main sb X)(h:AlS lb sb X W3 s' m' w2)(hs0:w.heap.size≤W3.heap.size)(ho0:∀r,r<w.heap.size→W3.heap[r]? =w.heap[r]?)(hw:AnsW w2 w3 ab rb)(hab:w.heap.size≤ab)(hrb:w.heap.size≤rb)(hl:∀r,SR lb s' r→r<w.heap.size)(hsbl:∀b,sb=some b→b<w.heap.size):AlS lb sb X w s' m' w3:=by
 have hz:=h.sz
 exact⟨h.u.same fun r hr=>hw.old r (by have:=hl r hr;omega) (by have:=hl r hr;omega),S.keep m' _ _ h.x fun b hb _=>hw.old b (by have:=hsbl b hb;omega) (by have:=hsbl b hb;omega),by rw[hw.size];omega,fun r hr h1 h2 h3=>(hw.old r (by omega) (by omega)).trans ((h.o r (by omega) h1 h2 h3).trans (ho0 r hr))⟩
theorem sau_nil(x:SAn)(hx:x.2.2=[]):SAU ⟨x,none,0,0⟩ w:=by
 unfold SAU
 rw[hx]
 exact World.ownsRow_nil _ _ _ _
theorem own_scall(S:StepS sv main sb X)(h:AlS lb sb X w s m w)(hsb:∀b,sb=some b→¬SR lb s b)(hsbl:∀b,sb=some b→b<w.heap.size)(hev:s.k.ver.tmod 2=0)(hm:m+64<4611686018427387904){n:Nat}(hn:n=s.n){kd a b c0:Int}{c:Frame}{cs:List Frame}{Stop:Goroutine→World→Prop}
 (K:∀w' la ll lc,AlS lb sb X w ⟨(s.k.call1 n ⟨kd,a,b,c0⟩).1,s.wb,s.wo⟩ (m+(s.k.call1 n ⟨kd,a,b,c0⟩).2.2) w'→SAU ⟨(s.k.call1 n ⟨kd,a,b,c0⟩).2.1,la,ll,lc⟩ w'→(∀g,(Value.slice la ll lc).ownBlock=some g→w.heap.size≤g)→Own Try.prog main F0 Stop (G (c.finish (.agg #[.bool (s.k.call1 n ⟨kd,a,b,c0⟩).2.1.1,.int .i64 (s.k.call1 n ⟨kd,a,b,c0⟩).2.1.2.1,.slice la ll lc])) cs) w'):
 Own Try.prog main F0 Stop (G (Frame.enter Try.prog 20 #[.pointer (some ⟨lb,0,none⟩),sv,.agg #[.int .i64 kd,.int .i64 a,.int .i64 b,.int .i64 c0],.int .i64 (n:Nat)] .normal) (c::cs)) w:=by
 have hn16:s.n≤16:=h.u.wf.n2
 have hl1:=h.u.low (r:=lb) (.inl rfl)
 have hl2:=h.u.low (r:=s.wb) (.inr rfl)
 have hlow:∀r,r=lb∨r=s.wb→r<w.heap.size:=fun r hr=>by rcases hr with rfl|rfl<;>assumption
 by_cases h1:kd=1
 ·subst h1
  refine ccl_01 under_F0 (Nat.zero_le _) fun A hA=>?_
  have hs3:(((w.alloc (.cells #[.int .i64 1,.int .i64 a,.int .i64 b,.int .i64 c0] 47)).alloc (.cells #[.bool false,.int .i64 0,.slice none 0 0] 44)).alloc (.cells #[.bool true,.int .i64 0,.slice none 0 0] 44)).heap.size=w.heap.size+3:=by simp
  have ho3:∀r,r<w.heap.size→(((w.alloc (.cells #[.int .i64 1,.int .i64 a,.int .i64 b,.int .i64 c0] 47)).alloc (.cells #[.bool false,.int .i64 0,.slice none 0 0] 44)).alloc (.cells #[.bool true,.int .i64 0,.slice none 0 0] 44)).heap[r]? =w.heap[r]?:=fun r hr=>by
   rw[heap_alloc_lt _ _ (by simp;omega),heap_alloc_lt _ _ (by simp;omega),heap_alloc_lt _ _ hr]
  have hob:(((w.alloc (.cells #[.int .i64 1,.int .i64 a,.int .i64 b,.int .i64 c0] 47)).alloc (.cells #[.bool false,.int .i64 0,.slice none 0 0] 44)).alloc (.cells #[.bool true,.int .i64 0,.slice none 0 0] 44)).heap[w.heap.size]? =some (.cells #[.int .i64 1,.int .i64 a,.int .i64 b,.int .i64 c0] 47 (0,0)):=by
   rw[heap_alloc_lt _ _ (by simp;omega),heap_alloc_lt _ _ (by simp)]
   exact heap_alloc_new _ _
  have hrb:(((w.alloc (.cells #[.int .i64 1,.int .i64 a,.int .i64 b,.int .i64 c0] 47)).alloc (.cells #[.bool false,.int .i64 0,.slice none 0 0] 44)).alloc (.cells #[.bool true,.int .i64 0,.slice none 0 0] 44)).heap[w.heap.size+1]? =some (.cells #[.bool false,.int .i64 0,.slice none 0 0] 44 (0,0)):=by
   rw[heap_alloc_lt _ _ (by simp)]
   exact new_at (by simp) _
  have hab:(((w.alloc (.cells #[.int .i64 1,.int .i64 a,.int .i64 b,.int .i64 c0] 47)).alloc (.cells #[.bool false,.int .i64 0,.slice none 0 0] 44)).alloc (.cells #[.bool true,.int .i64 0,.slice none 0 0] 44)).heap[w.heap.size+2]? =some (.cells #[.bool true,.int .i64 0,.slice none 0 0] 44 (0,0)):=new_at (by simp) _
  have a3:AlS lb sb X (((w.alloc (.cells #[.int .i64 1,.int .i64 a,.int .i64 b,.int .i64 c0] 47)).alloc (.cells #[.bool false,.int .i64 0,.slice none 0 0] 44)).alloc (.cells #[.bool true,.int .i64 0,.slice none 0 0] 44)) s m (((w.alloc (.cells #[.int .i64 1,.int .i64 a,.int .i64 b,.int .i64 c0] 47)).alloc (.cells #[.bool false,.int .i64 0,.slice none 0 0] 44)).alloc (.cells #[.bool true,.int .i64 0,.slice none 0 0] 44)):=by
   have:=h.grow S (w':=(((w.alloc (.cells #[.int .i64 1,.int .i64 a,.int .i64 b,.int .i64 c0] 47)).alloc (.cells #[.bool false,.int .i64 0,.slice none 0 0] 44)).alloc (.cells #[.bool true,.int .i64 0,.slice none 0 0] 44))) (by omega) (fun r hr=>ho3 r hr) (fun r hr=>ho3 r (h.u.low hr)) (fun b hb _=>ho3 b (hsbl b hb))
   exact⟨this.u,this.x,Nat.le_refl _,fun _ _ _ _ _=>rfl⟩
  generalize (((w.alloc (.cells #[.int .i64 1,.int .i64 a,.int .i64 b,.int .i64 c0] 47)).alloc (.cells #[.bool false,.int .i64 0,.slice none 0 0] 44)).alloc (.cells #[.bool true,.int .i64 0,.slice none 0 0] 44))=W at hs3 ho3 hob hrb hab a3 ⊢
  subst hn
  refine ccl_11 S a3 hsb (fun b hb=>by have:=hsbl b hb;omega) hev (by omega) hn16 ⟨hob⟩ hab ⟨_,_,_,hrb⟩ (by omega) ⟨fun e=>by have:=hsbl _ e.symm;omega,by omega,by omega⟩ ⟨fun e=>by have:=hsbl _ e.symm;omega,by omega,by omega⟩ ⟨fun e=>by have:=hsbl _ e.symm;omega,by omega,by omega⟩ hA fun w2 w3 a2 hw=>?_
  refine K w3 none 0 0 ?_ (sau_nil _ (by simp[SSt.call1])) (fun g hg=>by simp[Value.ownBlock]at hg)
  have:=a2.fin S (by omega) ho3 hw (by omega) (by omega) hlow hsbl
  simpa [SSt.call1,SS.n,Nat.add_assoc]using this
 by_cases h2:kd=2
 ·subst h2
  refine ccl_02 under_F0 (Nat.zero_le _) fun A hA=>?_
  have hs3:(((w.alloc (.cells #[.int .i64 2,.int .i64 a,.int .i64 b,.int .i64 c0] 47)).alloc (.cells #[.bool false,.int .i64 0,.slice none 0 0] 44)).alloc (.cells #[.bool true,.int .i64 0,.slice none 0 0] 44)).heap.size=w.heap.size+3:=by simp
  have ho3:∀r,r<w.heap.size→(((w.alloc (.cells #[.int .i64 2,.int .i64 a,.int .i64 b,.int .i64 c0] 47)).alloc (.cells #[.bool false,.int .i64 0,.slice none 0 0] 44)).alloc (.cells #[.bool true,.int .i64 0,.slice none 0 0] 44)).heap[r]? =w.heap[r]?:=fun r hr=>by
   rw[heap_alloc_lt _ _ (by simp;omega),heap_alloc_lt _ _ (by simp;omega),heap_alloc_lt _ _ hr]
  have hob:(((w.alloc (.cells #[.int .i64 2,.int .i64 a,.int .i64 b,.int .i64 c0] 47)).alloc (.cells #[.bool false,.int .i64 0,.slice none 0 0] 44)).alloc (.cells #[.bool true,.int .i64 0,.slice none 0 0] 44)).heap[w.heap.size]? =some (.cells #[.int .i64 2,.int .i64 a,.int .i64 b,.int .i64 c0] 47 (0,0)):=by
   rw[heap_alloc_lt _ _ (by simp;omega),heap_alloc_lt _ _ (by simp)]
   exact heap_alloc_new _ _
  have hrb:(((w.alloc (.cells #[.int .i64 2,.int .i64 a,.int .i64 b,.int .i64 c0] 47)).alloc (.cells #[.bool false,.int .i64 0,.slice none 0 0] 44)).alloc (.cells #[.bool true,.int .i64 0,.slice none 0 0] 44)).heap[w.heap.size+1]? =some (.cells #[.bool false,.int .i64 0,.slice none 0 0] 44 (0,0)):=by
   rw[heap_alloc_lt _ _ (by simp)]
   exact new_at (by simp) _
  have hab:(((w.alloc (.cells #[.int .i64 2,.int .i64 a,.int .i64 b,.int .i64 c0] 47)).alloc (.cells #[.bool false,.int .i64 0,.slice none 0 0] 44)).alloc (.cells #[.bool true,.int .i64 0,.slice none 0 0] 44)).heap[w.heap.size+2]? =some (.cells #[.bool true,.int .i64 0,.slice none 0 0] 44 (0,0)):=new_at (by simp) _
  have a3:AlS lb sb X (((w.alloc (.cells #[.int .i64 2,.int .i64 a,.int .i64 b,.int .i64 c0] 47)).alloc (.cells #[.bool false,.int .i64 0,.slice none 0 0] 44)).alloc (.cells #[.bool true,.int .i64 0,.slice none 0 0] 44)) s m (((w.alloc (.cells #[.int .i64 2,.int .i64 a,.int .i64 b,.int .i64 c0] 47)).alloc (.cells #[.bool false,.int .i64 0,.slice none 0 0] 44)).alloc (.cells #[.bool true,.int .i64 0,.slice none 0 0] 44)):=by
   have:=h.grow S (w':=(((w.alloc (.cells #[.int .i64 2,.int .i64 a,.int .i64 b,.int .i64 c0] 47)).alloc (.cells #[.bool false,.int .i64 0,.slice none 0 0] 44)).alloc (.cells #[.bool true,.int .i64 0,.slice none 0 0] 44))) (by omega) (fun r hr=>ho3 r hr) (fun r hr=>ho3 r (h.u.low hr)) (fun b hb _=>ho3 b (hsbl b hb))
   exact⟨this.u,this.x,Nat.le_refl _,fun _ _ _ _ _=>rfl⟩
  generalize (((w.alloc (.cells #[.int .i64 2,.int .i64 a,.int .i64 b,.int .i64 c0] 47)).alloc (.cells #[.bool false,.int .i64 0,.slice none 0 0] 44)).alloc (.cells #[.bool true,.int .i64 0,.slice none 0 0] 44))=W at hs3 ho3 hob hrb hab a3 ⊢
  subst hn
  refine ccl_12 S a3 hsb (fun b hb=>by have:=hsbl b hb;omega) hev (by omega) hn16 ⟨hob⟩ hab ⟨_,_,_,hrb⟩ (by omega) ⟨fun e=>by have:=hsbl _ e.symm;omega,by omega,by omega⟩ ⟨fun e=>by have:=hsbl _ e.symm;omega,by omega,by omega⟩ ⟨fun e=>by have:=hsbl _ e.symm;omega,by omega,by omega⟩ hA fun w2 w3 a2 hw=>?_
  refine K w3 none 0 0 ?_ (sau_nil _ (by simp[SSt.call1])) (fun g hg=>by simp[Value.ownBlock]at hg)
  have:=a2.fin S (by omega) ho3 hw (by omega) (by omega) hlow hsbl
  simpa [SSt.call1,SS.n,Nat.add_assoc]using this
 by_cases h3:kd=3
 ·subst h3
  refine ccl_03 under_F0 (Nat.zero_le _) fun A hA=>?_
  have hs3:(((w.alloc (.cells #[.int .i64 3,.int .i64 a,.int .i64 b,.int .i64 c0] 47)).alloc (.cells #[.bool false,.int .i64 0,.slice none 0 0] 44)).alloc (.cells #[.bool true,.int .i64 0,.slice none 0 0] 44)).heap.size=w.heap.size+3:=by simp
  have ho3:∀r,r<w.heap.size→(((w.alloc (.cells #[.int .i64 3,.int .i64 a,.int .i64 b,.int .i64 c0] 47)).alloc (.cells #[.bool false,.int .i64 0,.slice none 0 0] 44)).alloc (.cells #[.bool true,.int .i64 0,.slice none 0 0] 44)).heap[r]? =w.heap[r]?:=fun r hr=>by
   rw[heap_alloc_lt _ _ (by simp;omega),heap_alloc_lt _ _ (by simp;omega),heap_alloc_lt _ _ hr]
  have hob:(((w.alloc (.cells #[.int .i64 3,.int .i64 a,.int .i64 b,.int .i64 c0] 47)).alloc (.cells #[.bool false,.int .i64 0,.slice none 0 0] 44)).alloc (.cells #[.bool true,.int .i64 0,.slice none 0 0] 44)).heap[w.heap.size]? =some (.cells #[.int .i64 3,.int .i64 a,.int .i64 b,.int .i64 c0] 47 (0,0)):=by
   rw[heap_alloc_lt _ _ (by simp;omega),heap_alloc_lt _ _ (by simp)]
   exact heap_alloc_new _ _
  have hrb:(((w.alloc (.cells #[.int .i64 3,.int .i64 a,.int .i64 b,.int .i64 c0] 47)).alloc (.cells #[.bool false,.int .i64 0,.slice none 0 0] 44)).alloc (.cells #[.bool true,.int .i64 0,.slice none 0 0] 44)).heap[w.heap.size+1]? =some (.cells #[.bool false,.int .i64 0,.slice none 0 0] 44 (0,0)):=by
   rw[heap_alloc_lt _ _ (by simp)]
   exact new_at (by simp) _
  have hab:(((w.alloc (.cells #[.int .i64 3,.int .i64 a,.int .i64 b,.int .i64 c0] 47)).alloc (.cells #[.bool false,.int .i64 0,.slice none 0 0] 44)).alloc (.cells #[.bool true,.int .i64 0,.slice none 0 0] 44)).heap[w.heap.size+2]? =some (.cells #[.bool true,.int .i64 0,.slice none 0 0] 44 (0,0)):=new_at (by simp) _
  have a3:AlS lb sb X (((w.alloc (.cells #[.int .i64 3,.int .i64 a,.int .i64 b,.int .i64 c0] 47)).alloc (.cells #[.bool false,.int .i64 0,.slice none 0 0] 44)).alloc (.cells #[.bool true,.int .i64 0,.slice none 0 0] 44)) s m (((w.alloc (.cells #[.int .i64 3,.int .i64 a,.int .i64 b,.int .i64 c0] 47)).alloc (.cells #[.bool false,.int .i64 0,.slice none 0 0] 44)).alloc (.cells #[.bool true,.int .i64 0,.slice none 0 0] 44)):=by
   have:=h.grow S (w':=(((w.alloc (.cells #[.int .i64 3,.int .i64 a,.int .i64 b,.int .i64 c0] 47)).alloc (.cells #[.bool false,.int .i64 0,.slice none 0 0] 44)).alloc (.cells #[.bool true,.int .i64 0,.slice none 0 0] 44))) (by omega) (fun r hr=>ho3 r hr) (fun r hr=>ho3 r (h.u.low hr)) (fun b hb _=>ho3 b (hsbl b hb))
   exact⟨this.u,this.x,Nat.le_refl _,fun _ _ _ _ _=>rfl⟩
  generalize (((w.alloc (.cells #[.int .i64 3,.int .i64 a,.int .i64 b,.int .i64 c0] 47)).alloc (.cells #[.bool false,.int .i64 0,.slice none 0 0] 44)).alloc (.cells #[.bool true,.int .i64 0,.slice none 0 0] 44))=W at hs3 ho3 hob hrb hab a3 ⊢
  refine own_read_al S a3 hsb (fun b hb=>by have:=hsbl b hb;omega) hev (by omega) fun W4 ov a4 hr hs4 ho4=>?_
  obtain⟨la,ll,lc,hov⟩:=row_slice hr.row
  subst hov
  have eab:=a4.o (w.heap.size+2) (by omega) (fun e=>by have:=hsbl _ e.symm;omega) (by omega) (by omega)
  have erb:=a4.o (w.heap.size+1) (by omega) (fun e=>by have:=hsbl _ e.symm;omega) (by omega) (by omega)
  have hab4:=eab.trans hab
  have hrb4:=erb.trans hrb
  refine ccl_13 ⟨(bld_at hab4 (j:=0) rfl).1,(bld_at hab4 (j:=1) rfl).1,(bld_at hab4 (j:=2) rfl).1,fun k=>by simp[World.frozen?,hab4]⟩ ⟨_,_,_,hrb4⟩ (by omega) (fun _=>noF0 _) (fun _=>noF0 _) hA fun w3 hw=>?_
  refine K w3 la ll lc ?_ ?_ (fun g hg=>by have:=hr.blk g hg;omega)
  ·have:=a4.fin S (by omega) ho3 hw (by omega) (by omega) hlow hsbl
   simpa [SSt.call1,SS.n,Nat.add_assoc]using this
  ·show SAU ⟨(s.k.call1 n ⟨3,a,b,c0⟩).2.1,la,ll,lc⟩ w3
   have e:(s.k.call1 n ⟨3,a,b,c0⟩).2.1=(true,0,s.k.ws):=by simp[SSt.call1]
   rw[e]
   exact ownsRow_same2 hr.row fun g hg _=>hw.old g (fun e=>by have:=hr.blk g hg;omega) (fun e=>by have:=hr.blk g hg;omega)
 by_cases h4:kd=4
 ·subst h4
  refine ccl_04 under_F0 (Nat.zero_le _) fun A hA=>?_
  have hs3:(((w.alloc (.cells #[.int .i64 4,.int .i64 a,.int .i64 b,.int .i64 c0] 47)).alloc (.cells #[.bool false,.int .i64 0,.slice none 0 0] 44)).alloc (.cells #[.bool true,.int .i64 0,.slice none 0 0] 44)).heap.size=w.heap.size+3:=by simp
  have ho3:∀r,r<w.heap.size→(((w.alloc (.cells #[.int .i64 4,.int .i64 a,.int .i64 b,.int .i64 c0] 47)).alloc (.cells #[.bool false,.int .i64 0,.slice none 0 0] 44)).alloc (.cells #[.bool true,.int .i64 0,.slice none 0 0] 44)).heap[r]? =w.heap[r]?:=fun r hr=>by
   rw[heap_alloc_lt _ _ (by simp;omega),heap_alloc_lt _ _ (by simp;omega),heap_alloc_lt _ _ hr]
  have hob:(((w.alloc (.cells #[.int .i64 4,.int .i64 a,.int .i64 b,.int .i64 c0] 47)).alloc (.cells #[.bool false,.int .i64 0,.slice none 0 0] 44)).alloc (.cells #[.bool true,.int .i64 0,.slice none 0 0] 44)).heap[w.heap.size]? =some (.cells #[.int .i64 4,.int .i64 a,.int .i64 b,.int .i64 c0] 47 (0,0)):=by
   rw[heap_alloc_lt _ _ (by simp;omega),heap_alloc_lt _ _ (by simp)]
   exact heap_alloc_new _ _
  have hrb:(((w.alloc (.cells #[.int .i64 4,.int .i64 a,.int .i64 b,.int .i64 c0] 47)).alloc (.cells #[.bool false,.int .i64 0,.slice none 0 0] 44)).alloc (.cells #[.bool true,.int .i64 0,.slice none 0 0] 44)).heap[w.heap.size+1]? =some (.cells #[.bool false,.int .i64 0,.slice none 0 0] 44 (0,0)):=by
   rw[heap_alloc_lt _ _ (by simp)]
   exact new_at (by simp) _
  have hab:(((w.alloc (.cells #[.int .i64 4,.int .i64 a,.int .i64 b,.int .i64 c0] 47)).alloc (.cells #[.bool false,.int .i64 0,.slice none 0 0] 44)).alloc (.cells #[.bool true,.int .i64 0,.slice none 0 0] 44)).heap[w.heap.size+2]? =some (.cells #[.bool true,.int .i64 0,.slice none 0 0] 44 (0,0)):=new_at (by simp) _
  have a3:AlS lb sb X (((w.alloc (.cells #[.int .i64 4,.int .i64 a,.int .i64 b,.int .i64 c0] 47)).alloc (.cells #[.bool false,.int .i64 0,.slice none 0 0] 44)).alloc (.cells #[.bool true,.int .i64 0,.slice none 0 0] 44)) s m (((w.alloc (.cells #[.int .i64 4,.int .i64 a,.int .i64 b,.int .i64 c0] 47)).alloc (.cells #[.bool false,.int .i64 0,.slice none 0 0] 44)).alloc (.cells #[.bool true,.int .i64 0,.slice none 0 0] 44)):=by
   have:=h.grow S (w':=(((w.alloc (.cells #[.int .i64 4,.int .i64 a,.int .i64 b,.int .i64 c0] 47)).alloc (.cells #[.bool false,.int .i64 0,.slice none 0 0] 44)).alloc (.cells #[.bool true,.int .i64 0,.slice none 0 0] 44))) (by omega) (fun r hr=>ho3 r hr) (fun r hr=>ho3 r (h.u.low hr)) (fun b hb _=>ho3 b (hsbl b hb))
   exact⟨this.u,this.x,Nat.le_refl _,fun _ _ _ _ _=>rfl⟩
  generalize (((w.alloc (.cells #[.int .i64 4,.int .i64 a,.int .i64 b,.int .i64 c0] 47)).alloc (.cells #[.bool false,.int .i64 0,.slice none 0 0] 44)).alloc (.cells #[.bool true,.int .i64 0,.slice none 0 0] 44))=W at hs3 ho3 hob hrb hab a3 ⊢
  refine own_raw_al S a3 hsb (fun b hb=>by have:=hsbl b hb;omega) (by omega) fun W4 ov a4 hr hs4 ho4=>?_
  obtain⟨la,ll,lc,hov⟩:=row_slice hr.row
  subst hov
  have eab:=a4.o (w.heap.size+2) (by omega) (fun e=>by have:=hsbl _ e.symm;omega) (by omega) (by omega)
  have erb:=a4.o (w.heap.size+1) (by omega) (fun e=>by have:=hsbl _ e.symm;omega) (by omega) (by omega)
  have hab4:=eab.trans hab
  have hrb4:=erb.trans hrb
  refine ccl_14 ⟨(bld_at hab4 (j:=0) rfl).1,(bld_at hab4 (j:=1) rfl).1,(bld_at hab4 (j:=2) rfl).1,fun k=>by simp[World.frozen?,hab4]⟩ ⟨_,_,_,hrb4⟩ (by omega) (fun _=>noF0 _) (fun _=>noF0 _) hA fun w3 hw=>?_
  refine K w3 la ll lc ?_ ?_ (fun g hg=>by have:=hr.blk g hg;omega)
  ·have:=a4.fin S (by omega) ho3 hw (by omega) (by omega) hlow hsbl
   simpa [SSt.call1,SS.n,Nat.add_assoc]using this
  ·show SAU ⟨(s.k.call1 n ⟨4,a,b,c0⟩).2.1,la,ll,lc⟩ w3
   have e:(s.k.call1 n ⟨4,a,b,c0⟩).2.1=(true,0,s.k.ws):=by simp[SSt.call1]
   rw[e]
   exact ownsRow_same2 hr.row fun g hg _=>hw.old g (fun e=>by have:=hr.blk g hg;omega) (fun e=>by have:=hr.blk g hg;omega)
 by_cases h5:kd=5
 ·subst h5
  refine ccl_05 under_F0 (Nat.zero_le _) fun A hA=>?_
  have hs3:(((w.alloc (.cells #[.int .i64 5,.int .i64 a,.int .i64 b,.int .i64 c0] 47)).alloc (.cells #[.bool false,.int .i64 0,.slice none 0 0] 44)).alloc (.cells #[.bool true,.int .i64 0,.slice none 0 0] 44)).heap.size=w.heap.size+3:=by simp
  have ho3:∀r,r<w.heap.size→(((w.alloc (.cells #[.int .i64 5,.int .i64 a,.int .i64 b,.int .i64 c0] 47)).alloc (.cells #[.bool false,.int .i64 0,.slice none 0 0] 44)).alloc (.cells #[.bool true,.int .i64 0,.slice none 0 0] 44)).heap[r]? =w.heap[r]?:=fun r hr=>by
   rw[heap_alloc_lt _ _ (by simp;omega),heap_alloc_lt _ _ (by simp;omega),heap_alloc_lt _ _ hr]
  have hob:(((w.alloc (.cells #[.int .i64 5,.int .i64 a,.int .i64 b,.int .i64 c0] 47)).alloc (.cells #[.bool false,.int .i64 0,.slice none 0 0] 44)).alloc (.cells #[.bool true,.int .i64 0,.slice none 0 0] 44)).heap[w.heap.size]? =some (.cells #[.int .i64 5,.int .i64 a,.int .i64 b,.int .i64 c0] 47 (0,0)):=by
   rw[heap_alloc_lt _ _ (by simp;omega),heap_alloc_lt _ _ (by simp)]
   exact heap_alloc_new _ _
  have hrb:(((w.alloc (.cells #[.int .i64 5,.int .i64 a,.int .i64 b,.int .i64 c0] 47)).alloc (.cells #[.bool false,.int .i64 0,.slice none 0 0] 44)).alloc (.cells #[.bool true,.int .i64 0,.slice none 0 0] 44)).heap[w.heap.size+1]? =some (.cells #[.bool false,.int .i64 0,.slice none 0 0] 44 (0,0)):=by
   rw[heap_alloc_lt _ _ (by simp)]
   exact new_at (by simp) _
  have hab:(((w.alloc (.cells #[.int .i64 5,.int .i64 a,.int .i64 b,.int .i64 c0] 47)).alloc (.cells #[.bool false,.int .i64 0,.slice none 0 0] 44)).alloc (.cells #[.bool true,.int .i64 0,.slice none 0 0] 44)).heap[w.heap.size+2]? =some (.cells #[.bool true,.int .i64 0,.slice none 0 0] 44 (0,0)):=new_at (by simp) _
  have a3:AlS lb sb X (((w.alloc (.cells #[.int .i64 5,.int .i64 a,.int .i64 b,.int .i64 c0] 47)).alloc (.cells #[.bool false,.int .i64 0,.slice none 0 0] 44)).alloc (.cells #[.bool true,.int .i64 0,.slice none 0 0] 44)) s m (((w.alloc (.cells #[.int .i64 5,.int .i64 a,.int .i64 b,.int .i64 c0] 47)).alloc (.cells #[.bool false,.int .i64 0,.slice none 0 0] 44)).alloc (.cells #[.bool true,.int .i64 0,.slice none 0 0] 44)):=by
   have:=h.grow S (w':=(((w.alloc (.cells #[.int .i64 5,.int .i64 a,.int .i64 b,.int .i64 c0] 47)).alloc (.cells #[.bool false,.int .i64 0,.slice none 0 0] 44)).alloc (.cells #[.bool true,.int .i64 0,.slice none 0 0] 44))) (by omega) (fun r hr=>ho3 r hr) (fun r hr=>ho3 r (h.u.low hr)) (fun b hb _=>ho3 b (hsbl b hb))
   exact⟨this.u,this.x,Nat.le_refl _,fun _ _ _ _ _=>rfl⟩
  generalize (((w.alloc (.cells #[.int .i64 5,.int .i64 a,.int .i64 b,.int .i64 c0] 47)).alloc (.cells #[.bool false,.int .i64 0,.slice none 0 0] 44)).alloc (.cells #[.bool true,.int .i64 0,.slice none 0 0] 44))=W at hs3 ho3 hob hrb hab a3 ⊢
  refine own_newer_al S a3 hsb (by omega) fun W4 a4=>?_
  have eab:=a4.o (w.heap.size+2) (by omega) (fun e=>by have:=hsbl _ e.symm;omega) (by omega) (by omega)
  have erb:=a4.o (w.heap.size+1) (by omega) (fun e=>by have:=hsbl _ e.symm;omega) (by omega) (by omega)
  have hab4:=eab.trans hab
  have hrb4:=erb.trans hrb
  refine ccl_15 ⟨(bld_at hab4 (j:=0) rfl).1,(bld_at hab4 (j:=1) rfl).1,(bld_at hab4 (j:=2) rfl).1,fun k=>by simp[World.frozen?,hab4]⟩ ⟨_,_,_,hrb4⟩ (by omega) (fun _=>noF0 _) (fun _=>noF0 _) hA fun w3 hw=>?_
  have e:(s.k.call1 n ⟨5,a,b,c0⟩).2.1=(decide (a<s.k.ver),s.k.ver,[]):=by simp[SSt.call1]
  have K':=K w3 none 0 0 ?_ (sau_nil _ (by simp[SSt.call1])) (fun g hg=>by simp[Value.ownBlock]at hg)
  ·rw[e]at K'
   exact K'
  ·have:=a4.fin S (by omega) ho3 hw (by omega) (by omega) hlow hsbl
   simpa [SSt.call1,SS.n,Nat.add_assoc]using this
 refine ccl_00 under_F0 (Nat.zero_le _) (by simpa using h1) (by simpa using h2) (by simpa using h3) (by simpa using h4) (by simpa using h5) fun w3 hs3 ho3=>?_
 have e:(s.k.call1 n ⟨kd,a,b,c0⟩)=(s.k,(false,0,[]),0):=by simp[SSt.call1,h1,h2,h3,h4,h5]
 have K':=K w3 none 0 0 ?_ (sau_nil _ (by rw[e])) (fun g hg=>by simp[Value.ownBlock]at hg)
 ·rw[e]at K'
  exact K'
 ·rw[e]
  exact h.grow S (by omega) (fun r hr=>ho3 r hr) (fun r hr=>ho3 r (h.u.low hr)) (fun b hb _=>ho3 b (hsbl b hb))
end
end
section
variable{w w':World}
theorem same22D{aa ab:Option Addr}{ca cb:Nat}{xs:List Int}(hl:xs.length<100000000)(hA:RRow w aa (xs.map fun v=>.int .i64 v))(hB:RRow w ab (xs.map fun v=>.int .i64 v)):
 Calls Try.prog 22 #[.slice aa xs.length ca,.slice ab xs.length cb] w fun x w'=>x= .returned (.bool true)∧∃m,w'=w.drewN m:=by
 have E:Aside (RRow w aa (xs.map fun v=>.int .i64 v)∧RRow w ab (xs.map fun v=>.int .i64 v)):=⟨hA,hB⟩
 clear hA hB
 go_enter Try.func22,Try.ntmps22
 go_wp2
 go_loopg [5] xs.length (fun g i wr=>∃k:Nat,k≤xs.length∧i= .int .i64 k∧g=xs.length - k∧∃m,wr=w.drewN m)
 case atStart=>exact⟨0,Nat.zero_le _,rfl,rfl,0,rfl⟩
 case round=>
  obtain⟨k,hk,rfl,rfl,m0,hw⟩:=hrel
  have W:Aside (wr=w.drewN m0):=hw
  have hh:wr.heap=w.heap:=by rw[hw];rfl
  clear hw
  rcases Nat.lt_or_ge k xs.length with hlt|hge
  ·obtain⟨b1,o1,rfl,h1⟩:=(E.out.1.heap hh).c k (.int .i64 xs[k]) (by simp[hlt])
   obtain⟨b2,o2,rfl,h2⟩:=(E.out.2.heap hh).c k (.int .i64 xs[k]) (by simp[hlt])
   have hwr:IntKind.i64.wrap ((k:Int)+1)=(k:Int)+1:=IntWalk.i64_in _ (by omega)
   clear hh
   go_wp2
   go_quiet (fail)
   go_wp2
   go_roundg (xs.length - (k+1))
   case measure=>omega
   case rel=>exact⟨k+1,hlt,rfl,rfl,_,by rw[W.out,World.drewN_drewN]⟩
  ·have:k=xs.length:=by omega
   subst this
   clear hh
   go_wp2
   go_ret
   exact⟨rfl,m0,W.out⟩
def ansS(l:List SA):List Value:=(l.map fun a=>a.v.cells).flatten
theorem ansS_get(l:List SA):∀k a,l[k]? =some a→(ansS l)[k*3]? =some (.bool a.an.1)∧(ansS l)[k*3+1]? =some (.int .i64 a.an.2.1)∧(ansS l)[k*3+2]? =some (.slice a.la a.ll a.lc):=by
 induction l with
 | nil=>intro k a h;simp at h
 | cons x t ih=>
   intro k a h
   have e:ansS (x::t)= .bool x.an.1:: .int .i64 x.an.2.1:: .slice x.la x.ll x.lc::ansS t:=rfl
   rw[e]
   cases k with
   | zero=>
     simp at h
     subst h
     exact⟨rfl,rfl,rfl⟩
   | succ k=>
     have h:t[k]? =some a:=by simpa using h
     obtain⟨h1,h2,h3⟩:=ih k a h
     rw[show(k+1)*3=k*3+3 by omega]
     exact⟨by simpa using h1,by simpa [show k*3+3+1=k*3+1+3 by omega]using h2,by simpa [show k*3+3+2=k*3+2+3 by omega]using h3⟩
structure SAL(a:SA)(w:World):Prop where
 l:a.ll=a.an.2.2.length
 r:RRow w a.la (a.an.2.2.map fun v=>.int .i64 v)
theorem SAL.heap{a:SA}(h:SAL a w)(e:w'.heap=w.heap):SAL a w':=⟨h.l,h.r.heap e⟩
theorem SAL.of{a:SA}(h:SAU a w):SAL a w:=by
 obtain⟨an,la,ll,lc⟩:=a
 have h1:w.ownsRow 0 2 1 (.slice la ll lc) an.2.2.length (an.2.2.map fun v=>.int .i64 v):=h
 have hl:ll=an.2.2.length:=by
  rcases h1.2 with⟨e,h5⟩|⟨_,_,_,e,_⟩
  ·cases e;exact h5.symm
  ·cases e;rfl
 subst hl
 exact⟨rfl,rrow_of h1⟩
theorem same21B{aa ab:Option Addr}{ca cb:Nat}{xs ys:List SA}(hl:xs.length<100000000)(he:xs.map SA.an=ys.map SA.an)(hA:RRow w aa (ansS xs))(hB:RRow w ab (ansS ys))(hx:∀a∈xs,SAL a w∧a.an.2.2.length<100000000)(hy:∀a∈ys,SAL a w):
 CallsB Try.prog Try.f21 #[.slice aa xs.length ca,.slice ab xs.length cb] w fun x w'=>x= .bool true∧w'.heap=w.heap:=by
 have E:Aside (RRow w aa (ansS xs)∧RRow w ab (ansS ys)∧xs.map SA.an=ys.map SA.an∧(∀a∈xs,SAL a w∧a.an.2.2.length<100000000)∧∀a∈ys,SAL a w):=⟨hA,hB,he,hx,hy⟩
 clear hA hB he hx hy
 refine callsB_of rfl ?_
 simp only[Try.ntmps21,List.size_toArray,List.length_cons,List.length_nil,Nat.reduceAdd,Nat.reduceSub,Array.replicate_succ,Array.replicate_zero,List.push_toArray,List.append_toArray,List.nil_append,List.cons_append]
 go_wp2
 go_loopg [5] xs.length (fun g i wr=>∃k:Nat,k≤xs.length∧i= .int .i64 k∧g=xs.length - k∧wr.heap=w.heap)
 case atStart=>exact⟨0,Nat.zero_le _,rfl,rfl,rfl⟩
 case round=>
  obtain⟨k,hk,rfl,rfl,hw⟩:=hrel
  rcases Nat.lt_or_ge k xs.length with hlt|hge
  ·have hq:=congrArg (fun l=>l[k]?) E.out.2.2.1
   simp only[List.getElem?_map,List.getElem?_eq_getElem hlt,Option.map_some]at hq
   obtain⟨y,hyk,hya⟩:=Option.map_eq_some_iff.1 hq.symm
   obtain⟨g1,g2,g3⟩:=ansS_get xs k _ (List.getElem?_eq_getElem hlt)
   obtain⟨j1,j2,j3⟩:=ansS_get ys k _ hyk
   have hsx:=(E.out.2.2.2.1 _ (List.getElem_mem hlt))
   have hsy:=E.out.2.2.2.2 y (List.mem_of_getElem? hyk)
   rw[hya]at j1 j2
   obtain⟨sl1,sr1⟩:=hsx.1.heap hw
   obtain⟨sl2,sr2⟩:=hsy.heap hw
   have hlen:=hsx.2
   rw[hya]at sl2 sr2
   generalize xs[k]=x at g1 g2 g3 j1 j2 sl1 sr1 sl2 sr2 hlen
   obtain⟨⟨ok,n,l⟩,la,ll,lc⟩:=x
   obtain⟨an2,la2,ll2,lc2⟩:=y
   simp only at g1 g2 g3 j1 j2 j3 sl1 sr1 sl2 sr2 hlen
   subst sl1
   subst sl2
   obtain⟨b1,o1,rfl,f0⟩:=(E.out.1.heap hw).c (k*3) _ g1
   obtain⟨_,_,e1,f1⟩:=(E.out.1.heap hw).c (k*3+1) _ g2
   cases e1
   obtain⟨_,_,e1,f2⟩:=(E.out.1.heap hw).c (k*3+2) _ g3
   cases e1
   obtain⟨b2,o2,rfl,h0⟩:=(E.out.2.1.heap hw).c (k*3) _ j1
   obtain⟨_,_,e1,h1⟩:=(E.out.2.1.heap hw).c (k*3+1) _ j2
   cases e1
   obtain⟨_,_,e1,h2⟩:=(E.out.2.1.heap hw).c (k*3+2) _ j3
   cases e1
   rw[← Nat.add_assoc]at f1 f2 h1 h2
   have H:Aside (∀m,Calls Try.prog 22 #[.slice la l.length lc,.slice la2 l.length lc2] (wr.drewN m) fun x w''=>x= .returned (.bool true)∧∃m',w''=wr.drewN m'):=fun m=>(same22D (w:=wr.drewN m) hlen (sr1.heap rfl) (sr2.heap rfl)).mono (by
    rintro e u ⟨rfl,m',rfl⟩
    exact⟨rfl,_,World.drewN_drewN _ _ _⟩)
   have hwr:IntKind.i64.wrap ((k:Int)+1)=(k:Int)+1:=IntWalk.i64_in _ (by omega)
   have W:Aside (wr.heap=w.heap):=hw
   clear g1 g2 g3 j1 j2 j3 hw hq hyk hya hsx hsy sr1 sr2 hlen
   cases ok
   all_goals(
    go_wp2
    go_quiet ((go_at_call 22;exact H.out _))
    go_wp2
    go_roundg (xs.length - (k+1))
    case measure=>omega
    case rel=>exact⟨k+1,hlt,rfl,rfl,W.out⟩)
  ·have:k=xs.length:=by omega
   subst this
   go_wp2
   go_ret
   exact⟨_,rfl,rfl,hw⟩
theorem closed21:Closed Try.prog (fun f=>[21,22].contains f) true:=closed_ofX (x:=[]) (fun f h=>by cases h) (by kernel_rfl)
theorem callable21:Callable 21:=callable Try.func21 rfl rfl
theorem own_same21{aa ab:Option Addr}{ca cb:Nat}{xs ys:List SA}(hl:xs.length<100000000)(he:xs.map SA.an=ys.map SA.an)(hA:RRow w aa (ansS xs))(hB:RRow w ab (ansS ys))(hx:∀a∈xs,SAL a w∧a.an.2.2.length<100000000)(hy:∀a∈ys,SAL a w){c:Frame}{cs:List Frame}{main:Bool}{Stop:Goroutine→World→Prop}
 (K:∀w1,w1.heap=w.heap→Own Try.prog main F0 Stop (G (c.finish (.bool true)) cs) w1):
 Own Try.prog main F0 Stop (G (Frame.enter Try.prog 21 #[.slice aa xs.length ca,.slice ab xs.length cb] .normal) (c::cs)) w:=by
 refine own_callB closed21 prog_late Try.func21 rfl (by kernel_rfl) (R:=fun x w'=>x= .bool true∧w'.heap=w.heap) (fun τ e=>same21B (w:=retape w τ e) hl he (hA.heap rfl) (hB.heap rfl) (fun a ha=>⟨(hx a ha).1.heap rfl,(hx a ha).2⟩) (fun a ha=>(hy a ha).heap rfl)) fun v w' τ e hR hg=>?_
 obtain⟨rfl,h⟩:=hR
 exact K w' h
end
section
variable{An:Anchor}{w w' w0:World}
def Keep(w w':World):Prop:=w.heap.size≤w'.heap.size∧∀(r:Nat) (c:Array Value) (e:TypeId) (z:Nat×Nat),w.heap[r]? =some (.cells c e z)→w'.heap[r]? =some (.cells c e z)
theorem Keep.refl(w:World):Keep w w:=⟨Nat.le_refl _,fun _ _ _ _ h=>h⟩
theorem Keep.trans{a b c:World}(h1:Keep a b)(h2:Keep b c):Keep a c:=⟨Nat.le_trans h1.1 h2.1,fun r x e z h=>h2.2 r x e z (h1.2 r x e z h)⟩
theorem Keep.of(h1:w.heap.size≤w'.heap.size)(h2:∀r,r<w.heap.size→w'.heap[r]? =w.heap[r]?):Keep w w':=⟨h1,fun r c e z h=>(h2 r (alt h)).trans h⟩
theorem vs_new(X:World)(vs:List Int):VS (X.alloc (.cells (vs.map fun i:Int=>Value.int .i64 i).toArray 2)) (some ⟨X.heap.size,0,none⟩) vs:=fun _=>⟨_,rfl,fun i hi=>(bld_at (heap_alloc_new _ _) (by simp[List.getD_eq_getElem?_getD,hi])).1⟩
theorem vap_new{lb:Nat}{s:SS}{X:World}(h:SU lb s X):VApart lb none s (some ⟨X.heap.size,0,none⟩):=fun y hy=>by
 cases hy
 have h1:=h.low (r:=lb) (.inl rfl)
 have h2:=h.low (r:=s.wb) (.inr rfl)
 exact⟨by simp only;omega,by simp only;omega,by simp⟩
theorem AlS.alloc{lb m:Nat}{main:Bool}{s:SS}{X:World}(h:AlS lb none (fun _ _=>True) w0 s m X)(o:Obj):AlS lb none (fun _ _=>True) w0 s m (X.alloc o):=
 h.grow (nilSS main) (by simp) (fun r hr=>heap_alloc_lt _ _ (Nat.lt_of_lt_of_le hr h.sz)) (fun r hr=>heap_alloc_lt _ _ (h.u.low hr)) (fun b hb=>by cases hb)
theorem AlS.heap{lb m:Nat}{main:Bool}{s:SS}{X Y:World}(h:AlS lb none (fun _ _=>True) w0 s m X)(e:Y.heap=X.heap):AlS lb none (fun _ _=>True) w0 s m Y:=
 h.grow (nilSS main) (by rw[e];exact Nat.le_refl _) (fun r hr=>by rw[e]) (fun r hr=>by rw[e]) (fun b hb=>by cases hb)
theorem fx_calls{A:Array Value}(hA:Slots 124 A [(89,.bool false)]){c:Frame}{cs:List Frame}{main:Bool}{Stop:Goroutine→World→Prop}
 (K:∀w',w.heap.size≤w'.heap.size→(∀r,r<w.heap.size→w'.heap[r]? =w.heap[r]?)→Own Try.prog main F0 Stop (G (c.finish (.bool true)) cs) w'):
 Own Try.prog main F0 Stop (G ((Go.Conc.base 13).at ⟨A,[]⟩ [.code sfxc89,.code sfxs7]) (c::cs)) w:=by
 refine fx_3 under_F0 (Nat.zero_le _) hA fun A hA=>?_
 have hs0:(w.alloc (.cells #[.int .i64 1,.int .i64 2] 2)).heap.size=w.heap.size+1:=by simp
 have ho0:∀r,r<w.heap.size→(w.alloc (.cells #[.int .i64 1,.int .i64 2] 2)).heap[r]? =w.heap[r]?:=fun r hr=>heap_alloc_lt _ _ hr
 have hv0:InRow (w.alloc (.cells #[.int .i64 1,.int .i64 2] 2)) (some ⟨w.heap.size,0,none⟩) [1,2]:=fx_row (heap_alloc_new _ _)
 generalize w.alloc (.cells #[.int .i64 1,.int .i64 2] 2)=W0 at hs0 ho0 hv0 ⊢
 refine own_snew (xs:=[1,2]) hv0 (by decide) fun W1 hU hs1 ho1=>?_
 have hk1:∀r,r<w.heap.size→W1.heap[r]? =w.heap[r]?:=fun r hr=>(ho1 r (by omega)).trans (ho0 r hr)
 have a1:AlS (W0.heap.size+1) none (fun _ _=>True) W1 ⟨snew [1,2],W0.heap.size,0⟩ 0 W1:=⟨hU,trivial,Nat.le_refl _,fun _ _ _ _ _=>rfl⟩
 refine fx_4 under_F0 (Nat.zero_le _) hA fun A hA=>?_
 refine own_write_al1 (nilSS main) (a1.alloc (main:=main) _) (fun _ h=>by cases h) rfl (by decide) (vs:=[5,6]) (vs_new W1 [5,6]) (vap_new hU) fun W2 a2=>?_
 refine fx_5 under_F0 (Nat.zero_le _) hA fun A hA=>?_
 refine own_write_al2 (nilSS main) (a2.alloc (main:=main) _) (fun _ h=>by cases h) (show((snew [1,2]).wrote 1 [5,6]).ver.tmod 2=0 by decide) (show 0+(snew [1,2]).ws.length+3+32<4611686018427387904 by decide) (vs:=[1]) (vs_new W2 [1]) (vap_new a2.u) fun W3 a3=>?_
 refine fx_6 hA fun A hA=>?_
 refine own_read_al (nilSS main) a3 (fun _ h=>by cases h) (fun _ h=>by cases h) (show(((snew [1,2]).wrote 1 [5,6]).wrote 2 [1]).ver.tmod 2=0 by decide) (show 0+(snew [1,2]).ws.length+3+((snew [1,2]).wrote 1 [5,6]).ws.length+3+64<4611686018427387904 by decide) fun W4 ov a4 hr hs4 ho4=>?_
 have e6:(((snew [1,2]).wrote 1 [5,6]).wrote 2 [1]).ws=[6,6]:=by decide
 have hrow:=hr.row
 simp only[e6]at hrow
 obtain⟨la,ll,lc,hov⟩:=row_slice hrow
 subst hov
 have hll:ll=2:=by
  rcases hrow.2 with⟨_,h⟩|⟨_,_,_,e,_⟩
  ·simp at h
  ·cases e;rfl
 subst hll
 refine fx_7 under_F0 (Nat.zero_le _) hA fun A hA=>?_
 refine own_same22 (xs:=[6,6]) (by decide) ((rrow_of hrow).alloc _) (rrow_new W4 ([6,6].map fun v=>.int .i64 v) 2) fun W5 e5=>?_
 have a5:=(a4.alloc (main:=main) (.cells #[.int .i64 6,.int .i64 6] 2)).heap (main:=main) e5
 refine fx_8 hA fun A hA=>?_
 refine own_svers (v:=4) a5.u.v.c fun W6 e7=>?_
 have a6:=a5.heap (main:=main) e7
 refine fx_9 hA (K W6 ?_ fun r hr=>?_)
 ·have:=a6.sz
  omega
 ·rw[a6.o r (by omega) (by simp) (by omega) (by simp only;omega)]
  exact hk1 r hr
theorem bes_fixed{c:Frame}{cs:List Frame}{Stop:Goroutine→World→Prop}(K:∀w',Keep w w'→Bes An Try.prog Stop (G (c.finish (.bool true)) cs) w'):
 Bes An Try.prog Stop (G (Frame.enter Try.prog 13 #[] .normal) (c::cs)) w:=by
 refine bes_own (F:=F0) (Stop:=fun a u=>∃A,Slots 124 A [(1,.slice (some ⟨w.heap.size,0,none⟩) 1 1)]∧u.heap=(fxW1 w).heap∧a=G (Frame.enter Try.prog 15 #[.slice (some ⟨w.heap.size+1,0,none⟩) 2 2,.slice (some ⟨w.heap.size+3,0,none⟩) 2 2,.slice (some ⟨w.heap.size+4,0,none⟩) 9 9,.int .i64 99] .normal) (((Go.Conc.base 13).at ⟨A,[]⟩ [.inRegion (oC sfxr2) [6,7,8],.code sfxs3])::c::cs))
  (fx_0 under_F0 (Nat.zero_le _) fun A hA=>.stop fun d=>⟨A,hA,rfl,rfl⟩) fun a u ⟨A,hA,hu,ha⟩=>?_
 subst ha
 have k1:Keep w u:=by
  refine .of (by rw[hu];simp[fxW1];omega) fun r hr=>?_
  rw[hu]
  simp only[fxW1]
  rw[heap_alloc_lt _ _ (by simp;omega),heap_alloc_lt _ _ (by simp;omega),heap_alloc_lt _ _ (by simp;omega),heap_alloc_lt _ _ (by simp;omega),heap_alloc_lt _ _ hr]
 have b0:u.heap[w.heap.size]? =some (.cells #[.int .i64 1,.int .i64 1,.int .i64 10,.int .i64 1] 47 (0,0)):=by
  rw[hu]
  simp only[fxW1]
  rw[heap_alloc_lt _ _ (by simp;try omega),heap_alloc_lt _ _ (by simp;try omega),heap_alloc_lt _ _ (by simp;try omega),heap_alloc_lt _ _ (by simp)]
  exact heap_alloc_new _ _
 have b1:u.heap[w.heap.size+1]? =some (.cells #[.int .i64 1,.int .i64 2] 2 (0,0)):=by
  rw[hu]
  simp only[fxW1]
  rw[heap_alloc_lt _ _ (by simp;try omega),heap_alloc_lt _ _ (by simp;try omega),heap_alloc_lt _ _ (by simp)]
  exact new_at (by simp) _
 have b2:u.heap[w.heap.size+2]? =some (.cells #[.int .i64 3,.int .i64 1,.int .i64 0,.int .i64 0] 47 (0,0)):=by
  rw[hu]
  simp only[fxW1]
  rw[heap_alloc_lt _ _ (by simp;try omega),heap_alloc_lt _ _ (by simp)]
  exact new_at (by simp) _
 have b3:u.heap[w.heap.size+3]? =some (.cells #[.slice (some ⟨w.heap.size,0,none⟩) 1 1,.slice (some ⟨w.heap.size+2,0,none⟩) 1 1] 34 (0,0)):=by
  rw[hu]
  simp only[fxW1]
  rw[heap_alloc_lt _ _ (by simp)]
  exact new_at (by simp) _
 have b4:u.heap[w.heap.size+4]? =some (.cells (fxS1.map fun i:Int=>Value.int .i64 i).toArray 3 (0,0)):=by
  rw[hu]
  simp only[fxW1]
  exact new_at (by simp) _
 clear hu
 refine bes_splay (va:=some ⟨w.heap.size+1,0,none⟩) (vs:=[1,2]) (S:=fxS1) (fx_row b1) (by decide) (fx_in b0 b2 b3 b4 (by decide)) (M:=99) rfl fun s order hd hk aa rows av oa' oc' xa xc u1 hP=>?_
 obtain⟨rfl,rfl⟩:s=fxE1.1∧order=fxE1.2:=by
  have:=gover_eq fxE1_done (s,order) hk
  exact⟨congrArg Prod.fst this,congrArg Prod.snd this⟩
 have hst:=fxE1_st
 generalize fxE1.2=order at hP ⊢
 generalize decide (0<cnt fxE1.1.live 2)=lv
 have ha1:(fun i=>((fxE1.1.th i).ans:List SAn)) 1=[(false,0,[])]:=fxE1_ans
 generalize (fun i=>((fxE1.1.th i).ans:List SAn))=an1 at hP ha1
 rw[hst]at hP ⊢
 have k2:Keep u u1:=⟨hP.size,hP.old⟩
 have b0:=k2.2 _ _ _ _ b0
 clear hk hd b1 b2 b3 b4
 refine bes_own (F:=F0) (Stop:=fun a v=>∃A,Slots 124 A [(1,.slice (some ⟨w.heap.size,0,none⟩) 1 1),(2,.pointer (some ⟨u1.heap.size,0,none⟩))]∧v.heap=(fxW2 u1 w.heap.size (some ⟨aa,0,none⟩) oa' xa 2 2 order.length oc' ([2,10,11]:List Int).length xc lv).heap∧a=G (Frame.enter Try.prog 15 #[.slice (some ⟨u1.heap.size+1,0,none⟩) 2 2,.slice (some ⟨u1.heap.size+3,0,none⟩) 2 2,.slice (some ⟨u1.heap.size+4,0,none⟩) 7 7,.int .i64 99] .normal) (((Go.Conc.base 13).at ⟨A,[]⟩ [.inRegion (oC sfxr3) [6,7,8],.code sfxs4])::c::cs))
  (fx_1 under_F0 (Nat.zero_le _) hA fun A hA=>.stop fun d=>⟨A,hA,rfl,rfl⟩) fun a v ⟨A,hA,hv,ha⟩=>?_
 subst ha
 have hW:∀r,r<u1.heap.size+1→v.heap[r]? =(u1.alloc (.cells #[.slice (some ⟨aa,0,none⟩) 2 2,.slice oa' order.length oc',.slice xa ([2,10,11]:List Int).length xc,.bool lv] 31)).heap[r]?:=fun r hr=>by
  rw[hv]
  simp only[fxW2]
  rw[heap_alloc_lt _ _ (by simp;omega),heap_alloc_lt _ _ (by simp;omega),heap_alloc_lt _ _ (by simp;omega),heap_alloc_lt _ _ (by simp;omega)]
 have hvs:v.heap.size=u1.heap.size+5:=by rw[hv];simp[fxW2]
 have k3:Keep u1 v:=.of (by omega) fun r hr=>(hW r (by omega)).trans (heap_alloc_lt _ _ hr)
 have t1:=fxt_of hP ha1 (u':=u1.alloc (.cells #[.slice (some ⟨aa,0,none⟩) 2 2,.slice oa' order.length oc',.slice xa ([2,10,11]:List Int).length xc,.bool lv] 31)) rfl
 have t2:FxT v u1.heap.size false []:=t1.same fun r cc e z h=>(hW r (by have:=(alt h);simpa using this)).trans h
 have b0:=k3.2 _ _ _ _ b0
 have b1:v.heap[u1.heap.size+1]? =some (.cells #[.int .i64 1,.int .i64 2] 2 (0,0)):=by
  rw[hv]
  simp only[fxW2]
  rw[heap_alloc_lt _ _ (by simp;try omega),heap_alloc_lt _ _ (by simp;try omega),heap_alloc_lt _ _ (by simp)]
  exact new_at (by simp) _
 have b2:v.heap[u1.heap.size+2]? =some (.cells #[.int .i64 4,.int .i64 0,.int .i64 0,.int .i64 0] 47 (0,0)):=by
  rw[hv]
  simp only[fxW2]
  rw[heap_alloc_lt _ _ (by simp;try omega),heap_alloc_lt _ _ (by simp)]
  exact new_at (by simp) _
 have b3:v.heap[u1.heap.size+3]? =some (.cells #[.slice (some ⟨w.heap.size,0,none⟩) 1 1,.slice (some ⟨u1.heap.size+2,0,none⟩) 1 1] 34 (0,0)):=by
  rw[hv]
  simp only[fxW2]
  rw[heap_alloc_lt _ _ (by simp)]
  exact new_at (by simp) _
 have b4:v.heap[u1.heap.size+4]? =some (.cells (fxS2.map fun i:Int=>Value.int .i64 i).toArray 3 (0,0)):=by
  rw[hv]
  simp only[fxW2]
  exact new_at (by simp) _
 clear hv hW
 refine bes_splay (va:=some ⟨u1.heap.size+1,0,none⟩) (vs:=[1,2]) (S:=fxS2) (fx_row b1) (by decide) (fx_in b0 b2 b3 b4 (by decide)) (M:=99) rfl fun s order2 hd hk aa2 rows2 av2 oa2 oc2 xa2 xc2 v1 hP2=>?_
 obtain⟨rfl,rfl⟩:s=fxE2.1∧order2=fxE2.2:=by
  have:=gover_eq fxE2_done (s,order2) hk
  exact⟨congrArg Prod.fst this,congrArg Prod.snd this⟩
 have hst:=fxE2_st
 generalize fxE2.2=order2 at hP2 ⊢
 generalize decide (0<cnt fxE2.1.live 2)=lv2
 have ha2:(fun i=>((fxE2.1.th i).ans:List SAn)) 1=[(true,0,[1,11])]:=fxE2_ans
 generalize (fun i=>((fxE2.1.th i).ans:List SAn))=an2 at hP2 ha2
 rw[hst]at hP2 ⊢
 have k4:Keep v v1:=⟨hP2.size,hP2.old⟩
 clear hk hd b0 b1 b2 b3 b4
 refine bes_own (F:=F0) (Stop:=fun a u2=>a=G (c.finish (.bool true)) cs∧v1.heap.size≤u2.heap.size∧∀r,r<v1.heap.size→u2.heap[r]? =v1.heap[r]?)
  (fx_2 under_F0 (Nat.zero_le _) hA fun A hA=>?_) fun a u2 ⟨ha,hs2,ho2⟩=>?_
 ·have q1:=fxt_of hP2 ha2 (u':=v1.alloc (.cells #[.slice (some ⟨aa2,0,none⟩) 2 2,.slice oa2 order2.length oc2,.slice xa2 ([2,10,11]:List Int).length xc2,.bool lv2] 31)) rfl
  have ho:∀r,r<v1.heap.size→(v1.alloc (.cells #[.slice (some ⟨aa2,0,none⟩) 2 2,.slice oa2 order2.length oc2,.slice xa2 ([2,10,11]:List Int).length xc2,.bool lv2] 31)).heap[r]? =v1.heap[r]?:=fun r hr=>heap_alloc_lt _ _ hr
  have hz:(v1.alloc (.cells #[.slice (some ⟨aa2,0,none⟩) 2 2,.slice oa2 order2.length oc2,.slice xa2 ([2,10,11]:List Int).length xc2,.bool lv2] 31)).heap.size=v1.heap.size+1:=by simp
  generalize v1.alloc (.cells #[.slice (some ⟨aa2,0,none⟩) 2 2,.slice oa2 order2.length oc2,.slice xa2 ([2,10,11]:List Int).length xc2,.bool lv2] 31)=V at q1 ho hz ⊢
  have q2:FxT V u1.heap.size false []:=(t2.same k4.2).same fun r cc e z h=>(ho r (alt h)).trans h
  refine own_piece closed22 prog_late (by kernel_rfl) (R:=fun A u=>A.size=124∧A.getD 89 undef= .bool false∧V.heap.size≤u.heap.size∧∀r,r<V.heap.size→u.heap[r]? =V.heap[r]?) (by decide) (fun τ e=>fx_r4 (w:=retape V τ e) (q2.same fun _ _ _ _ h=>h) (q1.same fun _ _ _ _ h=>h) hA) fun A2 w2 τ e hR hg=>?_
  obtain⟨r1,r2,r3,r4⟩:=hR
  refine fx_calls ⟨r1,r2,trivial⟩ fun w3 hs3 ho3=>.stop fun d=>⟨rfl,?_,fun r hr=>?_⟩
  ·have r3:V.heap.size≤w2.heap.size:=r3
   show _≤w3.heap.size
   have hs3:w2.heap.size≤w3.heap.size:=hs3
   omega
  ·have r3:V.heap.size≤w2.heap.size:=r3
   have r4:w2.heap[r]? =V.heap[r]?:=r4 r (by omega)
   have h3:w3.heap[r]? =w2.heap[r]?:=ho3 r (by show r<w2.heap.size;omega)
   exact h3.trans (r4.trans (ho r hr))
 ·subst ha
  exact K u2 (k1.trans (k2.trans (k3.trans (k4.trans (.of hs2 ho2)))))
end
noncomputable section
variable{F:Fz}{w:World}
theorem b64z:Try.prog.built 64 []=some #[.int .i64 0,.int .i64 0,.slice none 0 0]:=by kernel_rfl
@[go_sem] theorem run_b64z(w:World):(Instr.build 64 #[]).run Try.prog w= .ok (.agg #[.int .i64 0,.int .i64 0,.slice none 0 0]) w:=run_build w _ _ _ b64z
@[go_sem] theorem ev_b64z(w:World)(es:Array Event):(Instr.build 64 #[]).events Try.prog w es=es:=ev_build w es _ _ _ _ Try.underlying64 b64z
def sveBody:Code:=Try.f19.body.getD .skip
def sves0:=pC [] sveBody
def sver0:=pC [zt] sveBody
def sves1:=pC [zf] sveBody
def sves2:=pC [zf,zt] sveBody
def sver1:=pC [zf,zt,zt] sveBody
def svec4:=pC [zf,zt,zf] sveBody
def sves3:=pC [zf,zt,zf,zt] sveBody
def sver2:=pC [zf,zt,zf,zt,zt] sveBody
def sves4:=pC [zf,zf] sveBody
theorem sves0':sves0= .seq sver0 sves1:=by kernel_rfl
theorem sver0':sver0= .region 0 (oC sver0) false:=by kernel_rfl
theorem sves1':sves1= .seq sves2 sves4:=by kernel_rfl
theorem sves2':sves2= .seq sver1 svec4:=by kernel_rfl
theorem sver1':sver1= .region 1 (oC sver1) false:=by kernel_rfl
theorem svec4':svec4= .cond (.tmp 4) sves3 .skip:=by kernel_rfl
theorem sves3':sves3= .seq sver2 .ret:=by kernel_rfl
theorem sver2':sver2= .region 2 (oC sver2) false:=by kernel_rfl
theorem enter_sve(args:Array Value):Frame.enter Try.prog 19 args .normal=(Go.Conc.base 19).at {tmps:=args++Array.replicate (9 - args.size) undef,defers:=[]} [.code sves0]:=enter_at args Try.func19 rfl
theorem own_svers_nil{c:Frame}{cs:List Frame}{main:Bool}{Stop:Goroutine→World→Prop}
 (h:Own Try.prog main F Stop (G (c.finish (.int .i64 0)) cs) w):
 Own Try.prog main F Stop (G (Frame.enter Try.prog 19 #[.pointer none] .normal) (c::cs)) w:=by
 rw[enter_sve]
 walk_nrm
 refine ogSR sves0' sver0' ?_
 simp only[sver0,sveBody,Try.f19,zz,Nat.reduceAdd]
 (refine oW fun dd K hK=>?_;go_simp;refine qT hK ?_;clear hK K)
 refine ogE ?_
 refine ogSE sves1' ?_
 refine ogSR sves2' sver1' ?_
 simp only[sver1,sveBody,Try.f19,zz,Nat.reduceAdd]
 iterate 2 (refine oW fun dd K hK=>?_;go_simp;refine qT hK ?_;clear hK K)
 refine ogE ?_
 rw[svec4']
 refine ogT ?_
 simp only[if_true]
 refine ogSR sves3' sver2' ?_
 simp only[sver2,sveBody,Try.f19,zz,Nat.reduceAdd]
 (refine oW fun dd K hK=>?_;go_simp;refine qT hK ?_;clear hK K)
 refine ogE ?_
 refine ogX ?_
 refine own_go rfl (fun d=>stepG_leave (fn:=Try.f19) (v:=.int .i64 0) rfl rfl Try.func19 (by simp[results,Try.f19]) (by simp[results,Try.f19,go_sem])) ?_
 exact h
theorem own_svalues_nil{c:Frame}{cs:List Frame}{main:Bool}{Stop:Goroutine→World→Prop}
 (h:Own Try.prog main F Stop (G (c.finish (.slice none 0 0)) cs) w):
 Own Try.prog main F Stop (G (Frame.enter Try.prog 23 #[.pointer none] .normal) (c::cs)) w:=by
 rw[enter_sva]
 walk_nrm
 refine ogSR svas0' svar0' ?_
 simp only[svar0,svaBody,Try.f23,zz,Nat.reduceAdd]
 (refine oW fun dd K hK=>?_;go_simp;refine qT hK ?_;clear hK K)
 refine ogE ?_
 refine ogSR svas1' svar1' ?_
 simp only[svar1,svaBody,Try.f23,zz,Nat.reduceAdd]
 (refine oW fun dd K hK=>?_;go_simp;refine qT hK ?_;clear hK K)
 refine oc callable28 #[.pointer none,.nilIface] ?_
 refine own_raw_nil ?_
 rw[Frame.finish_at]
 walk_nrm
 (refine oW fun dd K hK=>?_;go_simp;refine qT hK ?_;clear hK K)
 refine ogE ?_
 refine ogX ?_
 refine own_go rfl (fun d=>stepG_leave (fn:=Try.f23) (v:=.slice none 0 0) rfl rfl Try.func23 (by simp[results,Try.f23]) (by simp[results,Try.f23,go_sem])) ?_
 exact h
def snnBody:Code:=Try.f6.body.getD .skip
def snns0:=pC [] snnBody
def snnr0:=pC [zt] snnBody
def snns1:=pC [zf] snnBody
def snns2:=pC [zf,zt] snnBody
def snnr1:=pC [zf,zt,zt] snnBody
def snnc14:=pC [zf,zt,zf] snnBody
def snns3:=pC [zf,zt,zf,zt] snnBody
def snns4:=pC [zf,zf] snnBody
def snnr3:=pC [zf,zf,zt] snnBody
def snns5:=pC [zf,zf,zf] snnBody
def snnr4:=pC [zf,zf,zf,zt] snnBody
def snns6:=pC [zf,zf,zf,zf] snnBody
def snns7:=pC [zf,zf,zf,zf,zt] snnBody
def snnr5:=pC [zf,zf,zf,zf,zt,zt] snnBody
def snnb0:=pC [zf,zf,zf,zf,zt,zf] snnBody
def snnl8:=pC [zf,zf,zf,zf,zt,zf,zt] snnBody
def snns9:=pC [zf,zf,zf,zf,zt,zf,zt,zt] snnBody
def snns10:=pC [zf,zf,zf,zf,zt,zf,zt,zt,zt] snnBody
def snnr6:=pC [zf,zf,zf,zf,zt,zf,zt,zt,zt,zt] snnBody
def snnc21:=pC [zf,zf,zf,zf,zt,zf,zt,zt,zt,zf] snnBody
def snns11:=pC [zf,zf,zf,zf,zt,zf,zt,zt,zf] snnBody
def snnb1:=pC [zf,zf,zf,zf,zt,zf,zt,zt,zf,zt] snnBody
def snns12:=pC [zf,zf,zf,zf,zt,zf,zt,zt,zf,zt,zt] snnBody
def snnr8:=pC [zf,zf,zf,zf,zt,zf,zt,zt,zf,zt,zt,zt] snnBody
def snns13:=pC [zf,zf,zf,zf,zt,zf,zt,zt,zf,zt,zt,zf] snnBody
def snnr9:=pC [zf,zf,zf,zf,zt,zf,zt,zt,zf,zt,zt,zf,zt] snnBody
def snns14:=pC [zf,zf,zf,zf,zt,zf,zt,zt,zf,zt,zt,zf,zf] snnBody
def snns15:=pC [zf,zf,zf,zf,zt,zf,zt,zt,zf,zt,zt,zf,zf,zt] snnBody
def snnr10:=pC [zf,zf,zf,zf,zt,zf,zt,zt,zf,zt,zt,zf,zf,zt,zt] snnBody
def snnc78:=pC [zf,zf,zf,zf,zt,zf,zt,zt,zf,zt,zt,zf,zf,zt,zf] snnBody
def snns16:=pC [zf,zf,zf,zf,zt,zf,zt,zt,zf,zt,zt,zf,zf,zt,zf,zt] snnBody
def snns17:=pC [zf,zf,zf,zf,zt,zf,zt,zt,zf,zt,zt,zf,zf,zf] snnBody
def snnr12:=pC [zf,zf,zf,zf,zt,zf,zt,zt,zf,zt,zt,zf,zf,zf,zt] snnBody
def snns18:=pC [zf,zf,zf,zf,zt,zf,zt,zt,zf,zt,zt,zf,zf,zf,zf] snnBody
def snnr13:=pC [zf,zf,zf,zf,zt,zf,zt,zt,zf,zt,zt,zf,zf,zf,zf,zt] snnBody
def snnc116:=pC [zf,zf,zf,zf,zt,zf,zt,zt,zf,zt,zt,zf,zf,zf,zf,zf] snnBody
def snns19:=pC [zf,zf,zf,zf,zt,zf,zt,zt,zf,zt,zt,zf,zf,zf,zf,zf,zt] snnBody
def snnr7:=pC [zf,zf,zf,zf,zt,zf,zt,zt,zf,zf] snnBody
def snns20:=pC [zf,zf,zf,zf,zf] snnBody
def snnr15:=pC [zf,zf,zf,zf,zf,zt] snnBody
theorem snns0':snns0= .seq snnr0 snns1:=by kernel_rfl
theorem snnr0':snnr0= .region 0 (oC snnr0) false:=by kernel_rfl
theorem snns1':snns1= .seq snns2 snns4:=by kernel_rfl
theorem snns2':snns2= .seq snnr1 snnc14:=by kernel_rfl
theorem snnr1':snnr1= .region 1 (oC snnr1) false:=by kernel_rfl
theorem snnc14':snnc14= .cond (.tmp 14) snns3 .skip:=by kernel_rfl
theorem snns4':snns4= .seq snnr3 snns5:=by kernel_rfl
theorem snnr3':snnr3= .region 3 (oC snnr3) false:=by kernel_rfl
theorem snns5':snns5= .seq snnr4 snns6:=by kernel_rfl
theorem snnr4':snnr4= .region 4 (oC snnr4) false:=by kernel_rfl
theorem snns6':snns6= .seq snns7 snns20:=by kernel_rfl
theorem snns7':snns7= .seq snnr5 snnb0:=by kernel_rfl
theorem snnr5':snnr5= .region 5 (oC snnr5) false:=by kernel_rfl
theorem snnb0':snnb0= .block 0 snnl8:=by kernel_rfl
theorem snnl8':snnl8= .loop snns9:=by kernel_rfl
theorem snns9':snns9= .seq snns10 snns11:=by kernel_rfl
theorem snns10':snns10= .seq snnr6 snnc21:=by kernel_rfl
theorem snnr6':snnr6= .region 6 (oC snnr6) false:=by kernel_rfl
theorem snnc21':snnc21= .cond (.tmp 21) .skip (.exit 0):=by kernel_rfl
theorem snns11':snns11= .seq snnb1 snnr7:=by kernel_rfl
theorem snnb1':snnb1= .block 1 snns12:=by kernel_rfl
theorem snns12':snns12= .seq snnr8 snns13:=by kernel_rfl
theorem snnr8':snnr8= .region 8 (oC snnr8) false:=by kernel_rfl
theorem snns13':snns13= .seq snnr9 snns14:=by kernel_rfl
theorem snnr9':snnr9= .region 9 (oC snnr9) false:=by kernel_rfl
theorem snns14':snns14= .seq snns15 snns17:=by kernel_rfl
theorem snns15':snns15= .seq snnr10 snnc78:=by kernel_rfl
theorem snnr10':snnr10= .region 10 (oC snnr10) false:=by kernel_rfl
theorem snnc78':snnc78= .cond (.tmp 78) snns16 .skip:=by kernel_rfl
theorem snns17':snns17= .seq snnr12 snns18:=by kernel_rfl
theorem snnr12':snnr12= .region 12 (oC snnr12) true:=by kernel_rfl
theorem snns18':snns18= .seq snnr13 snnc116:=by kernel_rfl
theorem snnr13':snnr13= .region 13 (oC snnr13) false:=by kernel_rfl
theorem snnc116':snnc116= .cond (.tmp 116) snns19 .skip:=by kernel_rfl
theorem snnr7':snnr7= .region 7 (oC snnr7) false:=by kernel_rfl
theorem snns20':snns20= .seq snnr15 .ret:=by kernel_rfl
theorem snnr15':snnr15= .region 15 (oC snnr15) false:=by kernel_rfl
theorem enter_snn(args:Array Value):Frame.enter Try.prog 6 args .normal=(Go.Conc.base 6).at {tmps:=args++Array.replicate (117 - args.size) undef,defers:=[]} [.code snns0]:=enter_at args Try.func6 rfl
def snnT(s:Nat→Value):Array Value:= #[s 0,s 1,s 2,s 3,s 4,s 5,s 6,s 7,s 8,s 9,s 10,s 11,s 12,s 13,s 14,s 15,s 16,s 17,s 18,s 19,s 20,s 21,s 22,s 23,s 24,s 25,s 26,s 27,s 28,s 29,s 30,s 31,s 32,s 33,s 34,s 35,s 36,s 37,s 38,s 39,s 40,s 41,s 42,s 43,s 44,s 45,s 46,s 47,s 48,s 49,s 50,s 51,s 52,s 53,s 54,s 55,s 56,s 57,s 58,s 59,s 60,s 61,s 62,s 63,s 64,s 65,s 66,s 67,s 68,s 69,s 70,s 71,s 72,s 73,s 74,s 75,s 76,s 77,s 78,s 79,s 80,s 81,s 82,s 83,s 84,s 85,s 86,s 87,s 88,s 89,s 90,s 91,s 92,s 93,s 94,s 95,s 96,s 97,s 98,s 99,s 100,s 101,s 102,s 103,s 104,s 105,s 106,s 107,s 108,s 109,s 110,s 111,s 112,s 113,s 114,s 115,s 116]
theorem snnT_of{A:Array Value}(h:A.size=117):∃s,A=snnT s:=by
 obtain⟨s,hs,_⟩:=arr_lit A h
 exact⟨s,hs⟩
theorem sn_0{oa:Option Addr}{ol oq:Nat}{cs:List Frame}{main:Bool}{Stop:Goroutine→World→Prop}
 (h:∀A,Slots 117 A [(0,.slice oa ol oq)]→Own Try.prog main F Stop (G (Frame.enter Try.prog 13 #[] .normal) (((Go.Conc.base 6).at ⟨A,[]⟩ [.inRegion (oC snnr1) [0,1],.code snnc14,.code snns4])::cs)) w):
 Own Try.prog main F Stop (G (Frame.enter Try.prog 6 #[.slice oa ol oq] .normal) cs) w:=by
 rw[enter_snn]
 walk_nrm
 refine ogSR snns0' snnr0' ?_
 simp only[snnr0,snnBody,Try.f6,zz,Nat.reduceAdd]
 (refine oW fun dd K hK=>?_;go_simp;refine qT hK ?_;clear hK K)
 refine ogE ?_
 refine ogSE snns1' ?_
 refine ogSR snns2' snnr1' ?_
 simp only[snnr1,snnBody,Try.f6,zz,Nat.reduceAdd]
 refine oc callable13 #[] ?_
 refine h _ ?_
 exact⟨rfl,rfl,trivial⟩
theorem sn_1{nn:Nat}(hU:Under F nn)(hn:nn≤w.heap.size){oa:Option Addr}{ol oq:Nat}{A:Array Value}(hA:Slots 117 A [(0,.slice oa ol oq)]){cs:List Frame}{main:Bool}{Stop:Goroutine→World→Prop}
 (h:∀A,Slots 117 A [(0,.slice oa ol oq),(3,.pointer none),(16,.pointer (some ⟨w.heap.size,0,none⟩))]→Own Try.prog main F Stop (G (Frame.enter Try.prog 17 #[.slice none 0 0] .normal) (((Go.Conc.base 6).at ⟨A,[]⟩ [.inRegion (oC snnr4) [2,3,4],.code snns6])::cs)) (w.alloc (.cells #[.int .i64 0,.int .i64 0,.slice none 0 0] 64))):
 Own Try.prog main F Stop (G (((Go.Conc.base 6).at ⟨A,[]⟩ [.inRegion (oC snnr1) [0,1],.code snnc14,.code snns4]).finish (.bool true)) cs) w:=by
 obtain⟨hsz,h0,_⟩:=hA
 obtain⟨s,rfl⟩:=snnT_of hsz
 change s 0=_ at h0
 clear hsz
 simp only[snnT,h0]
 clear h0
 rw[Frame.finish_at]
 simp only[snnr1,snnBody,Try.f6,zz,Nat.reduceAdd]
 walk_nrm
 (refine oW fun dd K hK=>?_;go_simp;refine qT hK ?_;clear hK K)
 refine ogE ?_
 rw[snnc14']
 refine ogF ?_
 simp only[Bool.false_eq_true,if_false]
 refine ogK ?_
 refine ogSR snns4' snnr3' ?_
 simp only[snnr3,snnBody,Try.f6,zz,Nat.reduceAdd]
 (refine oW fun dd K hK=>?_;go_simp;refine qT hK ?_;clear hK K)
 refine ogE ?_
 refine ogSR snns5' snnr4' ?_
 simp only[snnr4,snnBody,Try.f6,zz,Nat.reduceAdd]
 (refine oW fun dd K hK=>?_;go_simp;refine qT hK ?_;clear hK K)
 (refine oW fun dd K hK=>?_;go_simp;refine qA hK hU ?_;clear hK K)
 refine oc callable17 #[.slice none 0 0] ?_
 refine h _ ?_
 exact⟨rfl,rfl,rfl,rfl,trivial⟩
theorem sn_2{oa:Option Addr}{ol oq:Nat}{lz lb:Nat}{A:Array Value}(hA:Slots 117 A [(0,.slice oa ol oq),(3,.pointer none),(16,.pointer (some ⟨lz,0,none⟩))]){cs:List Frame}{main:Bool}{Stop:Goroutine→World→Prop}
 (h:∀A,Slots 117 A [(0,.slice oa ol oq),(3,.pointer none),(4,.pointer (some ⟨lz,0,none⟩)),(5,.pointer (some ⟨lb,0,none⟩)),(6,.int .i64 (0:Nat))]→Own Try.prog main F Stop (G ((Go.Conc.base 6).at ⟨A,[]⟩ [.code snns9,.inLoop snns9,.inBlock 0,.code snns20]) cs) w):
 Own Try.prog main F Stop (G (((Go.Conc.base 6).at ⟨A,[]⟩ [.inRegion (oC snnr4) [2,3,4],.code snns6]).finish (.pointer (some ⟨lb,0,none⟩))) cs) w:=by
 obtain⟨hsz,h0,h3,h16,_⟩:=hA
 obtain⟨s,rfl⟩:=snnT_of hsz
 change s 0=_ at h0
 change s 3=_ at h3
 change s 16=_ at h16
 clear hsz
 simp only[snnT,h0,h3,h16]
 clear h0 h3 h16
 rw[Frame.finish_at]
 simp only[snnr4,snnBody,Try.f6,zz,Nat.reduceAdd]
 walk_nrm
 iterate 2 (refine oW fun dd K hK=>?_;go_simp;refine qT hK ?_;clear hK K)
 refine ogE ?_
 refine ogSE snns6' ?_
 refine ogSR snns7' snnr5' ?_
 simp only[snnr5,snnBody,Try.f6,zz,Nat.reduceAdd]
 (refine oW fun dd K hK=>?_;go_simp;refine qT hK ?_;clear hK K)
 refine ogE ?_
 rw[snnb0']
 refine ogB ?_
 rw[snnl8']
 refine ogP ?_
 refine h _ ?_
 exact⟨rfl,rfl,rfl,rfl,rfl,rfl,trivial⟩
theorem sn_3{nn:Nat}(hU:Under F nn)(hn:nn≤w.heap.size){oa:Option Addr}{ol oq:Nat}{lz lb i:Nat}(hi:i<ol){A:Array Value}(hA:Slots 117 A [(0,.slice oa ol oq),(3,.pointer none),(4,.pointer (some ⟨lz,0,none⟩)),(5,.pointer (some ⟨lb,0,none⟩)),(6,.int .i64 (i:Nat))]){cs:List Frame}{main:Bool}{Stop:Goroutine→World→Prop}
 (h:∀A,Slots 117 A [(0,.slice oa ol oq),(3,.pointer none),(4,.pointer (some ⟨lz,0,none⟩)),(5,.pointer (some ⟨lb,0,none⟩)),(6,.int .i64 (i:Nat))]→Own Try.prog main F Stop (G ((Go.Conc.base 6).at ⟨A,[]⟩ [.code snnr12,.code snns18,.inBlock 1,.code snnr7,.inLoop snns9,.inBlock 0,.code snns20]) cs) ((w.alloc (.cells #[.int .i64 1] 2)).alloc (.cells #[.int .i64 1] 2))):
 Own Try.prog main F Stop (G ((Go.Conc.base 6).at ⟨A,[]⟩ [.code snns9,.inLoop snns9,.inBlock 0,.code snns20]) cs) w:=by
 obtain⟨hsz,h0,h3,h4,h5,h6,_⟩:=hA
 obtain⟨s,rfl⟩:=snnT_of hsz
 change s 0=_ at h0
 change s 3=_ at h3
 change s 4=_ at h4
 change s 5=_ at h5
 change s 6=_ at h6
 clear hsz
 simp only[snnT,h0,h3,h4,h5,h6]
 clear h0 h3 h4 h5 h6
 have hlt:decide ((i:Int)<(ol:Int))=true:=by simp;omega
 have hlt2:decide (i<ol)=true:=by simp;omega
 refine ogSE snns9' ?_
 refine ogSR snns10' snnr6' ?_
 simp only[snnr6,snnBody,Try.f6,zz,Nat.reduceAdd]
 iterate 4 (refine oW fun dd K hK=>?_;go_simp;refine qT hK ?_;clear hK K)
 refine ogE ?_
 rw[snnc21']
 refine ogT ?_
 simp only[if_true]
 refine ogK ?_
 refine ogSE snns11' ?_
 rw[snnb1']
 refine ogB ?_
 refine ogSR snns12' snnr8' ?_
 simp only[snnr8,snnBody,Try.f6,zz,Nat.reduceAdd]
 (refine oW fun dd K hK=>?_;go_simp;refine qT hK ?_;clear hK K)
 refine oc callable26 #[.pointer none,.nilIface,.int .i64 3] ?_
 refine own_read_nil ?_
 rw[Frame.finish_at]
 walk_nrm
 iterate 5 (refine oW fun dd K hK=>?_;go_simp;refine qT hK ?_;clear hK K)
 refine ogE ?_
 refine ogSR snns13' snnr9' ?_
 simp only[snnr9,snnBody,Try.f6,zz,Nat.reduceAdd]
 (refine oW fun dd K hK=>?_;go_simp;refine qT hK ?_;clear hK K)
 refine oc callable27 #[.pointer none,.nilIface,.int .i64 (-5)] ?_
 refine own_newer_nil ?_
 rw[Frame.finish_at]
 walk_nrm
 iterate 5 (refine oW fun dd K hK=>?_;go_simp;refine qT hK ?_;clear hK K)
 refine ogE ?_
 refine ogSE snns14' ?_
 refine ogSR snns15' snnr10' ?_
 simp only[snnr10,snnBody,Try.f6,zz,Nat.reduceAdd]
 (refine oW fun dd K hK=>?_;go_simp;refine qT hK ?_;clear hK K)
 (refine oW fun dd K hK=>?_;go_simp;refine qA hK hU ?_;clear hK K)
 refine oc callable24 #[.pointer none,.nilIface,.int .i64 2,.slice (some ⟨w.heap.size,0,none⟩) 1 1] ?_
 refine own_ww_nil1 ?_
 rw[Frame.finish_at]
 walk_nrm
 iterate 2 (refine oW fun dd K hK=>?_;go_simp;refine qT hK ?_;clear hK K)
 (refine oW fun dd K hK=>?_;go_simp;refine qA hK hU ?_;clear hK K)
 refine oc callable25 #[.pointer none,.nilIface,.int .i64 2,.slice (some ⟨w.heap.size+1,0,none⟩) 1 1] ?_
 refine own_ww_nil2 ?_
 rw[Frame.finish_at]
 walk_nrm
 iterate 11 (refine oW fun dd K hK=>?_;go_simp;refine qT hK ?_;clear hK K)
 refine oc callable28 #[.pointer none,.nilIface] ?_
 refine own_raw_nil ?_
 rw[Frame.finish_at]
 walk_nrm
 iterate 12 (refine oW fun dd K hK=>?_;go_simp;refine qT hK ?_;clear hK K)
 refine oc callable18 #[.pointer none] ?_
 refine own_len_nil ?_
 rw[Frame.finish_at]
 walk_nrm
 iterate 4 (refine oW fun dd K hK=>?_;go_simp;refine qT hK ?_;clear hK K)
 refine oc callable23 #[.pointer none] ?_
 refine own_svalues_nil ?_
 rw[Frame.finish_at]
 walk_nrm
 iterate 5 (refine oW fun dd K hK=>?_;go_simp;refine qT hK ?_;clear hK K)
 refine oc callable19 #[.pointer none] ?_
 refine own_svers_nil ?_
 rw[Frame.finish_at]
 walk_nrm
 iterate 2 (refine oW fun dd K hK=>?_;go_simp;refine qT hK ?_;clear hK K)
 refine ogE ?_
 rw[snnc78']
 refine ogF ?_
 simp only[Bool.false_eq_true,if_false]
 refine ogK ?_
 refine ogSE snns17' ?_
 refine h _ ?_
 exact⟨rfl,rfl,rfl,rfl,rfl,rfl,trivial⟩
theorem sn_end{oa:Option Addr}{ol oq:Nat}{lz lb:Nat}{A:Array Value}(hA:Slots 117 A [(0,.slice oa ol oq),(3,.pointer none),(4,.pointer (some ⟨lz,0,none⟩)),(5,.pointer (some ⟨lb,0,none⟩)),(6,.int .i64 (ol:Nat))]){cs:List Frame}{main:Bool}{Stop:Goroutine→World→Prop}(h:∀A,A.getD 2 undef= .bool true→Own Try.prog main F Stop (G {(Go.Conc.base 6).at ⟨A,[]⟩ [.code .ret]with mode:=.returning} cs) w):Own Try.prog main F Stop (G ((Go.Conc.base 6).at ⟨A,[]⟩ [.code snns9,.inLoop snns9,.inBlock 0,.code snns20]) cs) w:=by
 obtain⟨hsz,h0,h3,h4,h5,h6,_⟩:=hA
 obtain⟨s,rfl⟩:=snnT_of hsz
 change s 0=_ at h0
 change s 3=_ at h3
 change s 4=_ at h4
 change s 5=_ at h5
 change s 6=_ at h6
 clear hsz
 simp only[snnT,h0,h3,h4,h5,h6]
 clear h0 h3 h4 h5 h6
 have hlt:decide ((ol:Int)<(ol:Int))=false:=by simp
 have hlt2:decide (ol<ol)=false:=by simp
 refine ogSE snns9' ?_
 refine ogSR snns10' snnr6' ?_
 simp only[snnr6,snnBody,Try.f6,zz,Nat.reduceAdd]
 iterate 4 (refine oW fun dd K hK=>?_;go_simp;refine qT hK ?_;clear hK K)
 refine ogE ?_
 rw[snnc21']
 refine ogF ?_
 simp only[Bool.false_eq_true,if_false]
 refine own_go rfl (fun d=>stepG_exit rfl) ?_
 refine ogSR snns20' snnr15' ?_
 simp only[snnr15,snnBody,Try.f6,zz,Nat.reduceAdd]
 (refine oW fun dd K hK=>?_;go_simp;refine qT hK ?_;clear hK K)
 refine ogE ?_
 refine ogX ?_
 exact h _ rfl
end
section
variable{w w':World}
structure OpI(b o:Nat)(x:Op4)(w:World):Prop where
 f0:w.cell? ⟨b,o,none⟩=some (.int .i64 x.kd)
 f1:w.cell? ⟨b,o+1,none⟩=some (.int .i64 x.a)
 f2:w.cell? ⟨b,o+2,none⟩=some (.int .i64 x.b)
 f3:w.cell? ⟨b,o+3,none⟩=some (.int .i64 x.c)
theorem OpI.at{b o:Nat}{x:Op4}(h:OpI b o x w)(d:Nat):OpI b o x (w.at d):=⟨h.f0,h.f1,h.f2,h.f3⟩
theorem OpI.low{b o:Nat}{x:Op4}(h:OpI b o x w):b<w.heap.size:=cell_low h.f0
theorem OpI.same{b o:Nat}{x:Op4}(h:OpI b o x w)(hs:w'.heap[b]? =w.heap[b]?):OpI b o x w':=⟨(cell_heap hs).1.trans h.f0,(cell_heap hs).1.trans h.f1,(cell_heap hs).1.trans h.f2,(cell_heap hs).1.trans h.f3⟩
structure LsN(w1:World)(lz lb wb:Nat)(sz ss:SSt)(u:World):Prop where
 z:SU lz ⟨sz,lz,1⟩ u
 l:SU lb ⟨ss,wb,0⟩ u
 size:w1.heap.size≤u.heap.size
 o:∀r,r<w1.heap.size→r≠lz→r≠lb→r≠wb→u.heap[r]? =w1.heap[r]?
structure CN(w1:World)(lz lb wb:Nat):Prop where
 z:lz<w1.heap.size
 l:lb<w1.heap.size
 w:wb<w1.heap.size
 zl:lz≠lb
 zw:lz≠wb
structure In12(w1:World)(lz lb wb:Nat)(an:SAn)(sz ss:SSt)(x1 x2:Option SA)(xo yo:Option Nat)(u:World):Prop where
 b:LsN w1 lz lb wb sz ss u
 a1:∀a,x1=some a→a.an=an∧SAU a u∧∀g,a.row.ownBlock=some g→w1.heap.size≤g
 a2:∀a,x2=some a→a.an=an∧SAU a u∧∀g,a.row.ownBlock=some g→w1.heap.size≤g
 x:∀b,xo=some b→w1.heap.size≤b∧u.heap[b]? =some (.cells #[.bool false,.int .i64 0,.slice none 0 0] 44 (0,0))
 y:∀b,yo=some b→w1.heap.size≤b∧u.heap[b]? =some (.cells #[.bool false,.int .i64 0,.slice none 0 0] 44 (0,0))
 xy:∀b,xo=some b→yo≠some b
section
variable{w1 u u':World}{lz lb wb:Nat}{an:SAn}{sz ss s:SSt}{x1 x2:Option SA}{xo yo:Option Nat}{o:Op4}
theorem LsN.above(h:LsN w1 lz lb wb sz ss u)(C:CN w1 lz lb wb)(hs:∀r,r<w1.heap.size→u'.heap[r]? =u.heap[r]?)(hz:u.heap.size≤u'.heap.size):LsN w1 lz lb wb sz ss u':=
 ⟨h.z.same fun r hr=>hs r (by rcases hr with rfl|rfl<;>exact C.z),h.l.same fun r hr=>hs r (by rcases hr with rfl|rfl;exact C.l;exact C.w),Nat.le_trans h.size hz,fun r hr a b c=>(hs r hr).trans (h.o r hr a b c)⟩
theorem sau_off{a:SA}(h:SAU a u)(hs:∀(b:Nat) (c:Array Value),u.heap[b]? =some (.cells c 2 (0,0))→u'.heap[b]? =u.heap[b]?):SAU a u':=own_off2 h fun b c hb _=>hs b c hb
theorem In12.grow(h:In12 w1 lz lb wb an sz ss x1 x2 xo yo u)(C:CN w1 lz lb wb)(hs:∀r,r<u.heap.size→u'.heap[r]? =u.heap[r]?)(hz:u.heap.size≤u'.heap.size):In12 w1 lz lb wb an sz ss x1 x2 xo yo u':=by
 have hlt:∀{r:Nat} {x:Obj},u.heap[r]? =some x→u'.heap[r]? =u.heap[r]?:=fun hr=>hs _ (alt hr)
 exact⟨h.b.above C (fun r hr=>hs r (Nat.lt_of_lt_of_le hr h.b.size)) hz,fun a ha=>⟨(h.a1 a ha).1,sau_off (h.a1 a ha).2.1 fun b c hb=>hlt hb,(h.a1 a ha).2.2⟩,fun a ha=>⟨(h.a2 a ha).1,sau_off (h.a2 a ha).2.1 fun b c hb=>hlt hb,(h.a2 a ha).2.2⟩,fun b hb=>⟨(h.x b hb).1,(hlt (h.x b hb).2).trans (h.x b hb).2⟩,fun b hb=>⟨(h.y b hb).1,(hlt (h.y b hb).2).trans (h.y b hb).2⟩,h.xy⟩
theorem In12.at(h:In12 w1 lz lb wb an sz ss x1 x2 xo yo u)(C:CN w1 lz lb wb)(d:Nat):In12 w1 lz lb wb an sz ss x1 x2 xo yo (u.at d):=h.grow C (fun _ _=>rfl) (Nat.le_refl _)
theorem In12.allocX(h:In12 w1 lz lb wb an sz ss x1 x2 none yo u)(C:CN w1 lz lb wb):In12 w1 lz lb wb an sz ss x1 x2 (some u.heap.size) yo (u.alloc (.cells #[.bool false,.int .i64 0,.slice none 0 0] 44)):=by
 have g:=h.grow C (u':=u.alloc (.cells #[.bool false,.int .i64 0,.slice none 0 0] 44)) (fun r hr=>heap_alloc_lt _ _ hr) (by simp)
 refine⟨g.b,g.a1,g.a2,fun b hb=>?_,g.y,fun b hb e=>?_⟩
 ·cases hb
  exact⟨h.b.size,heap_alloc_new _ _⟩
 ·cases hb
  have:=(Array.getElem?_eq_some_iff.1 (h.y _ e).2).1
  omega
theorem In12.allocY(h:In12 w1 lz lb wb an sz ss x1 x2 xo none u)(C:CN w1 lz lb wb):In12 w1 lz lb wb an sz ss x1 x2 xo (some u.heap.size) (u.alloc (.cells #[.bool false,.int .i64 0,.slice none 0 0] 44)):=by
 have g:=h.grow C (u':=u.alloc (.cells #[.bool false,.int .i64 0,.slice none 0 0] 44)) (fun r hr=>heap_alloc_lt _ _ hr) (by simp)
 refine⟨g.b,g.a1,g.a2,g.x,fun b hb=>?_,fun b hb e=>?_⟩
 ·cases hb
  exact⟨h.b.size,heap_alloc_new _ _⟩
 ·cases e
  have:=(Array.getElem?_eq_some_iff.1 (h.x _ hb).2).1
  omega
theorem own_callZ(C:CN w1 lz lb wb)(h:In12 w1 lz lb wb an s ss none x2 xo yo w)(hev:s.ver.tmod 2=0)(hl:s.ws.length=1)(ha:(s.call1 1 o).2.1=an){c:Frame}{cs:List Frame}{main:Bool}{Stop:Goroutine→World→Prop}
 (K:∀w' la ll lc,In12 w1 lz lb wb an (s.call1 1 o).1 ss (some ⟨an,la,ll,lc⟩) x2 xo yo w'→Own Try.prog main F0 Stop (G (c.finish (.agg #[.bool an.1,.int .i64 an.2.1,.slice la ll lc])) cs) w'):
 Own Try.prog main F0 Stop (G (Frame.enter Try.prog 20 #[.pointer (some ⟨lz,0,none⟩),.nilIface,.agg #[.int .i64 o.kd,.int .i64 o.a,.int .i64 o.b,.int .i64 o.c],.int .i64 1] .normal) (c::cs)) w:=by
 have hz:=h.b.size
 refine own_scall (n:=1) (nilSS main) (s:=⟨s,lz,1⟩) ⟨h.b.z,trivial,Nat.le_refl _,fun _ _ _ _ _=>rfl⟩ (m:=0) (fun _ h=>by cases h) (fun _ h=>by cases h) hev (by decide) hl.symm fun w' la ll lc a hau hn=>?_
 have ha':(s.call1 1 ⟨o.kd,o.a,o.b,o.c⟩).2.1=an:=ha
 have hau:SAU ⟨(s.call1 1 ⟨o.kd,o.a,o.b,o.c⟩).2.1,la,ll,lc⟩ w':=hau
 have hk:∀r,r<w.heap.size→r≠lz→w'.heap[r]? =w.heap[r]?:=fun r hr h1=>a.o r hr (by simp) h1 h1
 have hlt:∀{r:Nat} {x:Obj},w.heap[r]? =some x→r≠lz→w'.heap[r]? =w.heap[r]?:=fun hr h1=>hk _ (alt hr) h1
 have hC:=C.z
 have h64:∃cz,w.heap[lz]? =some cz:=⟨_,Array.getElem?_eq_getElem (Nat.lt_of_lt_of_le C.z hz)⟩
 simp only[ha']at hau ⊢
 refine K w' la ll lc ⟨⟨a.u,h.b.l.same fun r hr=>hk r (h.b.l.low hr) (by rcases hr with rfl|rfl;exact fun e=>C.zl e.symm;exact fun e=>C.zw e.symm),Nat.le_trans hz a.sz,fun r hr h1 h2 h3=>(hk r (by omega) h1).trans (h.b.o r hr h1 h2 h3)⟩,fun q hq=>?_,fun q hq=>⟨(h.a2 q hq).1,ownsRow_same2 (h.a2 q hq).2.1 fun g hg _=>hk g (row_low (h.a2 q hq).2.1 hg) (by have:=(h.a2 q hq).2.2 g hg;omega),(h.a2 q hq).2.2⟩,fun b hb=>⟨(h.x b hb).1,(hlt (h.x b hb).2 (by have:=(h.x b hb).1;omega)).trans (h.x b hb).2⟩,fun b hb=>⟨(h.y b hb).1,(hlt (h.y b hb).2 (by have:=(h.y b hb).1;omega)).trans (h.y b hb).2⟩,h.xy⟩
 cases hq
 exact⟨rfl,hau,fun g hg=>by have:=hn g hg;omega⟩
theorem own_callO(C:CN w1 lz lb wb)(h:In12 w1 lz lb wb an sz s x1 none xo yo w)(hev:s.ver.tmod 2=0)(hl:s.ws.length=1)(ha:(s.call1 1 o).2.1=an){c:Frame}{cs:List Frame}{main:Bool}{Stop:Goroutine→World→Prop}
 (K:∀w' la ll lc,In12 w1 lz lb wb an sz (s.call1 1 o).1 x1 (some ⟨an,la,ll,lc⟩) xo yo w'→Own Try.prog main F0 Stop (G (c.finish (.agg #[.bool an.1,.int .i64 an.2.1,.slice la ll lc])) cs) w'):
 Own Try.prog main F0 Stop (G (Frame.enter Try.prog 20 #[.pointer (some ⟨lb,0,none⟩),.nilIface,.agg #[.int .i64 o.kd,.int .i64 o.a,.int .i64 o.b,.int .i64 o.c],.int .i64 1] .normal) (c::cs)) w:=by
 have hz:=h.b.size
 refine own_scall (n:=1) (nilSS main) (s:=⟨s,wb,0⟩) ⟨h.b.l,trivial,Nat.le_refl _,fun _ _ _ _ _=>rfl⟩ (m:=0) (fun _ h=>by cases h) (fun _ h=>by cases h) hev (by decide) hl.symm fun w' la ll lc a hau hn=>?_
 have ha':(s.call1 1 ⟨o.kd,o.a,o.b,o.c⟩).2.1=an:=ha
 have hau:SAU ⟨(s.call1 1 ⟨o.kd,o.a,o.b,o.c⟩).2.1,la,ll,lc⟩ w':=hau
 have hk:∀r,r<w.heap.size→r≠lb→r≠wb→w'.heap[r]? =w.heap[r]?:=fun r hr h1 h2=>a.o r hr (by simp) h1 h2
 have hlt:∀{r:Nat} {x:Obj},w.heap[r]? =some x→r≠lb→r≠wb→w'.heap[r]? =w.heap[r]?:=fun hr h1 h2=>hk _ (alt hr) h1 h2
 have hC:=C.l
 have hC2:=C.w
 simp only[ha']at hau ⊢
 refine K w' la ll lc ⟨⟨h.b.z.same fun r hr=>hk r (h.b.z.low hr) (by rcases hr with rfl|rfl<;>exact C.zl) (by rcases hr with rfl|rfl<;>exact C.zw),a.u,Nat.le_trans hz a.sz,fun r hr h1 h2 h3=>(hk r (by omega) h2 h3).trans (h.b.o r hr h1 h2 h3)⟩,fun q hq=>⟨(h.a1 q hq).1,ownsRow_same2 (h.a1 q hq).2.1 fun g hg _=>hk g (row_low (h.a1 q hq).2.1 hg) (by have:=(h.a1 q hq).2.2 g hg;omega) (by have:=(h.a1 q hq).2.2 g hg;omega),(h.a1 q hq).2.2⟩,fun q hq=>?_,fun b hb=>⟨(h.x b hb).1,(hlt (h.x b hb).2 (by have:=(h.x b hb).1;omega) (by have:=(h.x b hb).1;omega)).trans (h.x b hb).2⟩,fun b hb=>⟨(h.y b hb).1,(hlt (h.y b hb).2 (by have:=(h.y b hb).1;omega) (by have:=(h.y b hb).1;omega)).trans (h.y b hb).2⟩,h.xy⟩
 cases hq
 exact⟨rfl,hau,fun g hg=>by have:=hn g hg;omega⟩
end
structure PreN(w1:World)(lz lb wb:Nat)(s:SSt)(an:SAn)(o:Op4)(pb po:Nat):Prop where
 C:CN w1 lz lb wb
 ev:s.ver.tmod 2=0
 len:s.ws.length=1
 an:(s.call1 1 o).2.1=an
 op:OpI pb po o w1
 pn:pb≠lz∧pb≠lb∧pb≠wb
theorem PreN.F{w1 u:World}{lz lb wb pb po:Nat}{s sz ss:SSt}{an:SAn}{o:Op4}(P:PreN w1 lz lb wb s an o pb po)(h:LsN w1 lz lb wb sz ss u):OpI pb po o u:=P.op.same (h.o pb P.op.low P.pn.1 P.pn.2.1 P.pn.2.2)
abbrev LN(v0:Value)(lz lb i:Nat):List (Nat×Value):=[(0,v0),(3,.pointer none),(4,.pointer (some ⟨lz,0,none⟩)),(5,.pointer (some ⟨lb,0,none⟩)),(6,.int .i64 (i:Nat))]
def FinN(w1:World)(lz lb wb:Nat)(s:SSt)(an:SAn)(o:Op4)(L:List (Nat×Value))(Z:Act→World→Prop):Prop:=
 ∀(A:Array Value) (w':World) (x y:Nat) (la1 la2:Option Addr) (ll1 ll2 lc1 lc2:Nat),Slots 117 A ((90,.agg #[.bool an.1,.int .i64 an.2.1,.slice la2 ll2 lc2])::(11,.pointer (some ⟨x,0,none⟩))::(12,.pointer (some ⟨y,0,none⟩))::L)→
  LsN w1 lz lb wb (s.call1 1 o).1 (s.call1 1 o).1 w'→SAU ⟨an,la1,ll1,lc1⟩ w'→SAU ⟨an,la2,ll2,lc2⟩ w'→w1.heap.size≤x→w1.heap.size≤y→x≠y→w'.heap[x]? =some (.cells #[.bool an.1,.int .i64 an.2.1,.slice la1 ll1 lc1] 44 (0,0))→w'.heap[y]? =some (.cells #[.bool false,.int .i64 0,.slice none 0 0] 44 (0,0))→Z ⟨A,[]⟩ w'
section
variable{w1:World}{lz lb wb pb po i:Nat}{s:SSt}{an:SAn}{o:Op4}{v0:Value}{main:Bool}{ops:Array Oper}{Z:Act→World→Prop}
theorem n12_211(ho:ops=(oC snnr12))(P:PreN w1 lz lb wb s an o pb po){x y:Nat}{la1:Option Addr}{ll1 lc1:Nat}{la2:Option Addr}{ll2 lc2:Nat}(h:In12 w1 lz lb wb an (s.call1 1 o).1 (s.call1 1 o).1 (some ⟨an,la1,ll1,lc1⟩) (some ⟨an,la2,ll2,lc2⟩) (some x) (some y) w)(hZ:∀a w d,Z a w→Z a (World.at w d))(K:FinN w1 lz lb wb s an o (LN v0 lz lb i) Z)
 {A:Array Value} (hA:Slots 117 A ((84,.agg #[.bool an.1,.int .i64 an.2.1,.slice la1 ll1 lc1])::(90,.agg #[.bool an.1,.int .i64 an.2.1,.slice la2 ll2 lc2])::(11,.pointer (some ⟨x,0,none⟩))::(12,.pointer (some ⟨y,0,none⟩))::LN v0 lz lb i)):AnyC Try.prog main F0 6 ops (OpI pb po o) 15 Z 1 #[true,true,true,true,true,true,true,true,true,true,true,true,true,true,false,false] ⟨A,[]⟩ w:=by
 obtain⟨hsz,k84,k90,k11,k12,k0,k3,k4,k5,k6,_⟩:=hA
 obtain⟨t,rfl⟩:=snnT_of hsz
 change t 84=_ at k84
 change t 90=_ at k90
 change t 11=_ at k11
 change t 12=_ at k12
 change t 0=_ at k0
 change t 3=_ at k3
 change t 4=_ at k4
 change t 5=_ at k5
 change t 6=_ at k6
 clear hsz
 simp only[snnT,k84,k90,k11,k12,k0,k3,k4,k5,k6]
 clear k84 k90 k11 k12 k0 k3 k4 k5 k6
 have hS:∀u d,OpI pb po o u→OpI pb po o (World.at u d):=fun u d h=>h.at d
 subst ho
 simp only[snnr12,snnBody,Try.f6,zz,Nat.reduceAdd]
 refine anyC_all (r:=[14]) (by kernel_rfl) (by kernel_rfl) (fun i hi hil=>?_)
 simp only[List.mem_cons,List.not_mem_nil,or_false]at hi
 subst hi
 ·obtain⟨hx1,hx2⟩:=h.x x rfl
  obtain⟨hy1,hy2⟩:=h.y y rfl
  have hne:x≠y:=fun e=>h.xy x rfl (by rw[e])
  obtain⟨_,u1,_⟩:=h.a1 _ rfl
  obtain⟨_,u2,_⟩:=h.a2 _ rfl
  refine opc_k rfl rfl (fun d K' hK'=>?_)
  have c1:(w.at d).cell? ⟨x,0,none⟩=some (.bool false):=(bld_at hx2 (j:=0) rfl).1
  have c2:(w.at d).cell? ⟨x,1,none⟩=some (.int .i64 0):=(bld_at hx2 (j:=1) rfl).1
  have c3:(w.at d).cell? ⟨x,2,none⟩=some (.slice none 0 0):=(bld_at hx2 (j:=2) rfl).1
  have z1:(w.at d).frozen? ⟨x,0,none⟩=false:=(bld_at hx2 (j:=0) rfl).2
  have z2:(w.at d).frozen? ⟨x,1,none⟩=false:=(bld_at hx2 (j:=1) rfl).2
  have z3:(w.at d).frozen? ⟨x,2,none⟩=false:=(bld_at hx2 (j:=2) rfl).2
  have d1:w.cell? ⟨x,0,none⟩=some (.bool false):=c1
  have d2:w.cell? ⟨x,1,none⟩=some (.int .i64 0):=c2
  have d3:w.cell? ⟨x,2,none⟩=some (.slice none 0 0):=c3
  have z4:w.frozen? ⟨x,0,none⟩=false:=z1
  have z5:w.frozen? ⟨x,1,none⟩=false:=z2
  have z6:w.frozen? ⟨x,2,none⟩=false:=z3
  go_simp
  have hh:∀r:Nat,r≠x→(((w.setCell ⟨x,0,none⟩ (.bool an.1)).setCell ⟨x,1,none⟩ (.int .i64 an.2.1)).setCell ⟨x,2,none⟩ (.slice la1 ll1 lc1)).heap[r]? =w.heap[r]?:=fun r hr=>by rw[heap_setCell_ne _ _ _ hr,heap_setCell_ne _ _ _ hr,heap_setCell_ne _ _ _ hr]
  have hR:LsN w1 lz lb wb (s.call1 1 o).1 (s.call1 1 o).1 (((w.setCell ⟨x,0,none⟩ (.bool an.1)).setCell ⟨x,1,none⟩ (.int .i64 an.2.1)).setCell ⟨x,2,none⟩ (.slice la1 ll1 lc1)):=h.b.above P.C (fun r hr=>hh r (by omega)) (by simp)
  have hrow:∀(b:Nat) (c:Array Value),w.heap[b]? =some (.cells c 2 (0,0))→(((w.setCell ⟨x,0,none⟩ (.bool an.1)).setCell ⟨x,1,none⟩ (.int .i64 an.2.1)).setCell ⟨x,2,none⟩ (.slice la1 ll1 lc1)).heap[b]? =w.heap[b]?:=fun b c hb=>hh b (fun e=>by rw[e,hx2]at hb;simp at hb)
  have hxx:(((w.setCell ⟨x,0,none⟩ (.bool an.1)).setCell ⟨x,1,none⟩ (.int .i64 an.2.1)).setCell ⟨x,2,none⟩ (.slice la1 ll1 lc1)).heap[x]? =some (.cells #[.bool an.1,.int .i64 an.2.1,.slice la1 ll1 lc1] 44 (0,0)):=by
   have h1:=heap_setCell_eq (o:=0) hx2 (.bool an.1)
   have h2:=heap_setCell_eq (o:=1) h1 (.int .i64 an.2.1)
   have h3:=heap_setCell_eq (o:=2) h2 (.slice la1 ll1 lc1)
   exact h3
  refine hK' _ _ ⟨⟨⟨0,grew3 (fun k=>noF0 _) _ _ _⟩,fun e he=>by(have hm:=mem_listed he;clear he hK';simp[go_sem,storedEv,d1,d2,d3,z4,z5,z6]at hm;rcases hm with rfl|rfl|rfl<;>exact evT_write _ _ (noF0 _))⟩,?_⟩
  clear hK' K'
  simp only[setCell_at']
  refine⟨P.F (hR.above P.C (fun _ _=>rfl) (Nat.le_refl _)),?_⟩
  refine anyC_at hS hZ _ _ _ _ ?_ d
  refine anyC_end (by kernel_rfl) ?_ _
  exact K _ _ x y la1 la2 ll1 ll2 lc1 lc2 ⟨rfl,rfl,rfl,rfl,rfl,rfl,rfl,rfl,rfl,trivial⟩ hR (sau_off u1 hrow) (sau_off u2 hrow) hx1 hy1 hne hxx ((hh y (Ne.symm hne)).trans hy2)
theorem n12_210(ho:ops=(oC snnr12))(P:PreN w1 lz lb wb s an o pb po){x:Nat}{la1:Option Addr}{ll1 lc1:Nat}{la2:Option Addr}{ll2 lc2:Nat}(h:In12 w1 lz lb wb an (s.call1 1 o).1 (s.call1 1 o).1 (some ⟨an,la1,ll1,lc1⟩) (some ⟨an,la2,ll2,lc2⟩) (some x) none w)(hZ:∀a w d,Z a w→Z a (World.at w d))(K:FinN w1 lz lb wb s an o (LN v0 lz lb i) Z)
 {A:Array Value} (hA:Slots 117 A ((84,.agg #[.bool an.1,.int .i64 an.2.1,.slice la1 ll1 lc1])::(90,.agg #[.bool an.1,.int .i64 an.2.1,.slice la2 ll2 lc2])::(11,.pointer (some ⟨x,0,none⟩))::LN v0 lz lb i)):AnyC Try.prog main F0 6 ops (OpI pb po o) 15 Z 2 #[true,true,true,true,true,true,true,true,true,true,true,true,true,false,false,false] ⟨A,[]⟩ w:=by
 obtain⟨hsz,k84,k90,k11,k0,k3,k4,k5,k6,_⟩:=hA
 obtain⟨t,rfl⟩:=snnT_of hsz
 change t 84=_ at k84
 change t 90=_ at k90
 change t 11=_ at k11
 change t 0=_ at k0
 change t 3=_ at k3
 change t 4=_ at k4
 change t 5=_ at k5
 change t 6=_ at k6
 clear hsz
 simp only[snnT,k84,k90,k11,k0,k3,k4,k5,k6]
 clear k84 k90 k11 k0 k3 k4 k5 k6
 have hS:∀u d,OpI pb po o u→OpI pb po o (World.at u d):=fun u d h=>h.at d
 subst ho
 simp only[snnr12,snnBody,Try.f6,zz,Nat.reduceAdd]
 refine anyC_all (r:=[13]) (by kernel_rfl) (by kernel_rfl) (fun i hi hil=>?_)
 simp only[List.mem_cons,List.not_mem_nil,or_false]at hi
 subst hi
 ·refine opc_k rfl rfl (fun d K' hK'=>?_)
  go_simp
  refine hK' _ _ ⟨⟨⟨0,grew_alloc under_F0 (Nat.zero_le _) _⟩,fun e he=>by(have hm:=mem_listed he;simp[go_sem]at hm)⟩,P.F ((h.allocY P.C).at P.C d).b,?_⟩
  clear hK' K'
  rw[alloc_at']
  refine anyC_at hS hZ _ _ _ _ ?_ d
  walk_nrm
  refine n12_211 (by kernel_rfl) P (h.allocY P.C) hZ K ?_
  exact⟨rfl,rfl,rfl,rfl,rfl,rfl,rfl,rfl,rfl,rfl,trivial⟩
theorem n12_201(ho:ops=(oC snnr12))(P:PreN w1 lz lb wb s an o pb po){y:Nat}{la1:Option Addr}{ll1 lc1:Nat}{la2:Option Addr}{ll2 lc2:Nat}(h:In12 w1 lz lb wb an (s.call1 1 o).1 (s.call1 1 o).1 (some ⟨an,la1,ll1,lc1⟩) (some ⟨an,la2,ll2,lc2⟩) none (some y) w)(hZ:∀a w d,Z a w→Z a (World.at w d))(K:FinN w1 lz lb wb s an o (LN v0 lz lb i) Z)
 {A:Array Value} (hA:Slots 117 A ((84,.agg #[.bool an.1,.int .i64 an.2.1,.slice la1 ll1 lc1])::(90,.agg #[.bool an.1,.int .i64 an.2.1,.slice la2 ll2 lc2])::(12,.pointer (some ⟨y,0,none⟩))::LN v0 lz lb i)):AnyC Try.prog main F0 6 ops (OpI pb po o) 15 Z 2 #[true,true,true,true,true,true,true,true,true,true,true,true,false,true,false,false] ⟨A,[]⟩ w:=by
 obtain⟨hsz,k84,k90,k12,k0,k3,k4,k5,k6,_⟩:=hA
 obtain⟨t,rfl⟩:=snnT_of hsz
 change t 84=_ at k84
 change t 90=_ at k90
 change t 12=_ at k12
 change t 0=_ at k0
 change t 3=_ at k3
 change t 4=_ at k4
 change t 5=_ at k5
 change t 6=_ at k6
 clear hsz
 simp only[snnT,k84,k90,k12,k0,k3,k4,k5,k6]
 clear k84 k90 k12 k0 k3 k4 k5 k6
 have hS:∀u d,OpI pb po o u→OpI pb po o (World.at u d):=fun u d h=>h.at d
 subst ho
 simp only[snnr12,snnBody,Try.f6,zz,Nat.reduceAdd]
 refine anyC_all (r:=[12]) (by kernel_rfl) (by kernel_rfl) (fun i hi hil=>?_)
 simp only[List.mem_cons,List.not_mem_nil,or_false]at hi
 subst hi
 ·refine opc_k rfl rfl (fun d K' hK'=>?_)
  go_simp
  refine hK' _ _ ⟨⟨⟨0,grew_alloc under_F0 (Nat.zero_le _) _⟩,fun e he=>by(have hm:=mem_listed he;simp[go_sem]at hm)⟩,P.F ((h.allocX P.C).at P.C d).b,?_⟩
  clear hK' K'
  rw[alloc_at']
  refine anyC_at hS hZ _ _ _ _ ?_ d
  walk_nrm
  refine n12_211 (by kernel_rfl) P (h.allocX P.C) hZ K ?_
  exact⟨rfl,rfl,rfl,rfl,rfl,rfl,rfl,rfl,rfl,rfl,trivial⟩
theorem n12_200(ho:ops=(oC snnr12))(P:PreN w1 lz lb wb s an o pb po){la1:Option Addr}{ll1 lc1:Nat}{la2:Option Addr}{ll2 lc2:Nat}(h:In12 w1 lz lb wb an (s.call1 1 o).1 (s.call1 1 o).1 (some ⟨an,la1,ll1,lc1⟩) (some ⟨an,la2,ll2,lc2⟩) none none w)(hZ:∀a w d,Z a w→Z a (World.at w d))(K:FinN w1 lz lb wb s an o (LN v0 lz lb i) Z)
 {A:Array Value} (hA:Slots 117 A ((84,.agg #[.bool an.1,.int .i64 an.2.1,.slice la1 ll1 lc1])::(90,.agg #[.bool an.1,.int .i64 an.2.1,.slice la2 ll2 lc2])::LN v0 lz lb i)):AnyC Try.prog main F0 6 ops (OpI pb po o) 15 Z 3 #[true,true,true,true,true,true,true,true,true,true,true,true,false,false,false,false] ⟨A,[]⟩ w:=by
 obtain⟨hsz,k84,k90,k0,k3,k4,k5,k6,_⟩:=hA
 obtain⟨t,rfl⟩:=snnT_of hsz
 change t 84=_ at k84
 change t 90=_ at k90
 change t 0=_ at k0
 change t 3=_ at k3
 change t 4=_ at k4
 change t 5=_ at k5
 change t 6=_ at k6
 clear hsz
 simp only[snnT,k84,k90,k0,k3,k4,k5,k6]
 clear k84 k90 k0 k3 k4 k5 k6
 have hS:∀u d,OpI pb po o u→OpI pb po o (World.at u d):=fun u d h=>h.at d
 subst ho
 simp only[snnr12,snnBody,Try.f6,zz,Nat.reduceAdd]
 refine anyC_all (r:=[12,13]) (by kernel_rfl) (by kernel_rfl) (fun i hi hil=>?_)
 simp only[List.mem_cons,List.not_mem_nil,or_false]at hi
 rcases hi with rfl|rfl
 ·refine opc_k rfl rfl (fun d K' hK'=>?_)
  go_simp
  refine hK' _ _ ⟨⟨⟨0,grew_alloc under_F0 (Nat.zero_le _) _⟩,fun e he=>by(have hm:=mem_listed he;simp[go_sem]at hm)⟩,P.F ((h.allocX P.C).at P.C d).b,?_⟩
  clear hK' K'
  rw[alloc_at']
  refine anyC_at hS hZ _ _ _ _ ?_ d
  walk_nrm
  refine n12_210 (by kernel_rfl) P (h.allocX P.C) hZ K ?_
  exact⟨rfl,rfl,rfl,rfl,rfl,rfl,rfl,rfl,rfl,trivial⟩
 ·refine opc_k rfl rfl (fun d K' hK'=>?_)
  go_simp
  refine hK' _ _ ⟨⟨⟨0,grew_alloc under_F0 (Nat.zero_le _) _⟩,fun e he=>by(have hm:=mem_listed he;simp[go_sem]at hm)⟩,P.F ((h.allocY P.C).at P.C d).b,?_⟩
  clear hK' K'
  rw[alloc_at']
  refine anyC_at hS hZ _ _ _ _ ?_ d
  walk_nrm
  refine n12_201 (by kernel_rfl) P (h.allocY P.C) hZ K ?_
  exact⟨rfl,rfl,rfl,rfl,rfl,rfl,rfl,rfl,rfl,trivial⟩
theorem n12_111(ho:ops=(oC snnr12))(P:PreN w1 lz lb wb s an o pb po){x y:Nat}{la1:Option Addr}{ll1 lc1:Nat}(h:In12 w1 lz lb wb an (s.call1 1 o).1 s (some ⟨an,la1,ll1,lc1⟩) none (some x) (some y) w)(hZ:∀a w d,Z a w→Z a (World.at w d))(K:FinN w1 lz lb wb s an o (LN v0 lz lb i) Z)
 {A:Array Value} (hA:Slots 117 A ((85,.pointer (some ⟨lb,0,none⟩))::(89,.agg #[.int .i64 o.kd,.int .i64 o.a,.int .i64 o.b,.int .i64 o.c])::(84,.agg #[.bool an.1,.int .i64 an.2.1,.slice la1 ll1 lc1])::(11,.pointer (some ⟨x,0,none⟩))::(12,.pointer (some ⟨y,0,none⟩))::LN v0 lz lb i)):AnyC Try.prog main F0 6 ops (OpI pb po o) 15 Z 2 #[true,true,true,true,true,true,true,true,true,true,true,false,true,true,false,false] ⟨A,[]⟩ w:=by
 obtain⟨hsz,k85,k89,k84,k11,k12,k0,k3,k4,k5,k6,_⟩:=hA
 obtain⟨t,rfl⟩:=snnT_of hsz
 change t 85=_ at k85
 change t 89=_ at k89
 change t 84=_ at k84
 change t 11=_ at k11
 change t 12=_ at k12
 change t 0=_ at k0
 change t 3=_ at k3
 change t 4=_ at k4
 change t 5=_ at k5
 change t 6=_ at k6
 clear hsz
 simp only[snnT,k85,k89,k84,k11,k12,k0,k3,k4,k5,k6]
 clear k85 k89 k84 k11 k12 k0 k3 k4 k5 k6
 have hS:∀u d,OpI pb po o u→OpI pb po o (World.at u d):=fun u d h=>h.at d
 subst ho
 simp only[snnr12,snnBody,Try.f6,zz,Nat.reduceAdd]
 refine anyC_all (r:=[11]) (by kernel_rfl) (by kernel_rfl) (fun i hi hil=>?_)
 simp only[List.mem_cons,List.not_mem_nil,or_false]at hi
 subst hi
 ·refine⟨_,rfl,.inr (.inr ⟨rfl,20,#[.pointer (some ⟨lb,0,none⟩),.nilIface,.agg #[.int .i64 o.kd,.int .i64 o.a,.int .i64 o.b,.int .i64 o.c],.int .i64 1],fun v w'=>∃la2 ll2 lc2,v= .agg #[.bool an.1,.int .i64 an.2.1,.slice la2 ll2 lc2]∧In12 w1 lz lb wb an (s.call1 1 o).1 (s.call1 1 o).1 (some ⟨an,la1,ll1,lc1⟩) (some ⟨an,la2,ll2,lc2⟩) (some x) (some y) w',fun w=>by simp[execOp,Act.eval,resolve,invoke,Deferred.ofValue,callable20.run],fun w=>by simp[execOp,Act.eval,resolve,invoke,Deferred.ofValue,callable20.run,callable20.quiet],fun c cs Stop k=>own_callO P.C h P.ev P.len P.an fun w' la ll lc h'=>k _ _ ⟨la,ll,lc,rfl,h'⟩,?_⟩)⟩
  rintro v w' ⟨la2,ll2,lc2,rfl,h'⟩
  refine⟨P.F h'.b,?_⟩
  walk_nrm
  refine n12_211 (by kernel_rfl) P h' hZ K ?_
  exact⟨rfl,rfl,rfl,rfl,rfl,rfl,rfl,rfl,rfl,rfl,trivial⟩
theorem n12_110(ho:ops=(oC snnr12))(P:PreN w1 lz lb wb s an o pb po){x:Nat}{la1:Option Addr}{ll1 lc1:Nat}(h:In12 w1 lz lb wb an (s.call1 1 o).1 s (some ⟨an,la1,ll1,lc1⟩) none (some x) none w)(hZ:∀a w d,Z a w→Z a (World.at w d))(K:FinN w1 lz lb wb s an o (LN v0 lz lb i) Z)
 {A:Array Value} (hA:Slots 117 A ((85,.pointer (some ⟨lb,0,none⟩))::(89,.agg #[.int .i64 o.kd,.int .i64 o.a,.int .i64 o.b,.int .i64 o.c])::(84,.agg #[.bool an.1,.int .i64 an.2.1,.slice la1 ll1 lc1])::(11,.pointer (some ⟨x,0,none⟩))::LN v0 lz lb i)):AnyC Try.prog main F0 6 ops (OpI pb po o) 15 Z 3 #[true,true,true,true,true,true,true,true,true,true,true,false,true,false,false,false] ⟨A,[]⟩ w:=by
 obtain⟨hsz,k85,k89,k84,k11,k0,k3,k4,k5,k6,_⟩:=hA
 obtain⟨t,rfl⟩:=snnT_of hsz
 change t 85=_ at k85
 change t 89=_ at k89
 change t 84=_ at k84
 change t 11=_ at k11
 change t 0=_ at k0
 change t 3=_ at k3
 change t 4=_ at k4
 change t 5=_ at k5
 change t 6=_ at k6
 clear hsz
 simp only[snnT,k85,k89,k84,k11,k0,k3,k4,k5,k6]
 clear k85 k89 k84 k11 k0 k3 k4 k5 k6
 have hS:∀u d,OpI pb po o u→OpI pb po o (World.at u d):=fun u d h=>h.at d
 subst ho
 simp only[snnr12,snnBody,Try.f6,zz,Nat.reduceAdd]
 refine anyC_all (r:=[11,13]) (by kernel_rfl) (by kernel_rfl) (fun i hi hil=>?_)
 simp only[List.mem_cons,List.not_mem_nil,or_false]at hi
 rcases hi with rfl|rfl
 ·refine⟨_,rfl,.inr (.inr ⟨rfl,20,#[.pointer (some ⟨lb,0,none⟩),.nilIface,.agg #[.int .i64 o.kd,.int .i64 o.a,.int .i64 o.b,.int .i64 o.c],.int .i64 1],fun v w'=>∃la2 ll2 lc2,v= .agg #[.bool an.1,.int .i64 an.2.1,.slice la2 ll2 lc2]∧In12 w1 lz lb wb an (s.call1 1 o).1 (s.call1 1 o).1 (some ⟨an,la1,ll1,lc1⟩) (some ⟨an,la2,ll2,lc2⟩) (some x) none w',fun w=>by simp[execOp,Act.eval,resolve,invoke,Deferred.ofValue,callable20.run],fun w=>by simp[execOp,Act.eval,resolve,invoke,Deferred.ofValue,callable20.run,callable20.quiet],fun c cs Stop k=>own_callO P.C h P.ev P.len P.an fun w' la ll lc h'=>k _ _ ⟨la,ll,lc,rfl,h'⟩,?_⟩)⟩
  rintro v w' ⟨la2,ll2,lc2,rfl,h'⟩
  refine⟨P.F h'.b,?_⟩
  walk_nrm
  refine n12_210 (by kernel_rfl) P h' hZ K ?_
  exact⟨rfl,rfl,rfl,rfl,rfl,rfl,rfl,rfl,rfl,trivial⟩
 ·refine opc_k rfl rfl (fun d K' hK'=>?_)
  go_simp
  refine hK' _ _ ⟨⟨⟨0,grew_alloc under_F0 (Nat.zero_le _) _⟩,fun e he=>by(have hm:=mem_listed he;simp[go_sem]at hm)⟩,P.F ((h.allocY P.C).at P.C d).b,?_⟩
  clear hK' K'
  rw[alloc_at']
  refine anyC_at hS hZ _ _ _ _ ?_ d
  walk_nrm
  refine n12_111 (by kernel_rfl) P (h.allocY P.C) hZ K ?_
  exact⟨rfl,rfl,rfl,rfl,rfl,rfl,rfl,rfl,rfl,rfl,rfl,trivial⟩
theorem n12_101(ho:ops=(oC snnr12))(P:PreN w1 lz lb wb s an o pb po){y:Nat}{la1:Option Addr}{ll1 lc1:Nat}(h:In12 w1 lz lb wb an (s.call1 1 o).1 s (some ⟨an,la1,ll1,lc1⟩) none none (some y) w)(hZ:∀a w d,Z a w→Z a (World.at w d))(K:FinN w1 lz lb wb s an o (LN v0 lz lb i) Z)
 {A:Array Value} (hA:Slots 117 A ((85,.pointer (some ⟨lb,0,none⟩))::(89,.agg #[.int .i64 o.kd,.int .i64 o.a,.int .i64 o.b,.int .i64 o.c])::(84,.agg #[.bool an.1,.int .i64 an.2.1,.slice la1 ll1 lc1])::(12,.pointer (some ⟨y,0,none⟩))::LN v0 lz lb i)):AnyC Try.prog main F0 6 ops (OpI pb po o) 15 Z 3 #[true,true,true,true,true,true,true,true,true,true,true,false,false,true,false,false] ⟨A,[]⟩ w:=by
 obtain⟨hsz,k85,k89,k84,k12,k0,k3,k4,k5,k6,_⟩:=hA
 obtain⟨t,rfl⟩:=snnT_of hsz
 change t 85=_ at k85
 change t 89=_ at k89
 change t 84=_ at k84
 change t 12=_ at k12
 change t 0=_ at k0
 change t 3=_ at k3
 change t 4=_ at k4
 change t 5=_ at k5
 change t 6=_ at k6
 clear hsz
 simp only[snnT,k85,k89,k84,k12,k0,k3,k4,k5,k6]
 clear k85 k89 k84 k12 k0 k3 k4 k5 k6
 have hS:∀u d,OpI pb po o u→OpI pb po o (World.at u d):=fun u d h=>h.at d
 subst ho
 simp only[snnr12,snnBody,Try.f6,zz,Nat.reduceAdd]
 refine anyC_all (r:=[11,12]) (by kernel_rfl) (by kernel_rfl) (fun i hi hil=>?_)
 simp only[List.mem_cons,List.not_mem_nil,or_false]at hi
 rcases hi with rfl|rfl
 ·refine⟨_,rfl,.inr (.inr ⟨rfl,20,#[.pointer (some ⟨lb,0,none⟩),.nilIface,.agg #[.int .i64 o.kd,.int .i64 o.a,.int .i64 o.b,.int .i64 o.c],.int .i64 1],fun v w'=>∃la2 ll2 lc2,v= .agg #[.bool an.1,.int .i64 an.2.1,.slice la2 ll2 lc2]∧In12 w1 lz lb wb an (s.call1 1 o).1 (s.call1 1 o).1 (some ⟨an,la1,ll1,lc1⟩) (some ⟨an,la2,ll2,lc2⟩) none (some y) w',fun w=>by simp[execOp,Act.eval,resolve,invoke,Deferred.ofValue,callable20.run],fun w=>by simp[execOp,Act.eval,resolve,invoke,Deferred.ofValue,callable20.run,callable20.quiet],fun c cs Stop k=>own_callO P.C h P.ev P.len P.an fun w' la ll lc h'=>k _ _ ⟨la,ll,lc,rfl,h'⟩,?_⟩)⟩
  rintro v w' ⟨la2,ll2,lc2,rfl,h'⟩
  refine⟨P.F h'.b,?_⟩
  walk_nrm
  refine n12_201 (by kernel_rfl) P h' hZ K ?_
  exact⟨rfl,rfl,rfl,rfl,rfl,rfl,rfl,rfl,rfl,trivial⟩
 ·refine opc_k rfl rfl (fun d K' hK'=>?_)
  go_simp
  refine hK' _ _ ⟨⟨⟨0,grew_alloc under_F0 (Nat.zero_le _) _⟩,fun e he=>by(have hm:=mem_listed he;simp[go_sem]at hm)⟩,P.F ((h.allocX P.C).at P.C d).b,?_⟩
  clear hK' K'
  rw[alloc_at']
  refine anyC_at hS hZ _ _ _ _ ?_ d
  walk_nrm
  refine n12_111 (by kernel_rfl) P (h.allocX P.C) hZ K ?_
  exact⟨rfl,rfl,rfl,rfl,rfl,rfl,rfl,rfl,rfl,rfl,rfl,trivial⟩
theorem n12_100(ho:ops=(oC snnr12))(P:PreN w1 lz lb wb s an o pb po){la1:Option Addr}{ll1 lc1:Nat}(h:In12 w1 lz lb wb an (s.call1 1 o).1 s (some ⟨an,la1,ll1,lc1⟩) none none none w)(hZ:∀a w d,Z a w→Z a (World.at w d))(K:FinN w1 lz lb wb s an o (LN v0 lz lb i) Z)
 {A:Array Value} (hA:Slots 117 A ((85,.pointer (some ⟨lb,0,none⟩))::(89,.agg #[.int .i64 o.kd,.int .i64 o.a,.int .i64 o.b,.int .i64 o.c])::(84,.agg #[.bool an.1,.int .i64 an.2.1,.slice la1 ll1 lc1])::LN v0 lz lb i)):AnyC Try.prog main F0 6 ops (OpI pb po o) 15 Z 4 #[true,true,true,true,true,true,true,true,true,true,true,false,false,false,false,false] ⟨A,[]⟩ w:=by
 obtain⟨hsz,k85,k89,k84,k0,k3,k4,k5,k6,_⟩:=hA
 obtain⟨t,rfl⟩:=snnT_of hsz
 change t 85=_ at k85
 change t 89=_ at k89
 change t 84=_ at k84
 change t 0=_ at k0
 change t 3=_ at k3
 change t 4=_ at k4
 change t 5=_ at k5
 change t 6=_ at k6
 clear hsz
 simp only[snnT,k85,k89,k84,k0,k3,k4,k5,k6]
 clear k85 k89 k84 k0 k3 k4 k5 k6
 have hS:∀u d,OpI pb po o u→OpI pb po o (World.at u d):=fun u d h=>h.at d
 subst ho
 simp only[snnr12,snnBody,Try.f6,zz,Nat.reduceAdd]
 refine anyC_all (r:=[11,12,13]) (by kernel_rfl) (by kernel_rfl) (fun i hi hil=>?_)
 simp only[List.mem_cons,List.not_mem_nil,or_false]at hi
 rcases hi with rfl|rfl|rfl
 ·refine⟨_,rfl,.inr (.inr ⟨rfl,20,#[.pointer (some ⟨lb,0,none⟩),.nilIface,.agg #[.int .i64 o.kd,.int .i64 o.a,.int .i64 o.b,.int .i64 o.c],.int .i64 1],fun v w'=>∃la2 ll2 lc2,v= .agg #[.bool an.1,.int .i64 an.2.1,.slice la2 ll2 lc2]∧In12 w1 lz lb wb an (s.call1 1 o).1 (s.call1 1 o).1 (some ⟨an,la1,ll1,lc1⟩) (some ⟨an,la2,ll2,lc2⟩) none none w',fun w=>by simp[execOp,Act.eval,resolve,invoke,Deferred.ofValue,callable20.run],fun w=>by simp[execOp,Act.eval,resolve,invoke,Deferred.ofValue,callable20.run,callable20.quiet],fun c cs Stop k=>own_callO P.C h P.ev P.len P.an fun w' la ll lc h'=>k _ _ ⟨la,ll,lc,rfl,h'⟩,?_⟩)⟩
  rintro v w' ⟨la2,ll2,lc2,rfl,h'⟩
  refine⟨P.F h'.b,?_⟩
  walk_nrm
  refine n12_200 (by kernel_rfl) P h' hZ K ?_
  exact⟨rfl,rfl,rfl,rfl,rfl,rfl,rfl,rfl,trivial⟩
 ·refine opc_k rfl rfl (fun d K' hK'=>?_)
  go_simp
  refine hK' _ _ ⟨⟨⟨0,grew_alloc under_F0 (Nat.zero_le _) _⟩,fun e he=>by(have hm:=mem_listed he;simp[go_sem]at hm)⟩,P.F ((h.allocX P.C).at P.C d).b,?_⟩
  clear hK' K'
  rw[alloc_at']
  refine anyC_at hS hZ _ _ _ _ ?_ d
  walk_nrm
  refine n12_110 (by kernel_rfl) P (h.allocX P.C) hZ K ?_
  exact⟨rfl,rfl,rfl,rfl,rfl,rfl,rfl,rfl,rfl,rfl,trivial⟩
 ·refine opc_k rfl rfl (fun d K' hK'=>?_)
  go_simp
  refine hK' _ _ ⟨⟨⟨0,grew_alloc under_F0 (Nat.zero_le _) _⟩,fun e he=>by(have hm:=mem_listed he;simp[go_sem]at hm)⟩,P.F ((h.allocY P.C).at P.C d).b,?_⟩
  clear hK' K'
  rw[alloc_at']
  refine anyC_at hS hZ _ _ _ _ ?_ d
  walk_nrm
  refine n12_101 (by kernel_rfl) P (h.allocY P.C) hZ K ?_
  exact⟨rfl,rfl,rfl,rfl,rfl,rfl,rfl,rfl,rfl,rfl,trivial⟩
theorem n12_011(ho:ops=(oC snnr12))(P:PreN w1 lz lb wb s an o pb po){x y:Nat}(h:In12 w1 lz lb wb an s s none none (some x) (some y) w)(hZ:∀a w d,Z a w→Z a (World.at w d))(K:FinN w1 lz lb wb s an o (LN v0 lz lb i) Z)
 {A:Array Value} (hA:Slots 117 A ((79,.pointer (some ⟨lz,0,none⟩))::(83,.agg #[.int .i64 o.kd,.int .i64 o.a,.int .i64 o.b,.int .i64 o.c])::(85,.pointer (some ⟨lb,0,none⟩))::(89,.agg #[.int .i64 o.kd,.int .i64 o.a,.int .i64 o.b,.int .i64 o.c])::(11,.pointer (some ⟨x,0,none⟩))::(12,.pointer (some ⟨y,0,none⟩))::LN v0 lz lb i)):AnyC Try.prog main F0 6 ops (OpI pb po o) 15 Z 3 #[true,true,true,true,true,false,true,true,true,true,true,false,true,true,false,false] ⟨A,[]⟩ w:=by
 obtain⟨hsz,k79,k83,k85,k89,k11,k12,k0,k3,k4,k5,k6,_⟩:=hA
 obtain⟨t,rfl⟩:=snnT_of hsz
 change t 79=_ at k79
 change t 83=_ at k83
 change t 85=_ at k85
 change t 89=_ at k89
 change t 11=_ at k11
 change t 12=_ at k12
 change t 0=_ at k0
 change t 3=_ at k3
 change t 4=_ at k4
 change t 5=_ at k5
 change t 6=_ at k6
 clear hsz
 simp only[snnT,k79,k83,k85,k89,k11,k12,k0,k3,k4,k5,k6]
 clear k79 k83 k85 k89 k11 k12 k0 k3 k4 k5 k6
 have hS:∀u d,OpI pb po o u→OpI pb po o (World.at u d):=fun u d h=>h.at d
 subst ho
 simp only[snnr12,snnBody,Try.f6,zz,Nat.reduceAdd]
 refine anyC_all (r:=[5]) (by kernel_rfl) (by kernel_rfl) (fun i hi hil=>?_)
 simp only[List.mem_cons,List.not_mem_nil,or_false]at hi
 subst hi
 ·refine⟨_,rfl,.inr (.inr ⟨rfl,20,#[.pointer (some ⟨lz,0,none⟩),.nilIface,.agg #[.int .i64 o.kd,.int .i64 o.a,.int .i64 o.b,.int .i64 o.c],.int .i64 1],fun v w'=>∃la1 ll1 lc1,v= .agg #[.bool an.1,.int .i64 an.2.1,.slice la1 ll1 lc1]∧In12 w1 lz lb wb an (s.call1 1 o).1 s (some ⟨an,la1,ll1,lc1⟩) none (some x) (some y) w',fun w=>by simp[execOp,Act.eval,resolve,invoke,Deferred.ofValue,callable20.run],fun w=>by simp[execOp,Act.eval,resolve,invoke,Deferred.ofValue,callable20.run,callable20.quiet],fun c cs Stop k=>own_callZ P.C h P.ev P.len P.an fun w' la ll lc h'=>k _ _ ⟨la,ll,lc,rfl,h'⟩,?_⟩)⟩
  rintro v w' ⟨la1,ll1,lc1,rfl,h'⟩
  refine⟨P.F h'.b,?_⟩
  walk_nrm
  refine n12_111 (by kernel_rfl) P h' hZ K ?_
  exact⟨rfl,rfl,rfl,rfl,rfl,rfl,rfl,rfl,rfl,rfl,rfl,trivial⟩
theorem n12_010(ho:ops=(oC snnr12))(P:PreN w1 lz lb wb s an o pb po){x:Nat}(h:In12 w1 lz lb wb an s s none none (some x) none w)(hZ:∀a w d,Z a w→Z a (World.at w d))(K:FinN w1 lz lb wb s an o (LN v0 lz lb i) Z)
 {A:Array Value} (hA:Slots 117 A ((79,.pointer (some ⟨lz,0,none⟩))::(83,.agg #[.int .i64 o.kd,.int .i64 o.a,.int .i64 o.b,.int .i64 o.c])::(85,.pointer (some ⟨lb,0,none⟩))::(89,.agg #[.int .i64 o.kd,.int .i64 o.a,.int .i64 o.b,.int .i64 o.c])::(11,.pointer (some ⟨x,0,none⟩))::LN v0 lz lb i)):AnyC Try.prog main F0 6 ops (OpI pb po o) 15 Z 4 #[true,true,true,true,true,false,true,true,true,true,true,false,true,false,false,false] ⟨A,[]⟩ w:=by
 obtain⟨hsz,k79,k83,k85,k89,k11,k0,k3,k4,k5,k6,_⟩:=hA
 obtain⟨t,rfl⟩:=snnT_of hsz
 change t 79=_ at k79
 change t 83=_ at k83
 change t 85=_ at k85
 change t 89=_ at k89
 change t 11=_ at k11
 change t 0=_ at k0
 change t 3=_ at k3
 change t 4=_ at k4
 change t 5=_ at k5
 change t 6=_ at k6
 clear hsz
 simp only[snnT,k79,k83,k85,k89,k11,k0,k3,k4,k5,k6]
 clear k79 k83 k85 k89 k11 k0 k3 k4 k5 k6
 have hS:∀u d,OpI pb po o u→OpI pb po o (World.at u d):=fun u d h=>h.at d
 subst ho
 simp only[snnr12,snnBody,Try.f6,zz,Nat.reduceAdd]
 refine anyC_all (r:=[5,13]) (by kernel_rfl) (by kernel_rfl) (fun i hi hil=>?_)
 simp only[List.mem_cons,List.not_mem_nil,or_false]at hi
 rcases hi with rfl|rfl
 ·refine⟨_,rfl,.inr (.inr ⟨rfl,20,#[.pointer (some ⟨lz,0,none⟩),.nilIface,.agg #[.int .i64 o.kd,.int .i64 o.a,.int .i64 o.b,.int .i64 o.c],.int .i64 1],fun v w'=>∃la1 ll1 lc1,v= .agg #[.bool an.1,.int .i64 an.2.1,.slice la1 ll1 lc1]∧In12 w1 lz lb wb an (s.call1 1 o).1 s (some ⟨an,la1,ll1,lc1⟩) none (some x) none w',fun w=>by simp[execOp,Act.eval,resolve,invoke,Deferred.ofValue,callable20.run],fun w=>by simp[execOp,Act.eval,resolve,invoke,Deferred.ofValue,callable20.run,callable20.quiet],fun c cs Stop k=>own_callZ P.C h P.ev P.len P.an fun w' la ll lc h'=>k _ _ ⟨la,ll,lc,rfl,h'⟩,?_⟩)⟩
  rintro v w' ⟨la1,ll1,lc1,rfl,h'⟩
  refine⟨P.F h'.b,?_⟩
  walk_nrm
  refine n12_110 (by kernel_rfl) P h' hZ K ?_
  exact⟨rfl,rfl,rfl,rfl,rfl,rfl,rfl,rfl,rfl,rfl,trivial⟩
 ·refine opc_k rfl rfl (fun d K' hK'=>?_)
  go_simp
  refine hK' _ _ ⟨⟨⟨0,grew_alloc under_F0 (Nat.zero_le _) _⟩,fun e he=>by(have hm:=mem_listed he;simp[go_sem]at hm)⟩,P.F ((h.allocY P.C).at P.C d).b,?_⟩
  clear hK' K'
  rw[alloc_at']
  refine anyC_at hS hZ _ _ _ _ ?_ d
  walk_nrm
  refine n12_011 (by kernel_rfl) P (h.allocY P.C) hZ K ?_
  exact⟨rfl,rfl,rfl,rfl,rfl,rfl,rfl,rfl,rfl,rfl,rfl,rfl,trivial⟩
theorem n12_001(ho:ops=(oC snnr12))(P:PreN w1 lz lb wb s an o pb po){y:Nat}(h:In12 w1 lz lb wb an s s none none none (some y) w)(hZ:∀a w d,Z a w→Z a (World.at w d))(K:FinN w1 lz lb wb s an o (LN v0 lz lb i) Z)
 {A:Array Value} (hA:Slots 117 A ((79,.pointer (some ⟨lz,0,none⟩))::(83,.agg #[.int .i64 o.kd,.int .i64 o.a,.int .i64 o.b,.int .i64 o.c])::(85,.pointer (some ⟨lb,0,none⟩))::(89,.agg #[.int .i64 o.kd,.int .i64 o.a,.int .i64 o.b,.int .i64 o.c])::(12,.pointer (some ⟨y,0,none⟩))::LN v0 lz lb i)):AnyC Try.prog main F0 6 ops (OpI pb po o) 15 Z 4 #[true,true,true,true,true,false,true,true,true,true,true,false,false,true,false,false] ⟨A,[]⟩ w:=by
 obtain⟨hsz,k79,k83,k85,k89,k12,k0,k3,k4,k5,k6,_⟩:=hA
 obtain⟨t,rfl⟩:=snnT_of hsz
 change t 79=_ at k79
 change t 83=_ at k83
 change t 85=_ at k85
 change t 89=_ at k89
 change t 12=_ at k12
 change t 0=_ at k0
 change t 3=_ at k3
 change t 4=_ at k4
 change t 5=_ at k5
 change t 6=_ at k6
 clear hsz
 simp only[snnT,k79,k83,k85,k89,k12,k0,k3,k4,k5,k6]
 clear k79 k83 k85 k89 k12 k0 k3 k4 k5 k6
 have hS:∀u d,OpI pb po o u→OpI pb po o (World.at u d):=fun u d h=>h.at d
 subst ho
 simp only[snnr12,snnBody,Try.f6,zz,Nat.reduceAdd]
 refine anyC_all (r:=[5,12]) (by kernel_rfl) (by kernel_rfl) (fun i hi hil=>?_)
 simp only[List.mem_cons,List.not_mem_nil,or_false]at hi
 rcases hi with rfl|rfl
 ·refine⟨_,rfl,.inr (.inr ⟨rfl,20,#[.pointer (some ⟨lz,0,none⟩),.nilIface,.agg #[.int .i64 o.kd,.int .i64 o.a,.int .i64 o.b,.int .i64 o.c],.int .i64 1],fun v w'=>∃la1 ll1 lc1,v= .agg #[.bool an.1,.int .i64 an.2.1,.slice la1 ll1 lc1]∧In12 w1 lz lb wb an (s.call1 1 o).1 s (some ⟨an,la1,ll1,lc1⟩) none none (some y) w',fun w=>by simp[execOp,Act.eval,resolve,invoke,Deferred.ofValue,callable20.run],fun w=>by simp[execOp,Act.eval,resolve,invoke,Deferred.ofValue,callable20.run,callable20.quiet],fun c cs Stop k=>own_callZ P.C h P.ev P.len P.an fun w' la ll lc h'=>k _ _ ⟨la,ll,lc,rfl,h'⟩,?_⟩)⟩
  rintro v w' ⟨la1,ll1,lc1,rfl,h'⟩
  refine⟨P.F h'.b,?_⟩
  walk_nrm
  refine n12_101 (by kernel_rfl) P h' hZ K ?_
  exact⟨rfl,rfl,rfl,rfl,rfl,rfl,rfl,rfl,rfl,rfl,trivial⟩
 ·refine opc_k rfl rfl (fun d K' hK'=>?_)
  go_simp
  refine hK' _ _ ⟨⟨⟨0,grew_alloc under_F0 (Nat.zero_le _) _⟩,fun e he=>by(have hm:=mem_listed he;simp[go_sem]at hm)⟩,P.F ((h.allocX P.C).at P.C d).b,?_⟩
  clear hK' K'
  rw[alloc_at']
  refine anyC_at hS hZ _ _ _ _ ?_ d
  walk_nrm
  refine n12_011 (by kernel_rfl) P (h.allocX P.C) hZ K ?_
  exact⟨rfl,rfl,rfl,rfl,rfl,rfl,rfl,rfl,rfl,rfl,rfl,rfl,trivial⟩
theorem n12_000(ho:ops=(oC snnr12))(P:PreN w1 lz lb wb s an o pb po)(h:In12 w1 lz lb wb an s s none none none none w)(hZ:∀a w d,Z a w→Z a (World.at w d))(K:FinN w1 lz lb wb s an o (LN v0 lz lb i) Z)
 {A:Array Value} (hA:Slots 117 A ((79,.pointer (some ⟨lz,0,none⟩))::(83,.agg #[.int .i64 o.kd,.int .i64 o.a,.int .i64 o.b,.int .i64 o.c])::(85,.pointer (some ⟨lb,0,none⟩))::(89,.agg #[.int .i64 o.kd,.int .i64 o.a,.int .i64 o.b,.int .i64 o.c])::LN v0 lz lb i)):AnyC Try.prog main F0 6 ops (OpI pb po o) 15 Z 5 #[true,true,true,true,true,false,true,true,true,true,true,false,false,false,false,false] ⟨A,[]⟩ w:=by
 obtain⟨hsz,k79,k83,k85,k89,k0,k3,k4,k5,k6,_⟩:=hA
 obtain⟨t,rfl⟩:=snnT_of hsz
 change t 79=_ at k79
 change t 83=_ at k83
 change t 85=_ at k85
 change t 89=_ at k89
 change t 0=_ at k0
 change t 3=_ at k3
 change t 4=_ at k4
 change t 5=_ at k5
 change t 6=_ at k6
 clear hsz
 simp only[snnT,k79,k83,k85,k89,k0,k3,k4,k5,k6]
 clear k79 k83 k85 k89 k0 k3 k4 k5 k6
 have hS:∀u d,OpI pb po o u→OpI pb po o (World.at u d):=fun u d h=>h.at d
 subst ho
 simp only[snnr12,snnBody,Try.f6,zz,Nat.reduceAdd]
 refine anyC_all (r:=[5,12,13]) (by kernel_rfl) (by kernel_rfl) (fun i hi hil=>?_)
 simp only[List.mem_cons,List.not_mem_nil,or_false]at hi
 rcases hi with rfl|rfl|rfl
 ·refine⟨_,rfl,.inr (.inr ⟨rfl,20,#[.pointer (some ⟨lz,0,none⟩),.nilIface,.agg #[.int .i64 o.kd,.int .i64 o.a,.int .i64 o.b,.int .i64 o.c],.int .i64 1],fun v w'=>∃la1 ll1 lc1,v= .agg #[.bool an.1,.int .i64 an.2.1,.slice la1 ll1 lc1]∧In12 w1 lz lb wb an (s.call1 1 o).1 s (some ⟨an,la1,ll1,lc1⟩) none none none w',fun w=>by simp[execOp,Act.eval,resolve,invoke,Deferred.ofValue,callable20.run],fun w=>by simp[execOp,Act.eval,resolve,invoke,Deferred.ofValue,callable20.run,callable20.quiet],fun c cs Stop k=>own_callZ P.C h P.ev P.len P.an fun w' la ll lc h'=>k _ _ ⟨la,ll,lc,rfl,h'⟩,?_⟩)⟩
  rintro v w' ⟨la1,ll1,lc1,rfl,h'⟩
  refine⟨P.F h'.b,?_⟩
  walk_nrm
  refine n12_100 (by kernel_rfl) P h' hZ K ?_
  exact⟨rfl,rfl,rfl,rfl,rfl,rfl,rfl,rfl,rfl,trivial⟩
 ·refine opc_k rfl rfl (fun d K' hK'=>?_)
  go_simp
  refine hK' _ _ ⟨⟨⟨0,grew_alloc under_F0 (Nat.zero_le _) _⟩,fun e he=>by(have hm:=mem_listed he;simp[go_sem]at hm)⟩,P.F ((h.allocX P.C).at P.C d).b,?_⟩
  clear hK' K'
  rw[alloc_at']
  refine anyC_at hS hZ _ _ _ _ ?_ d
  walk_nrm
  refine n12_010 (by kernel_rfl) P (h.allocX P.C) hZ K ?_
  exact⟨rfl,rfl,rfl,rfl,rfl,rfl,rfl,rfl,rfl,rfl,rfl,trivial⟩
 ·refine opc_k rfl rfl (fun d K' hK'=>?_)
  go_simp
  refine hK' _ _ ⟨⟨⟨0,grew_alloc under_F0 (Nat.zero_le _) _⟩,fun e he=>by(have hm:=mem_listed he;simp[go_sem]at hm)⟩,P.F ((h.allocY P.C).at P.C d).b,?_⟩
  clear hK' K'
  rw[alloc_at']
  refine anyC_at hS hZ _ _ _ _ ?_ d
  walk_nrm
  refine n12_001 (by kernel_rfl) P (h.allocY P.C) hZ K ?_
  exact⟨rfl,rfl,rfl,rfl,rfl,rfl,rfl,rfl,rfl,rfl,rfl,trivial⟩
end
end
section
variable{F:Fz}{w:World}
theorem sn_4{oo ol oq lz lb wb pb i:Nat}{s:SSt}{an:SAn}{o:Op4}(hi:i<ol)(P:PreN w lz lb wb s an o pb (oo+i*4))(hl:LsN w lz lb wb s s w){A:Array Value}(hA:Slots 117 A [(0,.slice (some ⟨pb,oo,none⟩) ol oq),(3,.pointer none),(4,.pointer (some ⟨lz,0,none⟩)),(5,.pointer (some ⟨lb,0,none⟩)),(6,.int .i64 (i:Nat))]){cs:List Frame}{main:Bool}{Stop:Goroutine→World→Prop}
 (K:FinN w lz lb wb s an o (LN (.slice (some ⟨pb,oo,none⟩) ol oq) lz lb i) fun a w'=>Own Try.prog main F0 Stop (G ((Go.Conc.base 6).at a [.inRegion (oC snnr12) [15],.code snns18,.inBlock 1,.code snnr7,.inLoop snns9,.inBlock 0,.code snns20]) cs) w'):
 Own Try.prog main F0 Stop (G ((Go.Conc.base 6).at ⟨A,[]⟩ [.code snnr12,.code snns18,.inBlock 1,.code snnr7,.inLoop snns9,.inBlock 0,.code snns20]) cs) w:=by
 have hs:=P.op
 have hS:∀u d,OpI pb (oo+i*4) o u→OpI pb (oo+i*4) o (World.at u d):=fun u d h=>h.at d
 obtain⟨hsz,h0,h3,h4,h5,h6,_⟩:=hA
 obtain⟨t,rfl⟩:=snnT_of hsz
 change t 0=_ at h0
 change t 3=_ at h3
 change t 4=_ at h4
 change t 5=_ at h5
 change t 6=_ at h6
 clear hsz
 simp only[snnT,h0,h3,h4,h5,h6]
 clear h0 h3 h4 h5 h6
 rw[snnr12']
 refine own_drawnC (OpI pb (oo+i*4) o) (last:=15) run_mixed (ll_of (by kernel_rfl)) (by decide) ?_
 simp only[snnr12,snnBody,Try.f6,zz,Nat.reduceAdd]
 refine anyC_take hS (fun _ _ d h=>h.at d) (i:=0) (v:=.pointer (some ⟨lz,0,none⟩)) hs rfl rfl (by kernel_rfl) (by kernel_rfl) (by kernel_rfl) (fun u hu=>.inl ⟨rfl,fun d=>⟨by simp[go_sem,execOp,Act.eval],fun e he=>by have hm:=mem_listed he;simp[go_sem,execOp,Act.eval]at hm⟩⟩) ?_
 walk_nrm
 refine anyC_take hS (fun _ _ d h=>h.at d) (i:=1) (v:=.slice (some ⟨pb,oo,none⟩) ol oq) hs rfl rfl (by kernel_rfl) (by kernel_rfl) (by kernel_rfl) (fun u hu=>.inl ⟨rfl,fun d=>⟨by simp[go_sem,execOp,Act.eval],fun e he=>by have hm:=mem_listed he;simp[go_sem,execOp,Act.eval]at hm⟩⟩) ?_
 walk_nrm
 refine anyC_take hS (fun _ _ d h=>h.at d) (i:=2) (v:=.int .i64 (i:Nat)) hs rfl rfl (by kernel_rfl) (by kernel_rfl) (by kernel_rfl) (fun u hu=>.inl ⟨rfl,fun d=>⟨by simp[go_sem,execOp,Act.eval],fun e he=>by have hm:=mem_listed he;simp[go_sem,execOp,Act.eval]at hm⟩⟩) ?_
 walk_nrm
 refine anyC_take hS (fun _ _ d h=>h.at d) (i:=3) (v:=.pointer (some ⟨pb,oo+i*4,none⟩)) hs rfl rfl (by kernel_rfl) (by kernel_rfl) (by kernel_rfl) (fun u hu=>.inl ⟨rfl,fun d=>⟨by simp[go_sem,execOp,Act.eval,hi],fun e he=>by have hm:=mem_listed he;simp[go_sem,execOp,Act.eval,hi]at hm⟩⟩) ?_
 walk_nrm
 refine anyC_take hS (fun _ _ d h=>h.at d) (i:=4) (v:=.agg #[.int .i64 o.kd,.int .i64 o.a,.int .i64 o.b,.int .i64 o.c]) hs rfl rfl (by kernel_rfl) (by kernel_rfl) (by kernel_rfl) (fun u hu=>.inl ⟨rfl,fun d=>⟨by simp[go_sem,execOp,Act.eval,hu.f0,hu.f1,hu.f2,hu.f3],fun e he=>by have hm:=mem_listed he;simp[go_sem,execOp,Act.eval,hu.f0,hu.f1,hu.f2,hu.f3]at hm;rcases hm with rfl|rfl|rfl|rfl<;>exact evT_read _ _⟩⟩) ?_
 walk_nrm
 refine anyC_take hS (fun _ _ d h=>h.at d) (i:=6) (v:=.pointer (some ⟨lb,0,none⟩)) hs rfl rfl (by kernel_rfl) (by kernel_rfl) (by kernel_rfl) (fun u hu=>.inl ⟨rfl,fun d=>⟨by simp[go_sem,execOp,Act.eval],fun e he=>by have hm:=mem_listed he;simp[go_sem,execOp,Act.eval]at hm⟩⟩) ?_
 walk_nrm
 refine anyC_take hS (fun _ _ d h=>h.at d) (i:=7) (v:=.slice (some ⟨pb,oo,none⟩) ol oq) hs rfl rfl (by kernel_rfl) (by kernel_rfl) (by kernel_rfl) (fun u hu=>.inl ⟨rfl,fun d=>⟨by simp[go_sem,execOp,Act.eval],fun e he=>by have hm:=mem_listed he;simp[go_sem,execOp,Act.eval]at hm⟩⟩) ?_
 walk_nrm
 refine anyC_take hS (fun _ _ d h=>h.at d) (i:=8) (v:=.int .i64 (i:Nat)) hs rfl rfl (by kernel_rfl) (by kernel_rfl) (by kernel_rfl) (fun u hu=>.inl ⟨rfl,fun d=>⟨by simp[go_sem,execOp,Act.eval],fun e he=>by have hm:=mem_listed he;simp[go_sem,execOp,Act.eval]at hm⟩⟩) ?_
 walk_nrm
 refine anyC_take hS (fun _ _ d h=>h.at d) (i:=9) (v:=.pointer (some ⟨pb,oo+i*4,none⟩)) hs rfl rfl (by kernel_rfl) (by kernel_rfl) (by kernel_rfl) (fun u hu=>.inl ⟨rfl,fun d=>⟨by simp[go_sem,execOp,Act.eval,hi],fun e he=>by have hm:=mem_listed he;simp[go_sem,execOp,Act.eval,hi]at hm⟩⟩) ?_
 walk_nrm
 refine anyC_take hS (fun _ _ d h=>h.at d) (i:=10) (v:=.agg #[.int .i64 o.kd,.int .i64 o.a,.int .i64 o.b,.int .i64 o.c]) hs rfl rfl (by kernel_rfl) (by kernel_rfl) (by kernel_rfl) (fun u hu=>.inl ⟨rfl,fun d=>⟨by simp[go_sem,execOp,Act.eval,hu.f0,hu.f1,hu.f2,hu.f3],fun e he=>by have hm:=mem_listed he;simp[go_sem,execOp,Act.eval,hu.f0,hu.f1,hu.f2,hu.f3]at hm;rcases hm with rfl|rfl|rfl|rfl<;>exact evT_read _ _⟩⟩) ?_
 walk_nrm
 refine n12_000 (by kernel_rfl) P ⟨hl,(fun _ h=>by cases h),(fun _ h=>by cases h),(fun _ h=>by cases h),(fun _ h=>by cases h),(fun _ h=>by cases h)⟩ (fun a w d h=>h.at d) K ?_
 exact⟨rfl,rfl,rfl,rfl,rfl,rfl,rfl,rfl,rfl,rfl,trivial⟩
theorem sn_5{oa:Option Addr}{ol oq lz lb i x y:Nat}{an:SAn}{la1 la2:Option Addr}{ll1 lc1 ll2 lc2:Nat}(hne:x≠y)(hx:w.heap[x]? =some (.cells #[.bool an.1,.int .i64 an.2.1,.slice la1 ll1 lc1] 44 (0,0)))(hy:w.heap[y]? =some (.cells #[.bool false,.int .i64 0,.slice none 0 0] 44 (0,0))){A:Array Value}(hA:Slots 117 A ((90,.agg #[.bool an.1,.int .i64 an.2.1,.slice la2 ll2 lc2])::(11,.pointer (some ⟨x,0,none⟩))::(12,.pointer (some ⟨y,0,none⟩))::LN (.slice oa ol oq) lz lb i)){cs:List Frame}{main:Bool}{Stop:Goroutine→World→Prop}
 (h:∀(A:Array Value) (Y:World),Y.heap.size=w.heap.size→(∀r,r≠y→Y.heap[r]? =w.heap[r]?)→Slots 117 A [(0,.slice oa ol oq),(3,.pointer none),(4,.pointer (some ⟨lz,0,none⟩)),(5,.pointer (some ⟨lb,0,none⟩)),(6,.int .i64 (i:Nat))]→Own Try.prog main F0 Stop (G (Frame.enter Try.prog 21 #[.slice (some ⟨w.heap.size,0,none⟩) 1 1,.slice (some ⟨w.heap.size+1,0,none⟩) 1 1] .normal) (((Go.Conc.base 6).at ⟨A,[]⟩ [.inRegion (oC snnr13) [4,5,6,7,8,9,10,11,12,13,14,15,16,17,18,19,20,21,22,23,24,25],.code snnc116,.inBlock 1,.code snnr7,.inLoop snns9,.inBlock 0,.code snns20])::cs)) ((Y.alloc (.cells #[.bool an.1,.int .i64 an.2.1,.slice la1 ll1 lc1] 44)).alloc (.cells #[.bool an.1,.int .i64 an.2.1,.slice la2 ll2 lc2] 44))):
 Own Try.prog main F0 Stop (G ((Go.Conc.base 6).at ⟨A,[]⟩ [.inRegion (oC snnr12) [15],.code snns18,.inBlock 1,.code snnr7,.inLoop snns9,.inBlock 0,.code snns20]) cs) w:=by
 obtain⟨hsz0,k90,k11,k12,k0,k3,k4,k5,k6,_⟩:=hA
 obtain⟨t,rfl⟩:=snnT_of hsz0
 change t 90=_ at k90
 change t 11=_ at k11
 change t 12=_ at k12
 change t 0=_ at k0
 change t 3=_ at k3
 change t 4=_ at k4
 change t 5=_ at k5
 change t 6=_ at k6
 clear hsz0
 simp only[snnT,k90,k11,k12,k0,k3,k4,k5,k6]
 clear k90 k11 k12 k0 k3 k4 k5 k6
 obtain⟨c0,z0⟩:=bld_at hy (j:=0) rfl
 obtain⟨c1,z1⟩:=bld_at hy (j:=1) rfl
 obtain⟨c2,z2⟩:=bld_at hy (j:=2) rfl
 have hh:∀r:Nat,r≠y→(((w.setCell ⟨y,0,none⟩ (.bool an.1)).setCell ⟨y,1,none⟩ (.int .i64 an.2.1)).setCell ⟨y,2,none⟩ (.slice la2 ll2 lc2)).heap[r]? =w.heap[r]?:=fun r hr=>by rw[heap_setCell_ne _ _ _ hr,heap_setCell_ne _ _ _ hr,heap_setCell_ne _ _ _ hr]
 have hyy:(((w.setCell ⟨y,0,none⟩ (.bool an.1)).setCell ⟨y,1,none⟩ (.int .i64 an.2.1)).setCell ⟨y,2,none⟩ (.slice la2 ll2 lc2)).heap[y]? =some (.cells #[.bool an.1,.int .i64 an.2.1,.slice la2 ll2 lc2] 44 (0,0)):=heap_setCell_eq (o:=2) (heap_setCell_eq (o:=1) (heap_setCell_eq (o:=0) hy (.bool an.1)) (.int .i64 an.2.1)) (.slice la2 ll2 lc2)
 have hxx:=(hh x hne).trans hx
 have hsz:(((w.setCell ⟨y,0,none⟩ (.bool an.1)).setCell ⟨y,1,none⟩ (.int .i64 an.2.1)).setCell ⟨y,2,none⟩ (.slice la2 ll2 lc2)).heap.size=w.heap.size:=by simp
 simp only[snnr12,snnBody,Try.f6,zz,Nat.reduceAdd]
 (refine oW fun dd K hK=>?_;go_simp;refine hK _ _ ⟨⟨⟨0,grew3 (fun k=>noF0 _) _ _ _⟩,fun e he=>by(have hm:=mem_listed he;clear he hK;simp[go_sem,storedEv,c0,c1,c2,z0,z1,z2]at hm;rcases hm with rfl|rfl|rfl<;>exact evT_write _ _ (noF0 _))⟩,?_⟩;clear hK K;simp only[setCell_at'];refine Own.at ?_ dd)
 refine ogE ?_
 generalize (((w.setCell ⟨y,0,none⟩ (.bool an.1)).setCell ⟨y,1,none⟩ (.int .i64 an.2.1)).setCell ⟨y,2,none⟩ (.slice la2 ll2 lc2))=Y at hh hyy hxx hsz ⊢
 clear c0 c1 c2 z0 z1 z2
 obtain⟨cx0,zx0⟩:=bld_at hxx (j:=0) rfl
 obtain⟨cx1,zx1⟩:=bld_at hxx (j:=1) rfl
 obtain⟨cx2,zx2⟩:=bld_at hxx (j:=2) rfl
 obtain⟨cy0,zy0⟩:=bld_at hyy (j:=0) rfl
 obtain⟨cy1,zy1⟩:=bld_at hyy (j:=1) rfl
 obtain⟨cy2,zy2⟩:=bld_at hyy (j:=2) rfl
 have lx:=(alt hxx)
 have ly:=(alt hyy)
 have hU:Under F0 0:=under_F0
 have hn:0≤Y.heap.size:=Nat.zero_le _
 refine ogSR snns18' snnr13' ?_
 simp only[snnr13,snnBody,Try.f6,zz,Nat.reduceAdd]
 (refine oW fun dd K hK=>?_;go_simp;refine hK _ _ ⟨⟨⟨0,Grew.refl _ _⟩,fun e he=>by(have hm:=mem_listed he;clear he hK;simp[go_sem,cx0,cx1,cx2,zx0,zx1,zx2]at hm;rcases hm with rfl|rfl|rfl<;>exact evT_read _ _)⟩,Own.at ?_ dd⟩;clear hK K)
 (refine oW fun dd K hK=>?_;go_simp;refine qA hK hU ?_;clear hK K)
 have cy0':=cellB_alloc cy0 (.cells #[.bool an.1,.int .i64 an.2.1,.slice la1 ll1 lc1] 44)
 have cy1':=cellB_alloc cy1 (.cells #[.bool an.1,.int .i64 an.2.1,.slice la1 ll1 lc1] 44)
 have cy2':=cellB_alloc cy2 (.cells #[.bool an.1,.int .i64 an.2.1,.slice la1 ll1 lc1] 44)
 (refine oW fun dd K hK=>?_;go_simp;refine hK _ _ ⟨⟨⟨0,Grew.refl _ _⟩,fun e he=>by(have hm:=mem_listed he;clear he hK;simp[go_sem,cy0'.1,cy1'.1,cy2'.1,zy0,zy1,zy2]at hm;rcases hm with rfl|rfl|rfl<;>exact evT_read _ _)⟩,Own.at ?_ dd⟩;clear hK K)
 (refine oW fun dd K hK=>?_;go_simp;refine qA hK hU ?_;clear hK K)
 refine oc callable21 #[.slice (some ⟨w.heap.size,0,none⟩) 1 1,.slice (some ⟨w.heap.size+1,0,none⟩) 1 1] ?_
 refine h _ Y hsz hh ?_
 exact⟨rfl,rfl,rfl,rfl,rfl,rfl,trivial⟩
theorem sn_6{oa:Option Addr}{ol oq lz lb i:Nat}{A:Array Value}(hA:Slots 117 A [(0,.slice oa ol oq),(3,.pointer none),(4,.pointer (some ⟨lz,0,none⟩)),(5,.pointer (some ⟨lb,0,none⟩)),(6,.int .i64 (i:Nat))]){cs:List Frame}{main:Bool}{Stop:Goroutine→World→Prop}
 (h:∀A,Slots 117 A [(0,.slice oa ol oq),(3,.pointer none),(4,.pointer (some ⟨lz,0,none⟩)),(5,.pointer (some ⟨lb,0,none⟩)),(6,.int .i64 (i:Nat)),(97,.bool false)]→Own Try.prog main F Stop (G (Frame.enter Try.prog 18 #[.pointer (some ⟨lz,0,none⟩)] .normal) (((Go.Conc.base 6).at ⟨A,[]⟩ [.inRegion (oC snnr13) [8,9,10,11,12,13,14,15,16,17,18,19,20,21,22,23,24,25],.code snnc116,.inBlock 1,.code snnr7,.inLoop snns9,.inBlock 0,.code snns20])::cs)) w):
 Own Try.prog main F Stop (G (((Go.Conc.base 6).at ⟨A,[]⟩ [.inRegion (oC snnr13) [4,5,6,7,8,9,10,11,12,13,14,15,16,17,18,19,20,21,22,23,24,25],.code snnc116,.inBlock 1,.code snnr7,.inLoop snns9,.inBlock 0,.code snns20]).finish (.bool true)) cs) w:=by
 obtain⟨hsz,h0,h3,h4,h5,h6,_⟩:=hA
 obtain⟨s,rfl⟩:=snnT_of hsz
 change s 0=_ at h0
 change s 3=_ at h3
 change s 4=_ at h4
 change s 5=_ at h5
 change s 6=_ at h6
 clear hsz
 simp only[snnT,h0,h3,h4,h5,h6]
 clear h0 h3 h4 h5 h6
 rw[Frame.finish_at]
 simp only[snnr13,snnBody,Try.f6,zz,Nat.reduceAdd]
 walk_nrm
 iterate 3 (refine oW fun dd K hK=>?_;go_simp;refine qT hK ?_;clear hK K)
 refine oc callable18 #[.pointer (some ⟨lz,0,none⟩)] ?_
 refine h _ ?_
 exact⟨rfl,rfl,rfl,rfl,rfl,rfl,rfl,trivial⟩
theorem sn_7{oa:Option Addr}{ol oq lz lb i:Nat}{A:Array Value}(hA:Slots 117 A [(0,.slice oa ol oq),(3,.pointer none),(4,.pointer (some ⟨lz,0,none⟩)),(5,.pointer (some ⟨lb,0,none⟩)),(6,.int .i64 (i:Nat)),(97,.bool false)]){cs:List Frame}{main:Bool}{Stop:Goroutine→World→Prop}
 (h:∀A,Slots 117 A [(0,.slice oa ol oq),(3,.pointer none),(4,.pointer (some ⟨lz,0,none⟩)),(5,.pointer (some ⟨lb,0,none⟩)),(6,.int .i64 (i:Nat)),(102,.bool false)]→Own Try.prog main F Stop (G (Frame.enter Try.prog 19 #[.pointer (some ⟨lz,0,none⟩)] .normal) (((Go.Conc.base 6).at ⟨A,[]⟩ [.inRegion (oC snnr13) [13,14,15,16,17,18,19,20,21,22,23,24,25],.code snnc116,.inBlock 1,.code snnr7,.inLoop snns9,.inBlock 0,.code snns20])::cs)) w):
 Own Try.prog main F Stop (G (((Go.Conc.base 6).at ⟨A,[]⟩ [.inRegion (oC snnr13) [8,9,10,11,12,13,14,15,16,17,18,19,20,21,22,23,24,25],.code snnc116,.inBlock 1,.code snnr7,.inLoop snns9,.inBlock 0,.code snns20]).finish (.int .i64 1)) cs) w:=by
 obtain⟨hsz,h0,h3,h4,h5,h6,h97,_⟩:=hA
 obtain⟨s,rfl⟩:=snnT_of hsz
 change s 0=_ at h0
 change s 3=_ at h3
 change s 4=_ at h4
 change s 5=_ at h5
 change s 6=_ at h6
 change s 97=_ at h97
 clear hsz
 simp only[snnT,h0,h3,h4,h5,h6,h97]
 clear h0 h3 h4 h5 h6 h97
 rw[Frame.finish_at]
 simp only[snnr13,snnBody,Try.f6,zz,Nat.reduceAdd]
 walk_nrm
 iterate 4 (refine oW fun dd K hK=>?_;go_simp;refine qT hK ?_;clear hK K)
 refine oc callable19 #[.pointer (some ⟨lz,0,none⟩)] ?_
 refine h _ ?_
 exact⟨rfl,rfl,rfl,rfl,rfl,rfl,rfl,trivial⟩
theorem sn_8{oa:Option Addr}{ol oq lz lb i:Nat}{v:Int}{A:Array Value}(hA:Slots 117 A [(0,.slice oa ol oq),(3,.pointer none),(4,.pointer (some ⟨lz,0,none⟩)),(5,.pointer (some ⟨lb,0,none⟩)),(6,.int .i64 (i:Nat)),(102,.bool false)]){cs:List Frame}{main:Bool}{Stop:Goroutine→World→Prop}
 (h:∀A,Slots 117 A [(0,.slice oa ol oq),(3,.pointer none),(4,.pointer (some ⟨lz,0,none⟩)),(5,.pointer (some ⟨lb,0,none⟩)),(6,.int .i64 (i:Nat)),(102,.bool false),(104,.int .i64 v)]→Own Try.prog main F Stop (G (Frame.enter Try.prog 19 #[.pointer (some ⟨lb,0,none⟩)] .normal) (((Go.Conc.base 6).at ⟨A,[]⟩ [.inRegion (oC snnr13) [15,16,17,18,19,20,21,22,23,24,25],.code snnc116,.inBlock 1,.code snnr7,.inLoop snns9,.inBlock 0,.code snns20])::cs)) w):
 Own Try.prog main F Stop (G (((Go.Conc.base 6).at ⟨A,[]⟩ [.inRegion (oC snnr13) [13,14,15,16,17,18,19,20,21,22,23,24,25],.code snnc116,.inBlock 1,.code snnr7,.inLoop snns9,.inBlock 0,.code snns20]).finish (.int .i64 v)) cs) w:=by
 obtain⟨hsz,h0,h3,h4,h5,h6,h102,_⟩:=hA
 obtain⟨s,rfl⟩:=snnT_of hsz
 change s 0=_ at h0
 change s 3=_ at h3
 change s 4=_ at h4
 change s 5=_ at h5
 change s 6=_ at h6
 change s 102=_ at h102
 clear hsz
 simp only[snnT,h0,h3,h4,h5,h6,h102]
 clear h0 h3 h4 h5 h6 h102
 rw[Frame.finish_at]
 simp only[snnr13,snnBody,Try.f6,zz,Nat.reduceAdd]
 walk_nrm
 (refine oW fun dd K hK=>?_;go_simp;refine qT hK ?_;clear hK K)
 refine oc callable19 #[.pointer (some ⟨lb,0,none⟩)] ?_
 refine h _ ?_
 exact⟨rfl,rfl,rfl,rfl,rfl,rfl,rfl,rfl,trivial⟩
theorem sn_9{oa:Option Addr}{ol oq lz lb i:Nat}{v:Int}{A:Array Value}(hA:Slots 117 A [(0,.slice oa ol oq),(3,.pointer none),(4,.pointer (some ⟨lz,0,none⟩)),(5,.pointer (some ⟨lb,0,none⟩)),(6,.int .i64 (i:Nat)),(102,.bool false),(104,.int .i64 v)]){cs:List Frame}{main:Bool}{Stop:Goroutine→World→Prop}
 (h:∀A,Slots 117 A [(0,.slice oa ol oq),(3,.pointer none),(4,.pointer (some ⟨lz,0,none⟩)),(5,.pointer (some ⟨lb,0,none⟩)),(6,.int .i64 (i:Nat)),(109,.bool false)]→Own Try.prog main F Stop (G (Frame.enter Try.prog 23 #[.pointer (some ⟨lz,0,none⟩)] .normal) (((Go.Conc.base 6).at ⟨A,[]⟩ [.inRegion (oC snnr13) [20,21,22,23,24,25],.code snnc116,.inBlock 1,.code snnr7,.inLoop snns9,.inBlock 0,.code snns20])::cs)) w):
 Own Try.prog main F Stop (G (((Go.Conc.base 6).at ⟨A,[]⟩ [.inRegion (oC snnr13) [15,16,17,18,19,20,21,22,23,24,25],.code snnc116,.inBlock 1,.code snnr7,.inLoop snns9,.inBlock 0,.code snns20]).finish (.int .i64 v)) cs) w:=by
 obtain⟨hsz,h0,h3,h4,h5,h6,h102,h104,_⟩:=hA
 obtain⟨s,rfl⟩:=snnT_of hsz
 change s 0=_ at h0
 change s 3=_ at h3
 change s 4=_ at h4
 change s 5=_ at h5
 change s 6=_ at h6
 change s 102=_ at h102
 change s 104=_ at h104
 clear hsz
 simp only[snnT,h0,h3,h4,h5,h6,h102,h104]
 clear h0 h3 h4 h5 h6 h102 h104
 rw[Frame.finish_at]
 simp only[snnr13,snnBody,Try.f6,zz,Nat.reduceAdd]
 walk_nrm
 iterate 4 (refine oW fun dd K hK=>?_;go_simp;refine qT hK ?_;clear hK K)
 refine oc callable23 #[.pointer (some ⟨lz,0,none⟩)] ?_
 refine h _ ?_
 exact⟨rfl,rfl,rfl,rfl,rfl,rfl,rfl,trivial⟩
theorem sn_10{oa:Option Addr}{ol oq lz lb i:Nat}{v:Value}{A:Array Value}(hA:Slots 117 A [(0,.slice oa ol oq),(3,.pointer none),(4,.pointer (some ⟨lz,0,none⟩)),(5,.pointer (some ⟨lb,0,none⟩)),(6,.int .i64 (i:Nat)),(109,.bool false)]){cs:List Frame}{main:Bool}{Stop:Goroutine→World→Prop}
 (h:∀A,Slots 117 A [(0,.slice oa ol oq),(3,.pointer none),(4,.pointer (some ⟨lz,0,none⟩)),(5,.pointer (some ⟨lb,0,none⟩)),(6,.int .i64 (i:Nat)),(109,.bool false),(111,v)]→Own Try.prog main F Stop (G (Frame.enter Try.prog 23 #[.pointer (some ⟨lb,0,none⟩)] .normal) (((Go.Conc.base 6).at ⟨A,[]⟩ [.inRegion (oC snnr13) [22,23,24,25],.code snnc116,.inBlock 1,.code snnr7,.inLoop snns9,.inBlock 0,.code snns20])::cs)) w):
 Own Try.prog main F Stop (G (((Go.Conc.base 6).at ⟨A,[]⟩ [.inRegion (oC snnr13) [20,21,22,23,24,25],.code snnc116,.inBlock 1,.code snnr7,.inLoop snns9,.inBlock 0,.code snns20]).finish (v)) cs) w:=by
 obtain⟨hsz,h0,h3,h4,h5,h6,h109,_⟩:=hA
 obtain⟨s,rfl⟩:=snnT_of hsz
 change s 0=_ at h0
 change s 3=_ at h3
 change s 4=_ at h4
 change s 5=_ at h5
 change s 6=_ at h6
 change s 109=_ at h109
 clear hsz
 simp only[snnT,h0,h3,h4,h5,h6,h109]
 clear h0 h3 h4 h5 h6 h109
 rw[Frame.finish_at]
 simp only[snnr13,snnBody,Try.f6,zz,Nat.reduceAdd]
 walk_nrm
 (refine oW fun dd K hK=>?_;go_simp;refine qT hK ?_;clear hK K)
 refine oc callable23 #[.pointer (some ⟨lb,0,none⟩)] ?_
 refine h _ ?_
 exact⟨rfl,rfl,rfl,rfl,rfl,rfl,rfl,rfl,trivial⟩
theorem sn_11{oa:Option Addr}{ol oq lz lb i:Nat}{v u:Value}{A:Array Value}(hA:Slots 117 A [(0,.slice oa ol oq),(3,.pointer none),(4,.pointer (some ⟨lz,0,none⟩)),(5,.pointer (some ⟨lb,0,none⟩)),(6,.int .i64 (i:Nat)),(109,.bool false),(111,v)]){cs:List Frame}{main:Bool}{Stop:Goroutine→World→Prop}
 (h:∀A,Slots 117 A [(0,.slice oa ol oq),(3,.pointer none),(4,.pointer (some ⟨lz,0,none⟩)),(5,.pointer (some ⟨lb,0,none⟩)),(6,.int .i64 (i:Nat)),(109,.bool false)]→Own Try.prog main F Stop (G (Frame.enter Try.prog 22 #[v,u] .normal) (((Go.Conc.base 6).at ⟨A,[]⟩ [.inRegion (oC snnr13) [23,24,25],.code snnc116,.inBlock 1,.code snnr7,.inLoop snns9,.inBlock 0,.code snns20])::cs)) w):
 Own Try.prog main F Stop (G (((Go.Conc.base 6).at ⟨A,[]⟩ [.inRegion (oC snnr13) [22,23,24,25],.code snnc116,.inBlock 1,.code snnr7,.inLoop snns9,.inBlock 0,.code snns20]).finish (u)) cs) w:=by
 obtain⟨hsz,h0,h3,h4,h5,h6,h109,h111,_⟩:=hA
 obtain⟨s,rfl⟩:=snnT_of hsz
 change s 0=_ at h0
 change s 3=_ at h3
 change s 4=_ at h4
 change s 5=_ at h5
 change s 6=_ at h6
 change s 109=_ at h109
 change s 111=_ at h111
 clear hsz
 simp only[snnT,h0,h3,h4,h5,h6,h109,h111]
 clear h0 h3 h4 h5 h6 h109 h111
 rw[Frame.finish_at]
 simp only[snnr13,snnBody,Try.f6,zz,Nat.reduceAdd]
 walk_nrm
 refine oc callable22 #[v,u] ?_
 refine h _ ?_
 exact⟨rfl,rfl,rfl,rfl,rfl,rfl,rfl,trivial⟩
theorem sn_12{oa:Option Addr}{ol oq lz lb i:Nat}(hi:i<9223372036854775807){A:Array Value}(hA:Slots 117 A [(0,.slice oa ol oq),(3,.pointer none),(4,.pointer (some ⟨lz,0,none⟩)),(5,.pointer (some ⟨lb,0,none⟩)),(6,.int .i64 (i:Nat)),(109,.bool false)]){cs:List Frame}{main:Bool}{Stop:Goroutine→World→Prop}
 (h:∀A,Slots 117 A [(0,.slice oa ol oq),(3,.pointer none),(4,.pointer (some ⟨lz,0,none⟩)),(5,.pointer (some ⟨lb,0,none⟩)),(6,.int .i64 (i+1:Nat))]→Own Try.prog main F Stop (G ((Go.Conc.base 6).at ⟨A,[]⟩ [.code snns9,.inLoop snns9,.inBlock 0,.code snns20]) cs) w):
 Own Try.prog main F Stop (G (((Go.Conc.base 6).at ⟨A,[]⟩ [.inRegion (oC snnr13) [23,24,25],.code snnc116,.inBlock 1,.code snnr7,.inLoop snns9,.inBlock 0,.code snns20]).finish (.bool true)) cs) w:=by
 obtain⟨hsz,h0,h3,h4,h5,h6,h109,_⟩:=hA
 obtain⟨s,rfl⟩:=snnT_of hsz
 change s 0=_ at h0
 change s 3=_ at h3
 change s 4=_ at h4
 change s 5=_ at h5
 change s 6=_ at h6
 change s 109=_ at h109
 clear hsz
 simp only[snnT,h0,h3,h4,h5,h6,h109]
 clear h0 h3 h4 h5 h6 h109
 have hk64:IntKind.i64.wrap ((i:Int)+1)=(i:Int)+1:=IntWalk.i64_in _ (by omega)
 rw[Frame.finish_at]
 simp only[snnr13,snnBody,Try.f6,zz,Nat.reduceAdd]
 walk_nrm
 iterate 2 (refine oW fun dd K hK=>?_;go_simp;refine qT hK ?_;clear hK K)
 refine ogE ?_
 rw[snnc116']
 refine ogF ?_
 simp only[Bool.false_eq_true,if_false]
 refine ogK ?_
 refine ogI ?_
 rw[snnr7']
 refine ogR ?_
 simp only[snnr7,snnBody,Try.f6,zz,Nat.reduceAdd]
 iterate 3 (refine oW fun dd K hK=>?_;go_simp;refine qT hK ?_;clear hK K)
 refine ogE ?_
 refine ogL ?_
 refine h _ ?_
 exact⟨rfl,rfl,rfl,rfl,rfl,rfl,trivial⟩
end
section
open Go.ChangeShapes Go.WideShapes Go.ChangeAt
theorem bulk_one{H:Type}(d:DataW H):1≤Rows.uptoBulk d:=by
 cases d with
 | lit l=>cases l<;>simp[Rows.uptoBulk]
 | nil=>simp[Rows.uptoBulk]
 | ptr d=>simp[Rows.uptoBulk]
 | slice elems spare=>simp[Rows.uptoBulk]
 | agg parts=>simp[Rows.uptoBulk]
 | iface t d=>simp[Rows.uptoBulk]
 | map entries=>simp[Rows.uptoBulk]
 | held h=>simp[Rows.uptoBulk]
theorem bulk_part{H:Type}{d:DataW H}{l:List (DataW H)}(h:d∈l):Rows.uptoBulk d≤Rows.uptoBulkAll l:=by
 induction l with
 | nil=>cases h
 | cons x r ih=>
   simp only[Rows.uptoBulkAll]
   cases List.mem_cons.1 h with
   | inl e=>subst e;omega
   | inr e=>have:=ih e;omega
theorem bulk_length{H:Type}(l:List (DataW H)):l.length≤Rows.uptoBulkAll l:=by
 induction l with
 | nil=>simp[Rows.uptoBulkAll]
 | cons x r ih=>have:=bulk_one x;simp only[Rows.uptoBulkAll,List.length_cons];omega
theorem bulk_slice{H:Type}(elems spare:List (DataW H)):elems.length≤Rows.uptoBulk (.slice elems spare)∧∀d∈elems,Rows.uptoBulk d≤Rows.uptoBulk (.slice elems spare):=by
 have h1:=bulk_length elems
 simp only[Rows.uptoBulk]
 exact⟨by omega,fun d hd=>by have:=bulk_part hd;omega⟩
section
variable{H:Type}{enc:TypeId×Value→H}{W:World}
theorem cells47:Try.prog.cellsOf 47=4:=by kernel_rfl
theorem cells2:Try.prog.cellsOf 2=1:=by kernel_rfl
theorem cells3:Try.prog.cellsOf 3=1:=by kernel_rfl
structure OpLies(W:World)(b o:Nat)(x:Op4):Prop where
 f0:W.cell? ⟨b,o,none⟩=some (.int .i64 x.kd)
 f1:W.cell? ⟨b,o+1,none⟩=some (.int .i64 x.a)
 f2:W.cell? ⟨b,o+2,none⟩=some (.int .i64 x.b)
 f3:W.cell? ⟨b,o+3,none⟩=some (.int .i64 x.c)
 g0:W.frozen? ⟨b,o,none⟩=false
 g1:W.frozen? ⟨b,o+1,none⟩=false
 g2:W.frozen? ⟨b,o+2,none⟩=false
 g3:W.frozen? ⟨b,o+3,none⟩=false
instance:Inhabited Op4:=⟨⟨0,0,0,0⟩⟩
theorem ops_in{v:Value}{fuel:Nat}{d:DataW H}{p:List MemPlace}(h:DataW.trod enc Try.prog W 0 (fun _=>true) true fuel 34 [v]=some (d,p))(hz:W.noneFrozen p):
 ∃(a:Option Addr) (l c b o:Nat) (X:Nat→Op4),v= .slice a l c∧l≤c∧l≤Rows.uptoBulk d∧∀k,k<l→a=some ⟨b,o,none⟩∧OpLies W b (o+k*4) (X k):=by
 rcases Deep.open_slice Try.underlying34 h with⟨h1,h2⟩|⟨a,len,cap,m,n,D,Pl,h1,hb,hlc,_,hm,h2,hx⟩
 ·cases h1
  exact⟨none,0,0,0,0,fun _=>default,rfl,Nat.le_refl _,Nat.zero_le _,fun k hk=>by omega⟩
 ·simp only[if_true]at hm
  subst hm
  cases h1
  simp only[Prod.mk.injEq]at h2
  obtain⟨rfl,rfl⟩:=h2
  rw[cells47]at hx hz
  have hsp:0<len→a.spot=none:=fun hp=>by
   obtain⟨cs',e1,_⟩:=hx 0 (by omega)
   obtain⟨_,_,hcell⟩:=World.cells?_some e1
   have h0:=hcell 0 (by omega)
   rw[List.getElem?_eq_getElem (by omega)]at h0
   have:=World.cell?_spot h0
   simpa [Addr.add]using this
  have each:∀k,k<len→∃x:Op4,∃b o,a=⟨b,o,none⟩∧OpLies W b (o+k*4) x:=fun k hk=>by
   obtain⟨cs',e1,e2⟩:=hx k (by omega)
   obtain⟨_,hlen,hcell⟩:=World.cells?_some e1
   obtain⟨xs,n',hk',hxy,_,hxl,hf⟩:=DataW.trod_struct Try.underlying47 e2
   match xs,hxl,cs',hlen with
   | [y0,y1,y2,y3],_,[v0,v1,v2,v3],_=>
     have q0:=hf 0 _ rfl
     have q1:=hf 1 _ rfl
     have q2:=hf 2 _ rfl
     have q3:=hf 3 _ rfl
     simp[cells2,cells3]at q0 q1 q2 q3
     obtain⟨n0,r0,_,_⟩:=DataW.trod_int Try.underlying3 q0
     obtain⟨n1,r1,_,_⟩:=DataW.trod_int Try.underlying2 q1
     obtain⟨n2,r2,_,_⟩:=DataW.trod_int Try.underlying2 q2
     obtain⟨n3,r3,_,_⟩:=DataW.trod_int Try.underlying2 q3
     cases r0
     cases r1
     cases r2
     cases r3
     obtain⟨b,o,spot⟩:=a
     have c0:=hcell 0 (by omega)
     have c1:=hcell 1 (by omega)
     have c2:=hcell 2 (by omega)
     have c3:=hcell 3 (by omega)
     have hs:spot=none:=hsp (by omega)
     subst hs
     rw[add_plain,add_plain]at c0 c1 c2 c3
     have hfr:∀j,j<m*4→W.frozen? ⟨b,o+j,none⟩=false:=fun j hj=>hz b (o+j) (List.mem_append_left _ (by simp only[MemPlace.row,List.mem_map,List.mem_range];exact⟨j,hj,rfl⟩))
     exact⟨⟨n0,n1,n2,n3⟩,b,o,rfl,c0,c1,c2,c3,hfr _ (by omega),by rw[Nat.add_assoc];exact hfr _ (by omega),by rw[Nat.add_assoc];exact hfr _ (by omega),by rw[Nat.add_assoc];exact hfr _ (by omega)⟩
  obtain⟨X,hX⟩:=Deep.choose_lt each
  refine⟨some a,len,m,a.block,a.off,X,rfl,hlc,?_,fun k hk=>?_⟩
  ·have:=(bulk_slice (H:=H) ((List.range len).map D) ((List.range (m - len)).map fun j=>D (len+j))).1
   simpa using this
  ·obtain⟨b,o,rfl,hh⟩:=hX k hk
   exact⟨rfl,hh⟩
end
end
section
theorem bes_good{An:Anchor}{P:Program}{Post:Value→World→Prop}{fr:Frame}{W:World}(hA:An.Holds W)
 (hB:Bes An P (fun g w=>g.status= .running∧∀d,∃v,stepG P true g (w.at d)= .ended (.done v) (w.at d) #[]∧(An.Holds (w.at d)→Post v (w.at d))) (G fr []) W):
 ∃M last o w' t',runNT P (M+1) (solo (G fr []) W) #[]=(.ended o w',t')∧runN P M (solo (G fr []) W)= .next last∧step P last= .ended o w'∧Go.Conc.Good P Post last o w' t':=by
 rw[solo_eq_crowd]
 obtain⟨N,gs',g',w',sl',T',q',B',hr,h0',⟨hrun,hS⟩,hL',hP',hA'⟩:=hB #[G fr []] none #[] (fun _=>0) 0 rfl (leavers_one _ _) past_nil hA
 obtain⟨K,last,o,w2,t',e1,e2,e3,e4⟩:=beside_ends (P:=P) (Post:=Post) (D:=fun _ _ es=>∀e∈es,EvL NoShun B' e) (sl:=sl') (n:=0) (fun _ _ _ h=>h) h0' hL' hP' (Goes.stop fun w₂ r₂=>by
  obtain⟨d,rfl⟩:=r₂
  obtain⟨v,h1,h2⟩:=hS d
  exact⟨hrun,v,#[],h1,by simp,h2 (hA'.at d)⟩)
 refine⟨N+K,last,o,w2,t',?_,?_,e3,e4⟩
 ·rw[Nat.add_assoc,runNT_add,hr];exact e1
 ·rw[runN_add,← runNT_fst P _ _ #[],hr];exact e2
theorem below_of{W w':World}(h:(⟨W.heap.size,W⟩:Anchor).Holds w')(hc:∀(r:Nat) (c:Array Value) (e:TypeId) (z:Nat×Nat),W.heap[r]? =some (.cells c e z)→w'.heap[r]? =some (.cells c e z)):Below W.heap.size W w':=by
 refine⟨h.os,h.tape,h.output,h.low,fun r hr=>?_⟩
 obtain⟨o,ho⟩:∃o,W.heap[r]? =some o:=⟨_,Array.getElem?_eq_getElem hr⟩
 by_cases e:∃c e z,o= .cells c e z
 ·obtain⟨c,e,z,rfl⟩:=e
  rw[hc r c e z ho,ho]
 ·rw[h.obj r o hr ho fun c e1 z e2=>e ⟨c,e1,z,e2⟩,ho]
theorem law_ends{f k:Nat}{fn:Func}{A:Array Value}(h2:¬2=f)(hf:Try.prog.funcs[f]? =some fn)(hr:fn.results= #[.tmp k]){v:Value}(hA:A.getD k undef=v)(w:World):
 stepG Try.prog true (G {(base f).at ⟨A,[]⟩ [.code .ret]with mode:=.returning} []) w= .ended (.done v) w #[]:=by
 subst hA
 simp[G,stepG,unwind,doReturn,results,Frame.at,base,hf,hr,seen,GStep.after,h2]
section
variable{An:Anchor}{W:World}
def LawPost(W:World)(v:Value)(w':World):Prop:=v= .bool true∧∀(r:Nat) (c:Array Value) (e:TypeId) (z:Nat×Nat),W.heap[r]? =some (.cells c e z)→w'.heap[r]? =some (.cells c e z)
def LawStop(An:Anchor)(Post:Value→World→Prop)(g:Goroutine)(w:World):Prop:=g.status= .running∧∀d,∃v,stepG Try.prog true g (w.at d)= .ended (.done v) (w.at d) #[]∧(An.Holds (w.at d)→Post v (w.at d))
theorem law_stop{f k:Nat}{fn:Func}{A:Array Value}(hf:Try.prog.funcs[f]? =some fn)(hr:fn.results= #[.tmp k])(h2:¬2=f)(hA:A.getD k undef= .bool true){w:World}(h:∀(r:Nat) (c:Array Value) (e:TypeId) (z:Nat×Nat),W.heap[r]? =some (.cells c e z)→w.heap[r]? =some (.cells c e z)):
 LawStop An (LawPost W) (G {(base f).at ⟨A,[]⟩ [.code .ret]with mode:=.returning} []) w:=
 ⟨rfl,fun d=>⟨_,law_ends h2 hf hr hA _,fun _=>⟨rfl,h⟩⟩⟩
end
theorem Try.own:ownKnob Try.prog.godebug=none:=by kernel_rfl
theorem Try.laidOut:laidOutB Try.prog=true:=by kernel_rfl
end
section
open Go.ChangeShapes Go.WideShapes Go.ChangeAt
section
variable{An:Anchor}{w w':World}
theorem even_w(s:SSt)(kd:Nat)(vs:List Int)(h:s.ver.tmod 2=0):(s.wrote kd vs).ver.tmod 2=0:=by
 have h2:s.ver % 2=0:=by
  have:=Int.dvd_of_tmod_eq_zero h
  omega
 have e:(s.wrote kd vs).ver=IntKind.i64.wrap (s.ver+2):=rfl
 have hm:(s.wrote kd vs).ver % 2=0:=by rw[e,IntKind.wrap_i64];omega
 exact Int.tmod_eq_zero_of_dvd (by omega)
theorem call1_even(s:SSt)(n:Nat)(o:Op4)(h:s.ver.tmod 2=0):(s.call1 n o).1.ver.tmod 2=0:=by
 unfold SSt.call1
 repeat' split
 all_goals first
  | exact h
  | exact even_w _ _ _ h
theorem call1_len(s:SSt)(n:Nat)(o:Op4):(s.call1 n o).1.ws.length=s.ws.length:=by
 unfold SSt.call1
 repeat' split
 all_goals first
  | rfl
  | exact wrote_len _ _ _
theorem call1_list(s:SSt)(n:Nat)(o:Op4):(s.call1 n o).2.1.2.2.length≤s.ws.length:=by
 unfold SSt.call1
 repeat' split
 all_goals simp
structure OpsN(w:World)(oa:Option Addr)(ol:Nat)(X:Nat→Op4):Prop where
 h:∀k,k<ol→∃pb oo,oa=some ⟨pb,oo,none⟩∧OpI pb (oo+k*4) (X k) w
theorem row_slice2{n:Nat}{v:Value}{xs:List Value}(h:w.ownsRow 0 2 1 v n xs):∃la lc,v= .slice la n lc:=by
 rcases h.2 with⟨rfl,rfl⟩|⟨b,cap,cur,rfl,_⟩
 ·exact⟨_,_,rfl⟩
 ·exact⟨_,_,rfl⟩
theorem own_none{oa:Option Addr}{ol oq lz lb wb:Nat}{X:Nat→Op4}{w0:World}(hO:OpsN w0 oa ol X)(hol:ol≤9223372036854775807)(hz:w0.heap.size≤lz)(hb:w0.heap.size≤lb)(hwb:w0.heap.size≤wb)(hzl:lz≠lb)(hzw:lz≠wb){cs:List Frame}{main:Bool}{Stop:Goroutine→World→Prop}
 (K:∀A w',A.getD 2 undef= .bool true→w0.heap.size≤w'.heap.size→(∀r,r<w0.heap.size→w'.heap[r]? =w0.heap[r]?)→Own Try.prog main F0 Stop (G {(Go.Conc.base 6).at ⟨A,[]⟩ [.code .ret]with mode:=.returning} cs) w'):
 ∀k i s w A,i+k=ol→SU lz ⟨s,lz,1⟩ w→SU lb ⟨s,wb,0⟩ w→s.ver.tmod 2=0→s.ws.length=1→w0.heap.size≤w.heap.size→(∀r,r<w0.heap.size→w.heap[r]? =w0.heap[r]?)→Slots 117 A [(0,.slice oa ol oq),(3,.pointer none),(4,.pointer (some ⟨lz,0,none⟩)),(5,.pointer (some ⟨lb,0,none⟩)),(6,.int .i64 (i:Nat))]→Own Try.prog main F0 Stop (G ((Go.Conc.base 6).at ⟨A,[]⟩ [.code snns9,.inLoop snns9,.inBlock 0,.code snns20]) cs) w:=by
 intro k
 induction k with
 | zero=>
   intro i s w A hk hUz hUl hev hlen hsz hold hA
   have e:i=ol:=by omega
   subst e
   exact sn_end hA fun A hA=>K A w hA hsz hold
 | succ k ih=>
   intro i s w A hk hUz hUl hev hlen hsz hold hA
   have hi:i<ol:=by omega
   refine sn_3 under_F0 (Nat.zero_le _) hi hA fun A hA=>?_
   have hsW:((w.alloc (.cells #[.int .i64 1] 2)).alloc (.cells #[.int .i64 1] 2)).heap.size=w.heap.size+2:=size2 _ _ _
   have hoW:∀r,r<w.heap.size→((w.alloc (.cells #[.int .i64 1] 2)).alloc (.cells #[.int .i64 1] 2)).heap[r]? =w.heap[r]?:=fun r hr=>old2 _ _ _ hr
   generalize (w.alloc (.cells #[.int .i64 1] 2)).alloc (.cells #[.int .i64 1] 2)=W at hsW hoW ⊢
   have hUz1:SU lz ⟨s,lz,1⟩ W:=hUz.same fun r hr=>hoW r (hUz.low hr)
   have hUl1:SU lb ⟨s,wb,0⟩ W:=hUl.same fun r hr=>hoW r (hUl.low hr)
   have q1:=hUz.low (r:=lz) (.inl rfl)
   have q2:=hUl.low (r:=lb) (.inl rfl)
   have q3:=hUl.low (r:=wb) (.inr rfl)
   obtain⟨pb,oo,rfl,hop⟩:=hO.h i hi
   have hpl:=hop.low
   have C:CN W lz lb wb:=⟨by omega,by omega,by omega,hzl,hzw⟩
   have hLs:LsN W lz lb wb s s W:=⟨hUz1,hUl1,Nat.le_refl _,fun _ _ _ _ _=>rfl⟩
   obtain⟨an,han⟩:∃an,(s.call1 1 (X i)).2.1=an:=⟨_,rfl⟩
   have P:PreN W lz lb wb s an (X i) pb (oo+i*4):=⟨C,hev,hlen,han,hop.same ((hoW pb (by omega)).trans (hold pb hpl)),by omega,by omega,by omega⟩
   refine sn_4 hi P hLs hA fun A w1 x y la1 la2 ll1 ll2 lc1 lc2 hA hl u1 u2 hx hy hne hxx hyy=>?_
   refine sn_5 hne hxx hyy hA fun A Y hYs hYo hA=>?_
   have hlY:=hl.size
   have hY1:∀r,r<W.heap.size→Y.heap[r]? =w1.heap[r]?:=fun r hr=>hYo r (by omega)
   have hlsY:LsN W lz lb wb (s.call1 1 (X i)).1 (s.call1 1 (X i)).1 Y:=hl.above C hY1 (by omega)
   have v1:SAU ⟨an,la1,ll1,lc1⟩ Y:=sau_off u1 fun b c hb=>hYo b fun e=>by rw[e,hyy]at hb;simp at hb
   have v2:SAU ⟨an,la2,ll2,lc2⟩ Y:=sau_off u2 fun b c hb=>hYo b fun e=>by rw[e,hyy]at hb;simp at hb
   have hsV:((Y.alloc (.cells #[.bool an.1,.int .i64 an.2.1,.slice la1 ll1 lc1] 44)).alloc (.cells #[.bool an.1,.int .i64 an.2.1,.slice la2 ll2 lc2] 44)).heap.size=Y.heap.size+2:=size2 _ _ _
   have hoV:∀r,r<Y.heap.size→((Y.alloc (.cells #[.bool an.1,.int .i64 an.2.1,.slice la1 ll1 lc1] 44)).alloc (.cells #[.bool an.1,.int .i64 an.2.1,.slice la2 ll2 lc2] 44)).heap[r]? =Y.heap[r]?:=fun r hr=>old2 _ _ _ hr
   have r1:RRow ((Y.alloc (.cells #[.bool an.1,.int .i64 an.2.1,.slice la1 ll1 lc1] 44)).alloc (.cells #[.bool an.1,.int .i64 an.2.1,.slice la2 ll2 lc2] 44)) (some ⟨w1.heap.size,0,none⟩) (ansS [⟨an,la1,ll1,lc1⟩]):=by
    have:=(rrow_new Y (ansS [⟨an,la1,ll1,lc1⟩]) 44).alloc (.cells #[.bool an.1,.int .i64 an.2.1,.slice la2 ll2 lc2] 44)
    rw[hYs]at this
    exact this
   have r2:RRow ((Y.alloc (.cells #[.bool an.1,.int .i64 an.2.1,.slice la1 ll1 lc1] 44)).alloc (.cells #[.bool an.1,.int .i64 an.2.1,.slice la2 ll2 lc2] 44)) (some ⟨w1.heap.size+1,0,none⟩) (ansS [⟨an,la2,ll2,lc2⟩]):=by
    have:=rrow_new (Y.alloc (.cells #[.bool an.1,.int .i64 an.2.1,.slice la1 ll1 lc1] 44)) (ansS [⟨an,la2,ll2,lc2⟩]) 44
    rw[show(Y.alloc (.cells #[.bool an.1,.int .i64 an.2.1,.slice la1 ll1 lc1] 44)).heap.size=w1.heap.size+1 by simp[hYs]]at this
    exact this
   have t1:SAL ⟨an,la1,ll1,lc1⟩ ((Y.alloc (.cells #[.bool an.1,.int .i64 an.2.1,.slice la1 ll1 lc1] 44)).alloc (.cells #[.bool an.1,.int .i64 an.2.1,.slice la2 ll2 lc2] 44)):=.of (sau_off v1 fun b c hb=>hoV b (alt hb))
   have t2:SAL ⟨an,la2,ll2,lc2⟩ ((Y.alloc (.cells #[.bool an.1,.int .i64 an.2.1,.slice la1 ll1 lc1] 44)).alloc (.cells #[.bool an.1,.int .i64 an.2.1,.slice la2 ll2 lc2] 44)):=.of (sau_off v2 fun b c hb=>hoV b (alt hb))
   have hlsV:=hlsY.above C (u':=(Y.alloc (.cells #[.bool an.1,.int .i64 an.2.1,.slice la1 ll1 lc1] 44)).alloc (.cells #[.bool an.1,.int .i64 an.2.1,.slice la2 ll2 lc2] 44)) (fun r hr=>hoV r (by omega)) (by omega)
   have hanl:an.2.2.length<100000000:=by
    have:=call1_list s 1 (X i)
    rw[han]at this
    omega
   generalize (Y.alloc (.cells #[.bool an.1,.int .i64 an.2.1,.slice la1 ll1 lc1] 44)).alloc (.cells #[.bool an.1,.int .i64 an.2.1,.slice la2 ll2 lc2] 44)=V at hsV hoV r1 r2 t1 t2 hlsV ⊢
   refine own_same21 (xs:=[⟨an,la1,ll1,lc1⟩]) (ys:=[⟨an,la2,ll2,lc2⟩]) (by simp) rfl r1 r2 (fun a ha=>by
    obtain rfl:a=_:=by simpa using ha
    exact⟨t1,hanl⟩) (fun a ha=>by
    obtain rfl:a=_:=by simpa using ha
    exact t2) fun V1 eV=>?_
   have h1:=hlsV.above C (u':=V1) (fun r _=>by rw[eV]) (by rw[eV];exact Nat.le_refl _)
   have hl1:(s.call1 1 (X i)).1.ws.length=1:=(call1_len _ _ _).trans hlen
   refine sn_6 hA fun A hA=>?_
   refine own_len (n:=1) (by
    have:=h1.z.h
    simp only[SS.n,hl1]at this
    exact this) ?_
   refine sn_7 hA fun A hA=>?_
   refine own_svers h1.z.v.c fun V2 e2=>?_
   have h2:=h1.above C (u':=V2) (fun r _=>by rw[e2]) (by rw[e2];exact Nat.le_refl _)
   refine sn_8 hA fun A hA=>?_
   refine own_svers h2.l.v.c fun V3 e3=>?_
   have h3:=h2.above C (u':=V3) (fun r _=>by rw[e3]) (by rw[e3];exact Nat.le_refl _)
   refine sn_9 hA fun A hA=>?_
   refine own_svalues h3.z fun V4 ov g1 g2 g3 g4=>?_
   have h4:=h3.above C (u':=V4) (fun r hr=>g4 r (Nat.lt_of_lt_of_le hr h3.size)) g3
   refine sn_10 hA fun A hA=>?_
   refine own_svalues h4.l fun V5 ou f1 f2 f3 f4=>?_
   have h5:=h4.above C (u':=V5) (fun r hr=>f4 r (Nat.lt_of_lt_of_le hr h4.size)) f3
   obtain⟨pa,pc,hpv⟩:=row_slice2 g2.row
   obtain⟨qa,qc,hqv⟩:=row_slice2 f2.row
   subst hpv
   subst hqv
   refine sn_11 hA fun A hA=>?_
   refine own_same22 (xs:=(s.call1 1 (X i)).1.ws) (by rw[hl1];decide) (rrow_of (ownsRow_same2 g2.row fun b hb _=>f4 b (row_low g2.row hb))) (rrow_of f2.row) fun V6 e6=>?_
   have h6:=h5.above C (u':=V6) (fun r _=>by rw[e6]) (by rw[e6];exact Nat.le_refl _)
   refine sn_12 (by omega) hA fun A hA=>?_
   have hW:=h6.size
   refine ih (i+1) (s.call1 1 (X i)).1 V6 A (by omega) h6.z h6.l (call1_even _ _ _ hev) hl1 (by omega) (fun r hr=>?_) hA
   rw[h6.o r (by omega) (by omega) (by omega) (by omega),hoW r (by omega),hold r hr]
theorem bes_none{oa:Option Addr}{ol oq:Nat}{X:Nat→Op4}(hO:OpsN w oa ol X)(hol:ol≤9223372036854775807):
 Bes An Try.prog (LawStop An (LawPost w)) (G (Frame.enter Try.prog 6 #[.slice oa ol oq] .normal) []) w:=by
 refine bes_own (F:=F0) (Stop:=fun a u=>∃A,Slots 117 A [(0,.slice oa ol oq)]∧u.heap=w.heap∧a=G (Frame.enter Try.prog 13 #[] .normal) [((Go.Conc.base 6).at ⟨A,[]⟩ [.inRegion (oC snnr1) [0,1],.code snnc14,.code snns4])])
  (sn_0 fun A hA=>.stop fun d=>⟨A,hA,rfl,rfl⟩) fun a u ⟨A,hA,hu,ha⟩=>?_
 subst ha
 have k0:Keep w u:=.of (by rw[hu];exact Nat.le_refl _) fun r _=>by rw[hu]
 refine bes_fixed fun w1 hk=>?_
 have k1:=k0.trans hk
 have hO1:OpsN w1 oa ol X:=⟨fun k hk=>by
  obtain⟨pb,oo,e,h⟩:=hO.h k hk
  refine⟨pb,oo,e,h.same ?_⟩
  obtain⟨c,e2,z,ho⟩:=cell_block h.f0
  rw[k1.2 _ _ _ _ ho,ho]⟩
 refine bes_own (F:=F0) (Stop:=fun a u2=>(∃A,A.getD 2 undef= .bool true∧a=G {(Go.Conc.base 6).at ⟨A,[]⟩ [.code .ret]with mode:=.returning} [])∧Keep w1 u2)
  (sn_1 under_F0 (Nat.zero_le _) hA fun A hA=>?_) fun a u2 ⟨⟨A,h6,ha⟩,hk2⟩=>?_
 ·have hs0:(w1.alloc (.cells #[.int .i64 0,.int .i64 0,.slice none 0 0] 64)).heap.size=w1.heap.size+1:=by simp
  have ho0:∀r,r<w1.heap.size→(w1.alloc (.cells #[.int .i64 0,.int .i64 0,.slice none 0 0] 64)).heap[r]? =w1.heap[r]?:=fun r hr=>heap_alloc_lt _ _ hr
  have hz0:=heap_alloc_new w1 (.cells #[.int .i64 0,.int .i64 0,.slice none 0 0] 64)
  generalize w1.alloc (.cells #[.int .i64 0,.int .i64 0,.slice none 0 0] 64)=W0 at hs0 ho0 hz0 ⊢
  refine own_snew (xs:=[]) (va:=none) (vc:=0) (fun i x h=>by simp at h) (by decide) fun W1 hU hs1 ho1=>?_
  have hUz:SU w1.heap.size ⟨⟨0,[0]⟩,w1.heap.size,1⟩ W0:=by
   refine⟨⟨Nat.one_pos,Nat.le_of_ble_eq_true rfl⟩,⟨.inr ⟨(bld_at hz0 (j:=2) rfl).1,rfl,rfl,rfl⟩,Nat.one_pos,Nat.le_of_ble_eq_true rfl⟩,⟨(bld_at hz0 (j:=0) rfl).1,(bld_at hz0 (j:=0) rfl).2⟩,fun i hi=>?_,fun _=>⟨rfl,rfl⟩⟩
   obtain rfl:i=0:=by simp[SS.n]at hi;exact hi
   exact⟨(bld_at hz0 (j:=1) rfl).1,(bld_at hz0 (j:=1) rfl).2⟩
  refine sn_2 hA fun A hA=>?_
  refine own_none (w0:=w1) (wb:=W0.heap.size) hO1 hol (Nat.le_refl _) (by omega) (by omega) (by omega) (by omega) (fun A w' h2 hsz hold=>.stop fun d=>⟨⟨A,h2,rfl⟩,.of hsz hold⟩) ol 0 ⟨0,[0]⟩ W1 A (Nat.zero_add _) (hUz.same fun r hr=>ho1 r (by rcases hr with rfl|rfl<;>first|omega|(simp only;omega))) hU rfl rfl (by omega) (fun r hr=>(ho1 r (by omega)).trans (ho0 r hr)) hA
 ·subst ha
  exact Bes.stop (law_stop (W:=w) Try.func6 rfl (by decide) h6 (k1.trans hk2).2)
end
theorem snone_lifted(os:Os)(started:os.Started)(H:Type)(enc:TypeId×Value→H):
 ReturnsInLeavingWide {} Try.checked os 6 .any (Rows.seqlockNoneSpec.pre6 enc Try.prog Try.f6 Rows.seqlockNoneRow.domain false) (Rows.seqlockNoneSpec.post enc Try.prog Try.f6 false true false false):=by
 refine returnsInLeavingWide_of_change_sized (C:=Try.checked) Try.own started Try.func6
  (ChangeSpec.witness6 (enc:=enc) (C:=Try.checked) false ⟨#[],#[.slice none 0 0],[]⟩ 8 (by kernel_rfl) (by kernel_rfl) (by kernel_rfl) (by kernel_rfl)) ?_
 intro W base args ds gs before hval0 hW _ hsz0 _
 have hval:∀(j:Nat) t v,Try.f6.params[j]? =some t→args[j]? =some v→Value.okWide Try.prog W .any base t v:=hval0
 have hW':=hW
 obtain⟨p,q,hA0,hV,rfl,hfz,_⟩:=hW
 have hA:DataW.TrodAll enc Try.prog W 0 (fun _=>true) true Try.f6.params.toList args.toList ds p:=hA0
 rw[Try.params6]at hA hval
 obtain⟨v0,d0,rfl,rfl,h0⟩:=trodAll_one hA
 obtain⟨rfl,rfl⟩:=trodVars_none hV
 clear hA0 hval0
 simp only[List.append_nil,List.nil_append]at hW' hfz
 have hlt:∀x∈p,x.block<W.heap.size:=fun x hx=>by simpa using hW'.lt x hx
 obtain⟨fuel,hf⟩:=h0
 obtain⟨a0,l0,c0,rfl⟩:=okWide_slice Try.underlying34 (hval 0 34 v0 rfl rfl)
 have hlm:l0≤maxLen:=by
  rcases Deep.open_slice Try.underlying34 hf with⟨h1,_⟩|⟨a,len,cap,m,n,D,Pl,h1,hb,hlc,hcm,_⟩
  ·cases h1;exact Nat.zero_le _
  ·cases h1;omega
 obtain⟨a,l,c,b,o,X,e1,e2,_,e4⟩:=ops_in hf (fun b o h=>hfz b o (by simpa using h))
 cases e1
 have hO:OpsN W a0 l0 X:=⟨fun k hk=>by
  obtain⟨q1,q2⟩:=e4 k hk
  exact⟨_,_,q1,q2.f0,q2.f1,q2.f2,q2.f3⟩⟩
 have hbes:=bes_none (An:=⟨W.heap.size,W⟩) (w:=W) (oq:=c0) hO (by unfold maxLen at hlm;omega)
 obtain⟨N,last,o',w',t',g1,g2,g3,g4⟩:=bes_good (An:=⟨W.heap.size,W⟩) (Post:=fun v w'=>LawPost W v w'∧(⟨W.heap.size,W⟩:Anchor).Holds w') (W:=W) ⟨rfl,rfl,rfl,Nat.le_refl _,fun r o _ h _=>h⟩ (Bes.bind hbes fun g w h=>Bes.stop ⟨h.1,fun d=>by
  obtain⟨v,e1,e2⟩:=h.2 d
  exact⟨v,e1,fun hh=>⟨e2 hh,hh⟩⟩⟩)
 refine⟨N,last,o',w',t',g1,g2,g3,g4.mono fun v hF=>?_⟩
 obtain⟨⟨rfl,hk⟩,hh⟩:=hF
 have hbelow:=below_of hh hk
 have r1:=Below.trod Try.laidOut (by kernel_rfl) (of_decide_eq_true (by kernel_rfl)) ⟨fuel,hf⟩ hbelow (fun x hx=>hlt x hx)
 refine⟨_,_,_,[],p,[],hW',?_,?_,rfl,hbelow.frame _,fun h=>by cases h⟩
 ·exact trodAll_mk1 (shut_bool Try.underlying4 true)
 ·exact trodAll_mk1 r1
theorem seqlockNone_holds:Rows.SeqlockNoneSaid:=
 OpenClaim.holds_of_wide_leaving 6 Try.f6 rfl rfl rfl rfl rfl rfl rfl ⟨rfl,rfl,rfl,rfl,rfl⟩ rfl rfl rfl rfl rfl (by kernel_rfl) Try.func6 (by kernel_rfl)
  (of_decide_eq_true (by kernel_rfl)) (by unfold Func.isWrapper;first|(rw[if_pos (by decide +kernel)];kernel_rfl)|(rw[if_neg (by decide +kernel)];exact⟨rfl,rfl⟩))
  (fun os started H enc _=>snone_lifted os started H enc)
end
end Go.Proofs.Ytlcgkpapnpdfpaa
