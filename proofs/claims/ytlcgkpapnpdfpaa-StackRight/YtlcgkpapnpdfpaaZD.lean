/-
  Of StackRight: whatever threads push and pop by whatever schedule, with tags: nothing is lost, nothing is doubled. No condition.
  Part 4 of 5.
-/
import Derived.Test.YtlcgkpapnpdfpaaZC
import Derived.Laws.MakeOwn
import Derived.Deep.RegionLaw
import Derived.Deep.RegionLawGrows
import Derived.Deep.DeepAppendRoom
import Derived.ArgAppend
import Derived.Deep.LoopGhost
import Derived.StillTailTactics
import Derived.Deep.DrawnRows
import Derived.Laws.AppendOwnNone
import Derived.ProofKit
import Derived.Conc.LeavingOf
import Derived.Deep.RegionHeld3
import Derived.Maps.RangeWalk
import Derived.Maps.OwnOps
set_option linter.unusedSimpArgs false
set_option linter.unusedVariables false
set_option linter.unusedSectionVars false
set_option maxRecDepth 100000
set_option maxHeartbeats 8000000
namespace Go.Proofs.Ytlcgkpapnpdfpaa
open Go Go.Conc Go.RowKit Go.Proofs
section
variable{w w':World}{kb:Nat}
theorem KU.hn{s:KS}(h:KU kb s w):((-1≤s.k.hd.1∧s.k.hd.1<65536)∧0≤s.k.hd.2∧s.k.hd.2<2147483648)∧(-1≤s.k.fr.1∧s.k.fr.1<65536)∧0≤s.k.fr.2∧s.k.fr.2<2147483648:=by
 obtain⟨a1,a2,a3,a4⟩:=h.wf.hd
 obtain⟨b1,b2,b3,b4⟩:=h.wf.fr
 have hm:=h.wf.n3
 exact⟨⟨⟨a1,by omega⟩,a3,a4⟩,⟨b1,by omega⟩,b3,b4⟩
theorem KU.heap{s:KS}(h:KU kb s w)(e:w'.heap=w.heap):KU kb s w':=h.same fun r _=>by rw[e]
theorem heads_callsB{s:KS}(hU:KU kb s w):
 CallsB Try.prog Try.f38 #[.pointer (some ⟨kb,0,none⟩)] w fun e w'=>e=(.tuple #[.int .i64 s.k.hd.1,.int .i64 s.k.hd.2,.int .i64 s.k.fr.1,.int .i64 s.k.fr.2])∧w'.heap=w.heap:=by
 obtain⟨⟨⟨hn,h2⟩,ht⟩,⟨fn,f2⟩,ft⟩:=hU.hn
 obtain⟨⟨nx,vl,⟨n,t⟩,⟨f,u⟩,tg⟩,nb⟩:=s
 simp only at hn h2 ht fn f2 ft
 have c0:=hU.c0
 have c1:=hU.c1
 simp only at c0 c1
 have m1:bits .and .u64 (pk (n,t)) 2147483647=t:=pk_mask (by omega) (by omega) ht.1 ht.2
 have m2:bits .and .u64 (pk (f,u)) 2147483647=u:=pk_mask (by omega) (by omega) ft.1 ft.2
 have w1:IntKind.i64.wrap t=t:=IntWalk.i64_in _ (by omega)
 have w2:IntKind.i64.wrap u=u:=IntWalk.i64_in _ (by omega)
 have H:Aside (∀m,Calls Try.prog 76 #[.pointer (some ⟨kb,0,none⟩)] (w.drewN m) fun e w'=>e= .returned (.int .u64 (pk (n,t)))∧w'=w.drewN m):=fun m=>ldU_calls ((World.cell?_drewN w m _).trans c0)
 have H1:Aside (∀m,Calls Try.prog 76 #[.pointer (some ⟨kb,1,none⟩)] (w.drewN m) fun e w'=>e= .returned (.int .u64 (pk (f,u)))∧w'=w.drewN m):=fun m=>ldU_calls ((World.cell?_drewN w m _).trans c1)
 have O:Aside (∀W,Calls Try.prog 77 #[.int .u64 (pk (n,t))] W fun e w'=>e= .returned (.int .i64 n)∧w'=W):=fun W=>of_calls ⟨hn,h2⟩ ht
 have O1:Aside (∀W,Calls Try.prog 77 #[.int .u64 (pk (f,u))] W fun e w'=>e= .returned (.int .i64 f)∧w'=W):=fun W=>of_calls ⟨fn,f2⟩ ft
 clear hU c0 c1 hn h2 ht fn f2 ft
 refine callsB_of rfl ?_
 simp only[Try.ntmps38,List.size_toArray,List.length_cons,List.length_nil,Nat.reduceAdd,Nat.reduceSub,Array.replicate_succ,Array.replicate_zero,List.push_toArray,List.append_toArray,List.nil_append,List.cons_append]
 go_wp2
 go_quiet (first|(go_at_call 76;exact Calls.quiet_of_same (H.out _))|(go_at_call 76;exact Calls.quiet_of_same (H1.out _)))
 go_wp2_with (first
  | (go_at_call 77;refine(O.out _).mono ?_;rintro e w' ⟨rfl,rfl⟩)
  | (go_at_call 77;refine(O1.out _).mono ?_;rintro e w' ⟨rfl,rfl⟩))
 exact bodyPost_ret (v:=.tuple #[.int .i64 n,.int .i64 t,.int .i64 f,.int .i64 u]) (by simp[results,Try.f38,go_sem]) rfl ⟨_,rfl,rfl,rfl⟩
theorem heads_calls{s:KS}(hU:KU kb s w):
 Calls Try.prog 38 #[.pointer (some ⟨kb,0,none⟩)] w fun e w'=>e= .returned (.tuple #[.int .i64 s.k.hd.1,.int .i64 s.k.hd.2,.int .i64 s.k.fr.1,.int .i64 s.k.fr.2])∧w'.heap=w.heap:=
 ((heads_callsB hU).calls Try.func38 rfl).mono (by rintro e u ⟨v,rfl,rfl,h⟩;exact⟨rfl,h⟩)
def KSt.walk(s:KSt):Nat→Int→List Int
 | 0,_=>[]
 | f+1,i=>if i<0 then[]else s.val i::s.walk f (s.nxt i)
theorem walk_succ(s:KSt)(f:Nat)(i:Int):s.walk (f+1) i=if i<0 then[]else s.val i::s.walk f (s.nxt i):=rfl
def KSt.vals(s:KSt):List Int:=s.walk s.nx.length s.hd.1
theorem walk_len(s:KSt):∀f i,(s.walk f i).length≤f
 | 0,_=>Nat.le_refl _
 | f+1,i=>by
   unfold KSt.walk
   split
   ·exact Nat.zero_le _
   ·simp only[List.length_cons]
    have:=walk_len s f (s.nxt i)
    omega
def Walks(s:KSt)(f:Nat)(i:Int)(d:List Int):Prop:=s.vals=d++s.walk f i∧d.length+f=s.nx.length∧-1≤i∧i<s.nx.length
theorem values_calls{s:KS}(hU:KU kb s w):
 Calls Try.prog 39 #[.pointer (some ⟨kb,0,none⟩)] w fun x w'=>∃ov,x= .returned ov∧ValsAt w w' ov s.k.vals∧(s.k.vals=[]→ov= .slice none 0 0):=by
 obtain⟨i0,z0,hi,hz0,hz1,hz2,hz3⟩:=infoA2
 obtain⟨⟨⟨hn,h2⟩,ht⟩,_⟩:=hU.hn
 have A:Aside (KU kb s w):=hU
 have c0:=hU.c0
 have c2:=hU.c2.c2
 have hw:s.k.hd=(s.k.hd.1,s.k.hd.2):=rfl
 rw[hw]at c0
 have W0:Aside (Walks s.k s.m s.k.hd.1 []):=⟨rfl,by simp,hn,hU.wf.hd.2.1⟩
 have O:Aside (∀W,Calls Try.prog 77 #[.int .u64 (pk (s.k.hd.1,s.k.hd.2))] W fun e w'=>e= .returned (.int .i64 s.k.hd.1)∧w'=W):=fun W=>of_calls ⟨hn,h2⟩ ht
 have L:Aside (Calls Try.prog 76 #[.pointer (some ⟨kb,0,none⟩)] w fun e w'=>e= .returned (.int .u64 (pk (s.k.hd.1,s.k.hd.2)))∧w'=w):=ldU_calls c0
 have hm:s.m≤65536:=hU.wf.n3
 clear hU hn h2 ht hw c0
 go_enter Try.func39,Try.ntmps39
 go_wp2_with (first
  | (go_at_call 76;refine L.out.mono ?_;rintro e w ⟨rfl,rfl⟩)
  | (go_at_call 77;refine(O.out _).mono ?_;rintro e w ⟨rfl,rfl⟩))
 clear L O
 go_loopg [3,4] s.m (fun g n i wr=>∃(d:List Int) (k:Int) (f:Nat) (oa:Option Addr) (oc:Nat),n= .slice oa d.length oc∧i= .int .i64 k∧Walks s.k f k d∧g=f∧ValsAt w wr (.slice oa d.length oc) d∧(d=[]→Value.slice oa d.length oc= .slice none 0 0))
 case atStart=>exact⟨[],_,_,none,0,rfl,rfl,W0.out,rfl,⟨⟨rfl,.inl ⟨rfl,rfl⟩⟩,Nat.le_refl _,fun r _=>rfl,fun g h=>by cases h⟩,fun _=>rfl⟩
 case round=>
  obtain⟨d,k,f,oa,oc,rfl,rfl,⟨hv,hl,k1,k2⟩,hgf,hV,hnil⟩:=hrel
  clear c2
  have hU:=A.out.same (w':=wr) (fun r hr=>hV.old _ (A.out.low hr))
  have c2:=hU.c2.c2
  have hmm:s.m=s.k.nx.length:=rfl
  by_cases hneg:k<0
  ·have hn0:¬(0:Int)≤k:=by omega
   have e:s.k.walk f k=[]:=by
    cases f with
    | zero=>rfl
    | succ f=>unfold KSt.walk;rw[if_pos hneg]
   rw[e,List.append_nil]at hv
   have V:Aside (s.k.vals=d∧ValsAt w wr (.slice oa d.length oc) d∧(d=[]→Value.slice oa d.length oc= .slice none 0 0)):=⟨hv,hV,hnil⟩
   clear hnil hU hV hv hl hmm
   go_wp2
   go_ret
   rw[V.out.1]
   exact⟨_,rfl,V.out.2⟩
  ·have hn0:(0:Int)≤k:=by omega
   cases f with
   | zero=>
     have e:d.length=s.m:=by omega
     have hlt:¬(d.length:Int)<(s.m:Int):=by omega
     rw[show s.k.walk 0 k=[]from rfl,List.append_nil]at hv
     have V:Aside (s.k.vals=d∧ValsAt w wr (.slice oa d.length oc) d∧(d=[]→Value.slice oa d.length oc= .slice none 0 0)):=⟨hv,hV,hnil⟩
     clear hnil hU hV hv e hl hmm
     go_wp2
     go_ret
     rw[V.out.1]
     exact⟨_,rfl,V.out.2⟩
   | succ f=>
     obtain⟨i,rfl⟩:∃i:Nat,k=i:=⟨k.toNat,by omega⟩
     have him:i<s.m:=by omega
     have hlt:(d.length:Int)<(s.m:Int):=by omega
     obtain⟨n1,n2,n3⟩:=hU.nc him
     have hrow:=hV.row
     have hsz:=hV.size
     have V:Aside (Walks s.k f (s.k.nx.getD i 0) (d++[s.k.vl.getD i 0])∧ValsAt w wr (.slice oa d.length oc) d∧KU kb s wr):=by
      refine⟨⟨?_,by simp;omega,?_⟩,hV,hU⟩
      ·rw[hv,walk_succ,if_neg hneg]
       simp[KSt.val,KSt.nxt]
      ·have hwf:=hU.wf
       have h2:=hwf.n2
       rw[List.getD_eq_getElem?_getD,List.getElem?_eq_getElem (show i<s.k.nx.length from him)]
       exact hwf.nx _ (List.getElem_mem _)
     have L:Aside (∀W:World,W.heap=wr.heap→Calls Try.prog 54 #[.pointer (some ⟨s.nb,i*2+1,none⟩)] W fun e w'=>e= .returned (.int .i64 (s.k.vl.getD i 0))∧w'=W):=fun W e=>ldI_calls (by simpa only[World.cell?,e]using n2)
     have hd2:d.length<65536:=by omega
     obtain⟨cur,hnb,_⟩:=hU.n
     have ho:=hU.o
     clear hnil hU hV hv n3 hl hmm
     generalize hvv:s.k.vl.getD i 0=vv at L V n2
     generalize hxx:s.k.nx.getD i 0=xx at V n1
     go_wp2_with (first
      | (go_at_call 54;refine(L.out _ rfl).mono ?_;rintro e wr ⟨rfl,rfl⟩)
      | (at_builtin;refine wpList_append_fresh rfl (.tmp 32) (.tmp 41) 22 rfl 2 i0 z0 1 8 Try.underlying22 hi hz0 hz1 hz2 hz3 (by decide) (.slice oa d.length oc) d.length (d.map fun v=>.int .i64 v) rfl ?c0 ⟨wr.heap.size,0,none⟩ 1 1 [.int .i64 vv] rfl rfl ?c1 ?c2 ?c3 ?c4 ?_))
     case c0=>exact World.ownsRow.alloc hrow _
     case c1=>exact new_cells (X:=wr) (l:=[.int .i64 vv]) rfl
     case c2=>intro u hu;simp at hu;subst hu;rfl
     case c3=>unfold maxLen;omega
     case c4=>omega
     ·intro v' w1 hown hgrow hfr
      obtain⟨g,cap,rfl⟩:=own_slice hown
      have hkk:w1.heap[kb]? =wr.heap[kb]?:=grown_old hgrow (V.out.2.2.low (.inl rfl)) (own_type V.out.2.1.row ho (by decide))
      have hkn:w1.heap[s.nb]? =wr.heap[s.nb]?:=grown_old hgrow (V.out.2.2.low (.inr rfl)) (own_type V.out.2.1.row hnb (by decide))
      have q2:=(cell_heap (j:=2) hkk).1.trans c2
      have q1:=(cell_heap (j:=i*2) hkn).1.trans n1
      have hold:∀r,r<w.heap.size→w1.heap[r]? =wr.heap[r]?:=fun r hr=>by
       refine grown_old hgrow (by omega) fun e=>?_
       have:=V.out.2.1.new r e.symm
       omega
      have hgs:=hgrow.size
      simp only[World.size_alloc]at hgs
      have F:Aside (w1.ownsRow 0 2 1 (.slice (some ⟨g,0,none⟩) (d.length+1) cap) (d.length+1) ((d.map (fun v=>.int .i64 v))++[.int .i64 vv])∧(∀r,r<w.heap.size→w1.heap[r]? =wr.heap[r]?)∧wr.heap.size≤w1.heap.size∧((Value.slice (some ⟨g,0,none⟩) (d.length+1) cap).ownBlock=(Value.slice oa d.length oc).ownBlock∨∃g',(Value.slice (some ⟨g,0,none⟩) (d.length+1) cap).ownBlock=some g'∧wr.heap.size≤g')):=
       ⟨hown,hold,by omega,hfr.imp id fun⟨g',h1,h2⟩=>⟨g',h1,by omega⟩⟩
      have L2:Aside (Calls Try.prog 54 #[.pointer (some ⟨s.nb,i*2,none⟩)] w1 fun e w'=>e= .returned (.int .i64 xx)∧w'=w1):=ldI_calls q1
      clear hown hgrow hfr hkk hkn hold hgs hnb ho hrow c2 n1 n2 q1
      go_wp2_with (go_at_call 54;refine L2.out.mono ?_;rintro e w1 ⟨rfl,rfl⟩)
      go_roundg f
      case measure=>omega
      case rel=>
       obtain⟨v1,v2,v3⟩:=V.out
       obtain⟨f1,f2,f3,f4⟩:=F.out
       have e1:(d++[vv]).length=d.length+1:=by simp
       refine⟨d++[vv],xx,f,some ⟨g,0,none⟩,cap,by rw[e1],rfl,v1,rfl,⟨?_,by have:=v2.size;omega,fun r hr=>(f2 r hr).trans (v2.old r hr),fun g' hg=>?_⟩,fun h=>by simp at h⟩
       ·rw[e1]
        simpa using f1
       ·rw[e1]at hg
        rcases f4 with h|⟨g2,h,h2⟩
        ·exact v2.new g' (h ▸ hg)
        ·rw[h]at hg;cases hg
         have:=v2.size;omega
theorem ValsAt.more{w u w1:World}{ov:Value}{xs ys:List Int}(h:ValsAt w u ov xs){v':Value}(hown:w1.ownsRow 0 2 1 v' (xs.length+ys.length) ((xs.map fun v=>.int .i64 v)++ys.map fun v=>.int .i64 v))(hg:u.grownBy w1 ov.ownBlock)(hf:v'.ownBlock=ov.ownBlock∨∃g,v'.ownBlock=some g∧u.heap.size≤g):ValsAt w w1 v' (xs++ys):=by
 refine⟨by simpa using hown,by have:=h.size;have:=hg.size;omega,fun r hr=>?_,fun g hgv=>?_⟩
 ·have hsz:=h.size
  refine(hg.block r (by omega) fun e=>?_).trans (h.old r hr)
  have:=h.new r e.symm
  omega
 ·rcases hf with e|⟨g',e,h2⟩
  ·exact h.new g (e ▸ hgv)
  ·rw[e]at hgv
   cases hgv
   have:=h.size
   omega
theorem ValsAt.later{w u w1:World}{ov ov':Value}{xs ys:List Int}(h:ValsAt w u ov xs)(h2:ValsAt u w1 ov' ys):ValsAt w w1 ov xs:=by
 refine⟨ownsRow_same2 h.row fun b hb _=>h2.old b ?_,Nat.le_trans h.size h2.size,fun r hr=>(h2.old r (Nat.lt_of_lt_of_le hr h.size)).trans (h.old r hr),h.new⟩
 rcases h.row.2 with⟨rfl,_⟩|⟨g,cap,cur,rfl,_,h3,_⟩
 ·cases hb
 ·cases hb
  exact(alt h3)
theorem state_callsB{s:KS}(hU:KU kb s w):
 CallsB Try.prog Try.f65 #[.pointer (some ⟨kb,0,none⟩)] w fun ov w'=>ValsAt w w' ov ([s.k.hd.1,s.k.hd.2,s.k.fr.1,s.k.fr.2]++s.k.vals):=by
 obtain⟨i0,z0,hi,hz0,hz1,hz2,hz3⟩:=infoA2
 have A:Aside (KU kb s w):=hU
 have hvl:s.k.vals.length≤65536:=Nat.le_trans (walk_len _ _ _) hU.wf.n3
 have VV:Aside (∀W,KU kb s W→Calls Try.prog 39 #[.pointer (some ⟨kb,0,none⟩)] W fun x w'=>∃ov,x= .returned ov∧ValsAt W w' ov s.k.vals∧(s.k.vals=[]→ov= .slice none 0 0)):=fun W h=>values_calls h
 have H:Aside (Calls Try.prog 38 #[.pointer (some ⟨kb,0,none⟩)] w fun e w'=>e= .returned (.tuple #[.int .i64 s.k.hd.1,.int .i64 s.k.hd.2,.int .i64 s.k.fr.1,.int .i64 s.k.fr.2])∧w'.heap=w.heap):=heads_calls hU
 clear hU
 generalize s.k.hd.1=x1 at H ⊢
 generalize s.k.hd.2=x2 at H ⊢
 generalize s.k.fr.1=x3 at H ⊢
 generalize s.k.fr.2=x4 at H ⊢
 generalize s.k.vals=vv at VV hvl ⊢
 have key:∀w1:World,w1.heap=w.heap→ValsAt w (w1.alloc (.cells #[.int .i64 x1,.int .i64 x2,.int .i64 x3,.int .i64 x4] 2)) (.slice (some ⟨w1.heap.size,0,none⟩) 4 4) [x1,x2,x3,x4]∧KU kb s (w1.alloc (.cells #[.int .i64 x1,.int .i64 x2,.int .i64 x3,.int .i64 x4] 2)):=fun w1 hw1=>by
  have es:w1.heap.size=w.heap.size:=by rw[hw1]
  refine⟨⟨⟨rfl,.inr ⟨w1.heap.size,4,_,rfl,Nat.zero_le _,heap_alloc_new _ _,by simp,by unfold maxLen;omega,by simp,by simp⟩⟩,by simp;omega,fun r hr=>(heap_alloc_lt _ _ (by omega)).trans (by rw[hw1]),fun g hg=>?_⟩,(A.out.heap hw1).same fun r hr=>heap_alloc_lt _ _ ((A.out.heap hw1).low hr)⟩
  simp only[Value.ownBlock,Option.some.injEq]at hg
  omega
 have KEY:Aside (∀w1:World,w1.heap=w.heap→ValsAt w (w1.alloc (.cells #[.int .i64 x1,.int .i64 x2,.int .i64 x3,.int .i64 x4] 2)) (.slice (some ⟨w1.heap.size,0,none⟩) 4 4) [x1,x2,x3,x4]∧KU kb s (w1.alloc (.cells #[.int .i64 x1,.int .i64 x2,.int .i64 x3,.int .i64 x4] 2))):=key
 clear key A
 by_cases hnn:vv=[]
 ·subst hnn
  have V1:Aside (∀W,KU kb s W→Calls Try.prog 39 #[.pointer (some ⟨kb,0,none⟩)] W fun x w'=>x= .returned (.slice none 0 0)∧ValsAt W w' (.slice none 0 0) []):=fun W h=>(VV.out W h).mono (by rintro e w2 ⟨ov,rfl,h1,h2⟩;obtain rfl:=h2 rfl;exact⟨rfl,h1⟩)
  clear VV
  refine callsB_of rfl ?_
  simp only[Try.ntmps65,List.size_toArray,List.length_cons,List.length_nil,Nat.reduceAdd,Nat.reduceSub,Array.replicate_succ,Array.replicate_zero,List.push_toArray,List.append_toArray,List.nil_append,List.cons_append]
  go_wp2_with (first
   | (go_at_call 38;refine H.out.mono ?_;rintro e w1 ⟨rfl,hw1⟩;have W1:Aside (w1.heap=w.heap):=hw1;clear hw1)
   | (go_at_call 39;refine(V1.out _ (KEY.out _ W1.out).2).mono ?_;rintro e w2 ⟨rfl,hV⟩;have R1:Aside (ValsAt w w2 (.slice (some ⟨w1.heap.size,0,none⟩) 4 4) [x1,x2,x3,x4]):=(KEY.out _ W1.out).1.later hV;clear hV)
   | (at_builtin;refine wpList_append_own_none rfl _ _ _ rfl 0 2 i0 1 Try.underlying22 hi (.slice (some ⟨w1.heap.size,0,none⟩) 4 4) 4 _ rfl R1.out.row rfl ?_))
  go_ret
  exact⟨_,rfl,R1.out⟩
 ·have hpos:0<vv.length:=List.length_pos_iff.2 hnn
  have V1:Aside (∀W,KU kb s W→Calls Try.prog 39 #[.pointer (some ⟨kb,0,none⟩)] W fun x w'=>∃g cap,x= .returned (.slice (some ⟨g,0,none⟩) vv.length cap)∧ValsAt W w' (.slice (some ⟨g,0,none⟩) vv.length cap) vv):=fun W h=>(VV.out W h).mono (by
   rintro e w2 ⟨ov,rfl,h1,h2⟩
   rcases h1.row.2 with⟨_,h⟩|⟨g,cap,_,rfl,_⟩
   ·omega
   ·exact⟨g,cap,rfl,h1⟩)
  clear VV hnn
  refine callsB_of rfl ?_
  simp only[Try.ntmps65,List.size_toArray,List.length_cons,List.length_nil,Nat.reduceAdd,Nat.reduceSub,Array.replicate_succ,Array.replicate_zero,List.push_toArray,List.append_toArray,List.nil_append,List.cons_append]
  go_wp2_with (first
   | (go_at_call 38;refine H.out.mono ?_;rintro e w1 ⟨rfl,hw1⟩;have W1:Aside (w1.heap=w.heap):=hw1;clear hw1)
   | (go_at_call 39;refine(V1.out _ (KEY.out _ W1.out).2).mono ?_;rintro e w2 ⟨g,cap,rfl,hV⟩;have R1:Aside (ValsAt w w2 (.slice (some ⟨w1.heap.size,0,none⟩) 4 4) [x1,x2,x3,x4]):=(KEY.out _ W1.out).1.later hV;have D:Aside (w2.ownsRow 0 2 1 (.slice (some ⟨g,0,none⟩) vv.length cap) vv.length (vv.map fun v=>.int .i64 v)):=hV.row;clear hV)
   | (at_builtin;refine wpList_append_fresh rfl (.tmp 18) (.tmp 20) 22 rfl 2 i0 z0 1 8 Try.underlying22 hi hz0 hz1 hz2 hz3 (by decide) (.slice (some ⟨w1.heap.size,0,none⟩) 4 4) 4 ([x1,x2,x3,x4].map fun v=>.int .i64 v) rfl R1.out.row ⟨g,0,none⟩ vv.length cap (vv.map fun v=>.int .i64 v) rfl (by simp) (row_cells D.out) (by intro u hu;obtain⟨x,_,rfl⟩:=List.mem_map.1 hu;rfl) (by unfold maxLen;omega) (by omega) ?_;intro v' w3 hown hgrow hfr;have Z:Aside (ValsAt w w3 v' ([x1,x2,x3,x4]++vv)):=R1.out.more hown hgrow hfr;clear hown hgrow hfr))
  go_ret
  exact⟨_,rfl,Z.out⟩
end
section
variable{F:Fz}{w w':World}
theorem not_heldB{b:Nat}(h:F b=none)(k:Nat):¬held F ⟨b,k,none⟩:=by
 rintro⟨z,hz,_⟩
 rw[h]at hz
 cases hz
theorem ansW_same{ab:Nat}{b:Bool}{n:Int}{r:Nat}(hr:r≠ab):(ansW w ab b n).heap[r]? =w.heap[r]?:=by
 unfold ansW
 rw[heap_setCell_ne _ _ _ hr,heap_setCell_ne _ _ _ hr,heap_setCell_ne _ _ _ hr]
theorem plain_base{f:FuncId}(h:∃fn,Try.prog.funcs[f]? =some fn)(A:Array Value)(k:List Item):Plain ((Go.Conc.base f).at ⟨A,[]⟩ k):=⟨rfl,rfl,h⟩
theorem size2(w:World)(a b:Obj):((w.alloc a).alloc b).heap.size=w.heap.size+2:=by simp
theorem old2(w:World)(a b:Obj){r:Nat}(h:r<w.heap.size):((w.alloc a).alloc b).heap[r]? =w.heap[r]?:=by
 rw[heap_alloc_lt _ _ (by simp;omega),heap_alloc_lt _ _ h]
theorem new2(w:World)(a:Obj)(c:Array Value)(t:TypeId):((w.alloc a).alloc (.cells c t)).heap[w.heap.size+1]? =some (.cells c t (0,0)):=by
 have:=heap_alloc_new (w.alloc a) (.cells c t)
 simpa using this
end
section
variable{w w':World}{kb:Nat}
def knew(n:Nat)(tg:Bool):KSt:=⟨(List.range n).map fun i=>if i+1=n then -1 else((i+1:Nat):Int),List.replicate n 0,(-1,0),(0,0),tg⟩
theorem info129:∃i,Try.prog.info? 129=some i∧i.zero=some (.agg #[.int .i64 0,.int .i64 0])∧i.size=2∧i.bytes=16:=by
 obtain⟨i,hi,h⟩:=Option.map_eq_some_iff.1 (show(Try.prog.info? 129).map (fun i=>(i.zero,i.size,i.bytes))=some (some (.agg #[.int .i64 0,.int .i64 0]),2,16)by kernel_rfl)
 simp only[Prod.mk.injEq]at h
 exact⟨i,hi,h.1,h.2.1,h.2.2⟩
theorem mk90{n:Nat}(hn:n≤65536)(w:World):(Instr.makeSlice 90 (.int .i64 n) (.int .i64 n)).run Try.prog w= .ok (.slice (some ⟨w.heap.size,0,none⟩) n n) (w.alloc (.cells (madeCells #[.int .i64 0,.int .i64 0] (n*2)) 129)):=by
 obtain⟨i,hi,hz,hs,hb⟩:=info129
 have:=run_make (P:=Try.prog) w 90 129 i _ Try.underlying90 hi hz .i64 .i64 n n (by omega) (by omega) (by rw[hb];omega) (by omega)
 rw[hs]at this
 simpa [Value.cells]using this
theorem made_get(n k:Nat)(h:k<n*2):(madeCells #[.int .i64 0,.int .i64 0] (n*2))[k]? =some (.int .i64 0):=by
 simp only[madeCells,Array.getElem?_map,Array.getElem?_range]
 rw[if_pos h]
 have:k % 2=0∨k % 2=1:=by omega
 rcases this with e|e<;>simp[e]
structure KMk(w:World)(n k:Nat)(tg:Bool)(wr:World):Prop where
 o:wr.heap[w.heap.size+1]? =some (.cells #[.int .u64 0,.int .u64 0,.slice (some ⟨w.heap.size,0,none⟩) n n,.bool tg] 92 (0,0))
 n:∃c,wr.heap[w.heap.size]? =some (.cells c 129 (0,0))∧c.size=n*2∧∀i,i<n→c[i*2]? =some (.int .i64 (if i<k then((i+1:Nat):Int)else 0))∧c[i*2+1]? =some (.int .i64 0)
 s:wr.heap.size=w.heap.size+2
 old:∀r,r<w.heap.size→wr.heap[r]? =w.heap[r]?
theorem KMk.next{n k:Nat}{tg:Bool}{wr:World}(h:KMk w n k tg wr)(hk:k<n):KMk w n (k+1) tg (wr.setCell ⟨w.heap.size,k*2,none⟩ (.int .i64 ((k:Int)+1))):=by
 obtain⟨c,h1,h2,h3⟩:=h.n
 refine⟨(heap_setCell_ne _ _ _ (by simp)).trans h.o,⟨c.setIfInBounds (k*2) (.int .i64 ((k:Int)+1)),by rw[heap_setCell_eq h1],by simpa using h2,fun i hi=>?_⟩,by rw[World.size_setCell];exact h.s,fun r hr=>(heap_setCell_ne _ _ _ (by simp only;omega)).trans (h.old r hr)⟩
 obtain⟨e1,e2⟩:=h3 i hi
 refine⟨?_,by rw[Array.getElem?_setIfInBounds_ne (by omega)];exact e2⟩
 by_cases e:k=i
 ·subst e
  rw[Array.getElem?_setIfInBounds_self_of_lt (by omega),if_pos (by omega)]
  simp
 ·rw[Array.getElem?_setIfInBounds_ne (by omega),e1]
  by_cases e2:i<k
  ·rw[if_pos e2,if_pos (by omega)]
  ·rw[if_neg e2,if_neg (by omega)]
theorem knew_get{n:Nat}{tg:Bool}{i:Nat}(hi:i<n):(knew n tg).nx.getD i 0=(if i+1=n then -1 else((i+1:Nat):Int))∧(knew n tg).vl.getD i 0=0:=by
 simp[knew,List.getD_eq_getElem?_getD,List.getElem?_map,List.getElem?_range hi,List.getElem?_replicate,hi]
theorem knew_wf{n:Nat}(h0:0<n)(h1:n≤65536)(tg:Bool):KWf (knew n tg):=by
 refine⟨by simp[knew],by simpa [knew]using h0,by simpa [knew]using h1,fun v hv=>?_,?_,?_,fun _=>⟨rfl,rfl⟩⟩
 ·simp only[knew,List.mem_map,List.mem_range]at hv
  obtain⟨i,hi,rfl⟩:=hv
  simp only[knew,List.length_map,List.length_range]
  split<;>omega
 ·simp[knew]
  omega
 ·simp[knew]
  omega
theorem KMk.done{n:Nat}{tg:Bool}{wr:World}(h:KMk w n n tg wr)(h0:0<n)(h1:n≤65536):KU (w.heap.size+1) ⟨knew n tg,w.heap.size⟩ ((wr.setCell ⟨w.heap.size,(n - 1)*2,none⟩ (.int .i64 (-1))).setCell ⟨w.heap.size+1,1,none⟩ (.int .u64 (pk (0,0)))):=by
 obtain⟨c,h1',h2,h3⟩:=h.n
 have hm:(KS.m ⟨knew n tg,w.heap.size⟩)=n:=by simp[KS.m,knew]
 refine⟨knew_wf h0 h1 tg,?_,c.setIfInBounds ((n - 1)*2) (.int .i64 (-1)),?_,by rw[hm];simpa using h2,fun i hi=>?_⟩
 ·rw[heap_setCell_eq (show(wr.setCell ⟨w.heap.size,(n - 1)*2,none⟩ (.int .i64 (-1))).heap[w.heap.size+1]? =_ from(heap_setCell_ne _ _ _ (by simp)).trans h.o),hm]
  rfl
 ·rw[heap_setCell_ne _ _ _ (by simp),heap_setCell_eq h1']
 ·rw[hm]at hi
  obtain⟨e1,e2⟩:=h3 i hi
  obtain⟨g1,g2⟩:=knew_get (tg:=tg) hi
  refine⟨?_,?_⟩
  ·simp only
   rw[g1]
   by_cases e:i+1=n
   ·rw[if_pos e,show(n - 1)*2=i*2 by omega,Array.getElem?_setIfInBounds_self_of_lt (by omega)]
   ·rw[if_neg e,Array.getElem?_setIfInBounds_ne (by omega),e1,if_pos hi]
  ·simp only
   rw[g2,Array.getElem?_setIfInBounds_ne (by omega)]
   exact e2
theorem new_callsB{size:Int}{tg:Bool}{n:Nat}(hn:min (max size 1) 65536=(n:Int)):
 CallsB Try.prog Try.f36 #[.int .i64 size,.bool tg] w fun x w'=>x= .pointer (some ⟨w.heap.size+1,0,none⟩)∧KU (w.heap.size+1) ⟨knew n tg,w.heap.size⟩ w'∧w.heap.size+2≤w'.heap.size∧∀r,r<w.heap.size→w'.heap[r]? =w.heap[r]?:=by
 have h0:0<n:=by omega
 have h1:n≤65536:=by omega
 have hmk:=mk90 h1 w
 have M0:Aside (KMk w n 0 tg ((w.alloc (.cells (madeCells #[.int .i64 0,.int .i64 0] (n*2)) 129)).alloc (.cells #[.int .u64 0,.int .u64 0,.slice (some ⟨w.heap.size,0,none⟩) n n,.bool tg] 92))):=by
  refine⟨new2 w _ _ 92,⟨_,(heap_alloc_lt _ _ (by simp)).trans (heap_alloc_new _ _),size_madeCells _ _,fun i hi=>⟨by rw[if_neg (by omega)];exact made_get _ _ (by omega),made_get _ _ (by omega)⟩⟩,size2 _ _ _,fun r hr=>old2 _ _ _ hr⟩
 obtain⟨mx,hs1⟩:∃mx:Int,(if size<1 then(1:Int)else size)=mx:=⟨_,rfl⟩
 have hs2:(if(65536:Int)<mx then(65536:Int)else mx)=(n:Int):=by
  subst hs1
  by_cases h:size<1
  ·rw[if_pos h,if_neg (by omega)];omega
  ·rw[if_neg h];split<;>omega
 have S:Aside (∀(W:World) (k:Nat),k<n→KMk w n k tg W→Calls Try.prog 52 #[.pointer (some ⟨w.heap.size,k*2,none⟩),.int .i64 ((k:Int)+1)] W fun e w'=>e= .returned (.tuple #[])∧KMk w n (k+1) tg w'):=fun W k hk h=>by
  obtain⟨c,c1,c2,c3⟩:=h.n
  obtain⟨d1,_⟩:=c3 k hk
  refine(stI_calls (u:=_) (v:=(k:Int)+1) (by simp only[World.cell?,c1];simpa using d1) (by simp[World.frozen?,c1])).mono ?_
  rintro e w' ⟨rfl,rfl⟩
  exact⟨rfl,h.next hk⟩
 have L:Aside (∀(W:World),KMk w n n tg W→Calls Try.prog 52 #[.pointer (some ⟨w.heap.size,(n - 1)*2,none⟩),.int .i64 (-1)] W fun e w'=>e= .returned (.tuple #[])∧w'=W.setCell ⟨w.heap.size,(n - 1)*2,none⟩ (.int .i64 (-1))):=fun W h=>by
  obtain⟨c,c1,c2,c3⟩:=h.n
  obtain⟨d1,_⟩:=c3 (n - 1) (by omega)
  exact stI_calls (u:=_) (by simp only[World.cell?,c1];simpa using d1) (by simp[World.frozen?,c1])
 have N:Aside (0<n∧n≤65536):=⟨h0,h1⟩
 clear hn h0 h1
 refine callsB_of rfl ?_
 simp only[Try.ntmps36,List.size_toArray,List.length_cons,List.length_nil,Nat.reduceAdd,Nat.reduceSub,Array.replicate_succ,Array.replicate_zero,List.push_toArray,List.append_toArray,List.nil_append,List.cons_append]
 go_wp2
 clear hs1 hs2 hmk
 go_loopg [21] n (fun g i wr=>∃k:Nat,k≤n∧i= .int .i64 k∧g=n - k∧KMk w n k tg wr)
 case atStart=>exact⟨0,Nat.zero_le _,rfl,rfl,M0.out⟩
 case round=>
  obtain⟨k,hk,rfl,hg,hM⟩:=hrel
  have c2:wr.cell? ⟨w.heap.size+1,2,none⟩=some (.slice (some ⟨w.heap.size,0,none⟩) n n):=by simp[World.cell?,hM.o]
  have M:Aside (KMk w n k tg wr):=hM
  clear hM
  rcases Nat.lt_or_ge k n with hlt|hge
  ·have hlt':(k:Int)<(n:Int):=by omega
   have hwr:IntKind.i64.wrap ((k:Int)+1)=(k:Int)+1:=IntWalk.i64_in _ (by have:=N.out.2;omega)
   have G:Aside (gk=n - k∧k<n):=⟨hg,hlt⟩
   clear hg hk
   go_wp2_with (go_at_call 52;refine(S.out _ _ G.out.2 M.out).mono ?_;rintro e w1 ⟨rfl,hM1⟩;have M1:Aside (KMk w n (k+1) tg w1):=hM1;clear hM1)
   go_roundg (n - (k+1))
   case measure=>have:=G.out;omega
   case rel=>exact⟨k+1,G.out.2,rfl,rfl,M1.out⟩
  ·have e:k=n:=by omega
   subst e
   clear hg hk hge
   have hn1:(k:Int) - 1=((k - 1:Nat):Int):=by have:=N.out.1;omega
   have hwr:IntKind.i64.wrap ((k - 1:Nat):Int)=((k - 1:Nat):Int):=IntWalk.i64_in _ (by have:=N.out.2;omega)
   have hlt:k - 1<k:=by have:=N.out.1;omega
   have PK:Aside (∀W,Calls Try.prog 75 #[.int .i64 0,.int .u64 0] W fun e w'=>e= .returned (.int .u64 (pk (0,0)))∧w'=W):=fun W=>packed_calls (by omega) (by omega)
   have ST:Aside (∀W:World,W.heap=(wr.setCell ⟨w.heap.size,(k - 1)*2,none⟩ (.int .i64 (-1))).heap→Calls Try.prog 74 #[.pointer (some ⟨w.heap.size+1,1,none⟩),.int .u64 (pk (0,0))] W fun e w'=>e= .returned (.tuple #[])∧KU (w.heap.size+1) ⟨knew k tg,w.heap.size⟩ w'∧w.heap.size+2≤w'.heap.size∧∀r,r<w.heap.size→w'.heap[r]? =w.heap[r]?):=fun W hW=>by
    have ho:W.heap[w.heap.size+1]? =some (.cells #[.int .u64 0,.int .u64 0,.slice (some ⟨w.heap.size,0,none⟩) k k,.bool tg] 92 (0,0)):=by
     rw[hW,heap_setCell_ne _ _ _ (by simp)];exact M.out.o
    refine(stU_calls (u:=_) (v:=pk (0,0)) (show W.cell? ⟨w.heap.size+1,1,none⟩=some (.int .u64 0)by simp[World.cell?,ho]) (by simp[World.frozen?,ho])).mono ?_
    rintro e w' ⟨rfl,rfl⟩
    have hd:=M.out.done N.out.1 N.out.2
    refine⟨rfl,hd.heap ?_,?_,fun r hr=>?_⟩
    ·simp only[World.setCell,hW]
    ·rw[World.size_setCell,hW,World.size_setCell]
     exact Nat.le_of_eq M.out.s.symm
    ·rw[heap_setCell_ne _ _ _ (by simp only;omega),hW,heap_setCell_ne _ _ _ (by simp only;omega)]
     exact M.out.old r hr
   go_wp2_with (go_at_call 52;refine(L.out _ M.out).mono ?_;rintro e w1 ⟨rfl,rfl⟩)
   clear L S M0 c2 hlt hwr hn1
   go_region_with (first|(go_at_call 75;refine(PK.out _).mono ?_;rintro e w2 ⟨rfl,rfl⟩)|(go_at_call 74;refine(ST.out _ (by rfl)).mono ?_;rintro e w2 ⟨rfl,hZ⟩;have Z:Aside (KU (w.heap.size+1) ⟨knew k tg,w.heap.size⟩ w2∧w.heap.size+2≤w2.heap.size∧∀r,r<w.heap.size→w2.heap[r]? =w.heap[r]?):=hZ;clear hZ))
   go_wp2
   go_ret
   exact⟨_,rfl,rfl,Z.out⟩
end
noncomputable section
variable{F:Fz}{w:World}
theorem callable36:Callable 36:=callable Try.func36 rfl rfl
theorem callable65:Callable 65:=callable Try.func65 rfl rfl
theorem tr_newkpl(X:World)(x y z u x' y' z' u':Value):((((X.alloc (.cells #[x,y,z,u] 31)).setCell ⟨X.heap.size,0,none⟩ x').setCell ⟨X.heap.size,1,none⟩ y').setCell ⟨X.heap.size,2,none⟩ z').setCell ⟨X.heap.size,3,none⟩ u'=X.alloc (.cells #[x',y',z',u'] 31):=by go_simp
def kplBody:Code:=Try.f34.body.getD .skip
def kpls0:=pC [] kplBody
def kplr0:=pC [zt] kplBody
def kpls1:=pC [zf] kplBody
def kplr1:=pC [zf,zt] kplBody
def kpls2:=pC [zf,zf] kplBody
def kplr2:=pC [zf,zf,zt] kplBody
def kpls3:=pC [zf,zf,zf] kplBody
def kplr3:=pC [zf,zf,zf,zt] kplBody
def kpls4:=pC [zf,zf,zf,zf] kplBody
def kplr4:=pC [zf,zf,zf,zf,zt] kplBody
theorem kpls0':kpls0= .seq kplr0 kpls1:=by kernel_rfl
theorem kplr0':kplr0= .region 0 (oC kplr0) false:=by kernel_rfl
theorem kpls1':kpls1= .seq kplr1 kpls2:=by kernel_rfl
theorem kplr1':kplr1= .region 1 (oC kplr1) false:=by kernel_rfl
theorem kpls2':kpls2= .seq kplr2 kpls3:=by kernel_rfl
theorem kplr2':kplr2= .region 2 (oC kplr2) false:=by kernel_rfl
theorem kpls3':kpls3= .seq kplr3 kpls4:=by kernel_rfl
theorem kplr3':kplr3= .region 3 (oC kplr3) false:=by kernel_rfl
theorem kpls4':kpls4= .seq kplr4 .ret:=by kernel_rfl
theorem kplr4':kplr4= .region 4 (oC kplr4) false:=by kernel_rfl
theorem enter_kpl(args:Array Value):Frame.enter Try.prog 34 args .normal=(Go.Conc.base 34).at {tmps:=args++Array.replicate (26 - args.size) undef,defers:=[]} [.code kpls0]:=enter_at args Try.func34 rfl
theorem callable34:Callable 34:=callable Try.func34 rfl rfl
def kplT(s:Nat→Value):Array Value:= #[s 0,s 1,s 2,s 3,s 4,s 5,s 6,s 7,s 8,s 9,s 10,s 11,s 12,s 13,s 14,s 15,s 16,s 17,s 18,s 19,s 20,s 21,s 22,s 23,s 24,s 25]
theorem kplT_of{A:Array Value}(h:A.size=26):∃s,A=kplT s:=by
 obtain⟨s,hs,_⟩:=arr_lit A h
 exact⟨s,hs⟩
theorem kpl_0{n:Nat}(hU:Under F n)(hn:n≤w.heap.size){size mo:Int}{tg:Bool}{ta sa:Option Addr}{tl tc sl sc:Nat}{cs:List Frame}{main:Bool}{Stop:Goroutine→World→Prop}
 (h:∀A,Slots 26 A [(0,.int .i64 size),(1,.bool tg),(2,.slice ta tl tc),(3,.slice sa sl sc),(4,.int .i64 mo),(10,.pointer (some ⟨w.heap.size,0,none⟩))]→Own Try.prog main F Stop (G (Frame.enter Try.prog 36 #[.int .i64 size,.bool tg] .normal) (((Go.Conc.base 34).at ⟨A,[]⟩ [.inRegion (oC kplr1) [2,3],.code kpls2])::cs)) (w.alloc (.cells #[.slice none 0 0,.slice none 0 0,.slice none 0 0,.bool false] 31))):
 Own Try.prog main F Stop (G (Frame.enter Try.prog 34 #[.int .i64 size,.bool tg,.slice ta tl tc,.slice sa sl sc,.int .i64 mo] .normal) cs) w:=by
 rw[enter_kpl]
 walk_nrm
 refine ogSR kpls0' kplr0' ?_
 simp only[kplr0,kplBody,Try.f34,zz,Nat.reduceAdd]
 (refine oW fun dd K hK=>?_;go_simp;refine qA hK hU ?_;clear hK K)
 refine ogE ?_
 refine ogSR kpls1' kplr1' ?_
 simp only[kplr1,kplBody,Try.f34,zz,Nat.reduceAdd]
 iterate 2 (refine oW fun dd K hK=>?_;go_simp;refine qT hK ?_;clear hK K)
 refine oc callable36 #[.int .i64 size,.bool tg] ?_
 refine h _ ?_
 exact⟨rfl,rfl,rfl,rfl,rfl,rfl,rfl,trivial⟩
theorem kpl_1{kb rb:Nat}{size mo:Int}{tg:Bool}{ta sa:Option Addr}{tl tc sl sc:Nat}{A:Array Value}(hA:Slots 26 A [(0,.int .i64 size),(1,.bool tg),(2,.slice ta tl tc),(3,.slice sa sl sc),(4,.int .i64 mo),(10,.pointer (some ⟨rb,0,none⟩))]){cs:List Frame}{main:Bool}{Stop:Goroutine→World→Prop}
 (h:∀A,Slots 26 A [(10,.pointer (some ⟨rb,0,none⟩)),(11,.pointer (some ⟨kb,0,none⟩))]→Own Try.prog main F Stop (G (Frame.enter Try.prog 47 #[.slice ta tl tc,.func (.func 64) #[.pointer (some ⟨kb,0,none⟩)] #[],.slice sa sl sc,.int .i64 mo] .normal) (((Go.Conc.base 34).at ⟨A,[]⟩ [.inRegion (oC kplr2) [5,6,7],.code kpls3])::cs)) w):
 Own Try.prog main F Stop (G (((Go.Conc.base 34).at ⟨A,[]⟩ [.inRegion (oC kplr1) [2,3],.code kpls2]).finish (.pointer (some ⟨kb,0,none⟩))) cs) w:=by
 obtain⟨hsz,h0,h1,h2,h3,h4,h10,_⟩:=hA
 obtain⟨s,rfl⟩:=kplT_of hsz
 change s 0=_ at h0
 change s 1=_ at h1
 change s 2=_ at h2
 change s 3=_ at h3
 change s 4=_ at h4
 change s 10=_ at h10
 clear hsz
 simp only[kplT,h0,h1,h2,h3,h4,h10]
 clear h0 h1 h2 h3 h4 h10
 rw[Frame.finish_at]
 simp only[kplr1,kplBody,Try.f34,zz,Nat.reduceAdd]
 walk_nrm
 (refine oW fun dd K hK=>?_;go_simp;refine qT hK ?_;clear hK K)
 refine ogE ?_
 refine ogSR kpls2' kplr2' ?_
 simp only[kplr2,kplBody,Try.f34,zz,Nat.reduceAdd]
 iterate 5 (refine oW fun dd K hK=>?_;go_simp;refine qT hK ?_;clear hK K)
 refine oc callable47 #[.slice ta tl tc,.func (.func 64) #[.pointer (some ⟨kb,0,none⟩)] #[],.slice sa sl sc,.int .i64 mo] ?_
 refine h _ ?_
 exact⟨rfl,rfl,rfl,trivial⟩
theorem kpl_2{n:Nat}(hU:Under F n)(hn:n≤w.heap.size){kb rb:Nat}{aa oa:Option Addr}{al ac ol oz:Nat}{st:Bool}{A:Array Value}(hA:Slots 26 A [(10,.pointer (some ⟨rb,0,none⟩)),(11,.pointer (some ⟨kb,0,none⟩))]){cs:List Frame}{main:Bool}{Stop:Goroutine→World→Prop}
 (h:∀A,Slots 26 A [(10,.pointer (some ⟨rb,0,none⟩)),(12,.pointer (some ⟨w.heap.size,0,none⟩))]→Own Try.prog main F Stop (G (Frame.enter Try.prog 65 #[.pointer (some ⟨kb,0,none⟩)] .normal) (((Go.Conc.base 34).at ⟨A,[]⟩ [.inRegion (oC kplr3) [1,2,3],.code kpls4])::cs)) (w.alloc (.cells #[.slice aa al ac,.slice oa ol oz,.slice none 0 0,.bool st] 31))):
 Own Try.prog main F Stop (G (((Go.Conc.base 34).at ⟨A,[]⟩ [.inRegion (oC kplr2) [5,6,7],.code kpls3]).finish (.agg #[.slice aa al ac,.slice oa ol oz,.slice none 0 0,.bool st])) cs) w:=by
 obtain⟨hsz,h10,h11,_⟩:=hA
 obtain⟨s,rfl⟩:=kplT_of hsz
 change s 10=_ at h10
 change s 11=_ at h11
 clear hsz
 simp only[kplT,h10,h11]
 clear h10 h11
 rw[Frame.finish_at]
 simp only[kplr2,kplBody,Try.f34,zz,Nat.reduceAdd]
 walk_nrm
 (refine oW fun dd K hK=>?_;go_simp;refine qA hK hU ?_;clear hK K)
 (refine oW fun dd K hK=>?_;go_simp;refine hK _ _ ⟨⟨⟨0,grew4 (fun k=>not_held hU (show n≤w.heap.size by omega)) _ _ _ _⟩,fun e he=>by(have hm:=mem_listed he;clear he hK;simp[go_sem,storedEv]at hm;rcases hm with rfl|rfl|rfl|rfl<;>exact evT_write _ _ ((fun k=>not_held hU (show n≤w.heap.size by omega)) _))⟩,?_⟩;clear hK K;simp only[setCell_at'];refine Own.at ?_ dd)
 have e1:=tr_newkpl w (.slice none 0 0) (.slice none 0 0) (.slice none 0 0) (.bool false) (.slice aa al ac) (.slice oa ol oz) (.slice none 0 0) (.bool st)
 rw[e1]
 clear e1
 refine ogE ?_
 refine ogSR kpls3' kplr3' ?_
 simp only[kplr3,kplBody,Try.f34,zz,Nat.reduceAdd]
 (refine oW fun dd K hK=>?_;go_simp;refine qT hK ?_;clear hK K)
 refine oc callable65 #[.pointer (some ⟨kb,0,none⟩)] ?_
 refine h _ ?_
 exact⟨rfl,rfl,rfl,trivial⟩
theorem kpl_3{rb tb:Nat}{aa oa:Option Addr}{al ac ol oz xl xc:Nat}{xa:Option Addr}{st:Bool}{y0 y1 y2 y3:Value}(hne:rb≠tb)(hR:TrAt w rb y0 y1 y2 y3)(hT:TrAt w tb (.slice aa al ac) (.slice oa ol oz) (.slice none 0 0) (.bool st))(hnr:∀k,¬held F ⟨rb,k,none⟩)(hnt:∀k,¬held F ⟨tb,k,none⟩){A:Array Value}(hA:Slots 26 A [(10,.pointer (some ⟨rb,0,none⟩)),(12,.pointer (some ⟨tb,0,none⟩))]){c:Frame}{cs:List Frame}{main:Bool}{Stop:Goroutine→World→Prop}
 (h:Own Try.prog main F Stop (G (c.finish (.agg #[.slice aa al ac,.slice oa ol oz,.slice xa xl xc,.bool st])) cs) (trW (w.setCell ⟨tb,2,none⟩ (.slice xa xl xc)) rb (.slice aa al ac) (.slice oa ol oz) (.slice xa xl xc) (.bool st))):
 Own Try.prog main F Stop (G (((Go.Conc.base 34).at ⟨A,[]⟩ [.inRegion (oC kplr3) [1,2,3],.code kpls4]).finish (.slice xa xl xc)) (c::cs)) w:=by
 obtain⟨hsz,h10,h12,_⟩:=hA
 obtain⟨s,rfl⟩:=kplT_of hsz
 change s 10=_ at h10
 change s 12=_ at h12
 clear hsz
 simp only[kplT,h10,h12]
 clear h10 h12
 rw[Frame.finish_at]
 simp only[kplr3,kplBody,Try.f34,zz,Nat.reduceAdd]
 walk_nrm
 (refine oW fun dd K hK=>?_;go_simp;refine qT hK ?_;clear hK K)
 (refine oW fun dd K hK=>?_;have hc2:=(hT.at dd).c2;have hz0:=(hT.at dd).z;go_simp;refine hK _ _ ⟨⟨⟨0,grew_setCell rfl (hnt 2) _⟩,fun e he=>by(have hm:=mem_listed he;clear he hK;simp[go_sem,storedEv,hc2,hz0]at hm;subst hm;exact evT_write _ _ (hnt 2))⟩,?_⟩;clear hK K hc2 hz0;rw[setCell_at'];refine Own.at ?_ dd)
 have hT2:TrAt (w.setCell ⟨tb,2,none⟩ (.slice xa xl xc)) tb (.slice aa al ac) (.slice oa ol oz) (.slice xa xl xc) (.bool st):=⟨by rw[heap_setCell_eq hT.o];rfl⟩
 have hR2:TrAt (w.setCell ⟨tb,2,none⟩ (.slice xa xl xc)) rb y0 y1 y2 y3:=⟨(heap_setCell_ne _ _ _ hne).trans hR.o⟩
 generalize w.setCell ⟨tb,2,none⟩ (.slice xa xl xc)=W at hT2 hR2 h ⊢
 refine ogE ?_
 refine ogSR kpls4' kplr4' ?_
 simp only[kplr4,kplBody,Try.f34,zz,Nat.reduceAdd]
 (refine oW fun dd K hK=>?_;have hc0:=(hT2.at dd).c0;have hc1:=(hT2.at dd).c1;have hc2:=(hT2.at dd).c2;have hc3:=(hT2.at dd).c3;have hz0:=(hT2.at dd).z;go_simp;refine hK _ _ ⟨⟨⟨0,Grew.refl _ _⟩,fun e he=>by(have hm:=mem_listed he;clear he hK;simp[go_sem,hc0,hc1,hc2,hc3,hz0]at hm;rcases hm with rfl|rfl|rfl|rfl<;>exact evT_read _ _)⟩,Own.at ?_ dd⟩;clear hK K hc0 hc1 hc2 hc3 hz0)
 (refine oW fun dd K hK=>?_;have hc0:=(hR2.at dd).c0;have hc1:=(hR2.at dd).c1;have hc2:=(hR2.at dd).c2;have hc3:=(hR2.at dd).c3;have hz0:=(hR2.at dd).z;go_simp;refine hK _ _ ⟨⟨⟨0,grew4 hnr _ _ _ _⟩,fun e he=>by(have hm:=mem_listed he;clear he hK;simp[go_sem,storedEv,hc0,hc1,hc2,hc3,hz0]at hm;rcases hm with rfl|rfl|rfl|rfl<;>exact evT_write _ _ (hnr _))⟩,?_⟩;clear hK K hc0 hc1 hc2 hc3 hz0;simp only[setCell_at'];refine Own.at ?_ dd)
 refine ogE ?_
 refine ogX ?_
 have hT3:=hR2.put (.slice aa al ac) (.slice oa ol oz) (.slice xa xl xc) (.bool st)
 change Own _ _ _ _ _ (trW W rb (.slice aa al ac) (.slice oa ol oz) (.slice xa xl xc) (.bool st))
 generalize (trW W rb (.slice aa al ac) (.slice oa ol oz) (.slice xa xl xc) (.bool st))=V at hT3 h ⊢
 have hc0:=hT3.c0
 have hc1:=hT3.c1
 have hc2:=hT3.c2
 have hc3:=hT3.c3
 have hz0:=hT3.z
 refine own_leave (fn:=Try.f34) (v:=.agg #[.slice aa al ac,.slice oa ol oz,.slice xa xl xc,.bool st]) rfl rfl Try.func34 (fun d=>by simp[results,Try.f34,go_sem,hc0,hc1,hc2,hc3,hz0]) (fun d e he=>by simp[results,Try.f34,go_sem,hc0,hc1,hc2,hc3,hz0]at he;rcases he with rfl|rfl|rfl|rfl<;>exact evT_read _ _) ?_
 exact h
end
section
variable{P:Program}
theorem wf_E0(w:World):Wf F0 w:=⟨fun r z h=>by cases h⟩
theorem res_any{fn:Func}{t:Array Value}{w:World}{τ:Tape}{e:Nat}{v:Value}(h:(results fn t).run P (retape w τ e)= .ok v (retape w τ e))(d:Nat):
 (results fn t).run P (w.at d)= .ok v (w.at d)∧∀x∈(results fn t).events P (w.at d) #[],EvT F0 x:=by
 obtain⟨w1,es,j,hu,r1,e1,t1,g1,hw1,l1⟩:=(results_sims (P:=P) (F:=F0) fn t (retape w τ e) (wf_E0 _)).ok (by rw[mask_none (fun _=>rfl)];exact h)
 rw[mask_none (fun _=>rfl)]at hu
 subst hu
 have hj:j=0:=by
  have:=g1.drawn
  omega
 subst hj
 have h2:=l1 (w.at d).tape (w.at d).drawn (by intro i q hi;omega)
 rw[mask_none (fun _=>rfl)]at h2
 have h3:(results fn t).run P (w.at d)= .ok v (w.at d):=h2
 refine⟨h3,fun x hx=>?_⟩
 obtain⟨w2,es2,j2,hu2,r2,e2,t2,g2,hw2,l2⟩:=(results_sims (P:=P) (F:=F0) fn t (w.at d) (wf_E0 _)).ok (by rw[mask_none (fun _=>rfl)];exact h3)
 rw[e2]at hx
 exact t2 x (by simpa using hx)
theorem own_callB{S:FuncId→Bool}(hC:Closed P S true)(hE:NoEarly P){f:Nat}{fn:Func}{c:Code}(hf:P.funcs[f]? =some fn)(hb:fn.body=some c)(hc:codeOk P S true c=true){args:Array Value}{w:World}{R:Value→World→Prop}
 (H:∀τ e,CallsB P fn args (retape w τ e) R) {cl:Frame} {cs:List Frame} {main:Bool} {Stop:Goroutine→World→Prop}
 (K:∀v w' τ e,R v (retape w' τ e)→Gd F0 w w'→Own P main F0 Stop (G (cl.finish v) cs) w'):Own P main F0 Stop (G (Frame.enter P f args .normal) (cl::cs)) w:=by
 let b:Frame:={(default:Frame)with fn:=f,kind:=.normal}
 have henter:Frame.enter P f args .normal=b.at {tmps:=args++Array.replicate (fn.ntmps - args.size) undef,defers:=[]} [.code c]:=by
  simp[Frame.enter,Frame.at,hf,hb,b]
 rw[henter]
 have back:∀(a':Act) (w':World) (t':List Item) (τ:Tape) (e:Nat),a'.defers=[]→(∃v,(results fn a'.tmps).run P (retape (mask F0 w') τ e)= .ok v (retape (mask F0 w') τ e)∧∃v',Ending.returned v= .returned v'∧R v' (retape (mask F0 w') τ e))→Gd F0 w w'→
  Own P main F0 Stop (G {b.at a' t' with mode:=.returning} (cl::cs)) w':=fun a' w' t' τ e hd ⟨v,h1,v',h2,h3⟩ hg=>by
  cases h2
  rw[mask_none (fun _=>rfl)]at h1 h3
  exact own_leave rfl hd hf (fun d=>(res_any h1 d).1) (fun d x hx=>(res_any h1 d).2 x hx) (K _ _ τ e h3 hg)
 refine lift (Q:=bodyPost P fn fun x w'=>∃v,x= .returned v∧R v w') hC (fun _ _=>rfl) hE hc (wf_E0 w) rfl (fun e a w hq=>?_) (fun τ e=>?_) (by simp[b]) (fun a' w' τ e hq _ hg=>?_) (fun a' w' τ e t' hq _ hg=>?_)
 ·cases e with
  | normal=>exact .inl rfl
  | ret=>exact .inr ⟨rfl,hq.1⟩
  | panic ch=>obtain⟨_,v,h,_⟩:=hq;cases h
  | outgrown=>obtain⟨v,h,_⟩:=hq;cases h
  | exit _=>exact hq.elim
  | goto _=>exact hq.elim
 ·rw[mask_none (fun _=>rfl)]
  exact H τ e c hb
 ·obtain⟨hd,h⟩:=hq
  have:b.at a' []=b.at ⟨a'.tmps,[]⟩ []:=by rw[← hd]
  rw[this]
  refine own_go rfl (fun d=>stepG_end) ?_
  exact back ⟨a'.tmps,[]⟩ w' [] τ e rfl h hg
 ·obtain⟨hd,h⟩:=hq
  exact back a' w' _ τ e hd h hg
def codeOkF(P:Program)(S:FuncId→Bool)(f:FuncId):Bool:=match P.funcs[f]? with
 | some fn => !(fn.name == "runtime.NumGoroutine") && match fn.body with
   | some c=>codeOk P S true c
   | none=>false
 | none=>false
theorem codeOkF_of {P : Program} {S : FuncId → Bool} {f : FuncId} (h : codeOkF P S f = true) : ∃ fn, P.funcs[f]? = some fn ∧ (fn.name == "runtime.NumGoroutine") = false ∧ ∃ c, fn.body = some c ∧ codeOk P S true c = true := by
 unfold codeOkF at h
 split at h
 ·rename_i fn hf
  rw[Bool.and_eq_true]at h
  obtain⟨h1,h2⟩:=h
  split at h2
  ·rename_i c hc
   exact⟨fn,hf,by simpa using h1,c,hc,h2⟩
  ·cases h2
 ·cases h
theorem closed_of{l:List Nat}(h:l.all (codeOkF P fun f=>l.contains f)=true):Closed P (fun f=>l.contains f) true:=fun f hf=>by
 obtain⟨fn,h1,h2,c,h3,h4⟩:=codeOkF_of (List.all_eq_true.1 h f (List.contains_iff_mem.1 hf))
 exact⟨fn,h1,h2,.inl ⟨c,h3,h4⟩⟩
theorem own_piece{S:FuncId→Bool}(hC:Closed P S true)(hE:NoEarly P){c:Code}(hc:codeOk P S true c=true){A:Array Value}{w:World}{R:Array Value→World→Prop}{b:Frame}{k:List Item}(hk:b.kind≠.early)
 (H:∀τ e,c.wp P (nrm fun a w=>a.defers=[]∧R a.tmps w) ⟨A,[]⟩ (retape w τ e)) {cs:List Frame} {main:Bool} {Stop:Goroutine→World→Prop}
 (K:∀A' w' τ e,R A' (retape w' τ e)→Gd F0 w w'→Own P main F0 Stop (G (b.at ⟨A',[]⟩ k) cs) w'):Own P main F0 Stop (G (b.at ⟨A,[]⟩ (.code c::k)) cs) w:=by
 refine lift (Q:=nrm fun a w=>a.defers=[]∧R a.tmps w) hC (fun _ _=>rfl) hE hc (wf_E0 w) rfl (fun e a w hq=>?_) (fun τ e=>?_) hk (fun a' w' τ e hq _ hg=>?_) (fun a' w' τ e t' hq _ hg=>?_)
 ·cases e with
  | normal=>exact .inl rfl
  | _=>exact hq.elim
 ·rw[mask_none (fun _=>rfl)]
  exact H τ e
 ·obtain⟨hd,h⟩:=hq
  rw[mask_none (fun _=>rfl)]at h
  obtain⟨tm,df⟩:=a'
  simp only at hd
  subst hd
  exact K tm w' τ e h hg
 ·exact hq.elim
end
section
structure ExtOk(P:Program)(f:FuncId):Prop where
 e : ∃ fn, P.funcs[f]? = some fn ∧ (fn.name == "runtime.NumGoroutine") = false ∧ fn.body = none ∧ Extern.findNext fn = none ∧ ∃ x, Extern.find fn = some x ∧ Entry P true x
theorem closed_ofX{P:Program}{l x:List Nat}(hx:∀f∈x,ExtOk P f)(h:l.all (fun f=>x.contains f || codeOkF P (fun f=>l.contains f) f)=true):Closed P (fun f=>l.contains f) true:=fun f hf=>by
 have h1:=List.all_eq_true.1 h f (List.contains_iff_mem.1 hf)
 rw[Bool.or_eq_true]at h1
 rcases h1 with h1|h1
 ·obtain⟨fn,a1,a2,a3,a4,y,a5,a6⟩:=(hx f (List.contains_iff_mem.1 h1)).e
  exact⟨fn,a1,a2,.inr ⟨a3,a4,y,a5,a6⟩⟩
 ·obtain⟨fn,a1,a2,c,a3,a4⟩:=codeOkF_of h1
  exact⟨fn,a1,a2,.inl ⟨c,a3,a4⟩⟩
theorem ext_load {f : FuncId} {fn : Func} {t : Extern.Atomic.T} (h1 : Try.prog.funcs[f]? = some fn) (h2 : (fn.name == "runtime.NumGoroutine") = false) (h3 : fn.body = none) (h4 : Extern.findNext fn = none) (h5 : Extern.find fn = some (Extern.Atomic.loadT t)) : ExtOk Try.prog f :=
 ⟨fn,h1,h2,h3,h4,_,h5,fun F _ args=>Sims.loadT t args⟩
theorem ext_store {f : FuncId} {fn : Func} (h1 : Try.prog.funcs[f]? = some fn) (h2 : (fn.name == "runtime.NumGoroutine") = false) (h3 : fn.body = none) (h4 : Extern.findNext fn = none) (h5 : Extern.find fn = some Extern.Atomic.storeT) : ExtOk Try.prog f :=
 ⟨fn,h1,h2,h3,h4,_,h5,fun F _ args=>Sims.storeT args⟩
theorem ext_cas {f : FuncId} {fn : Func} {t : Extern.Atomic.T} (h1 : Try.prog.funcs[f]? = some fn) (h2 : (fn.name == "runtime.NumGoroutine") = false) (h3 : fn.body = none) (h4 : Extern.findNext fn = none) (h5 : Extern.find fn = some (Extern.Atomic.casT t)) : ExtOk Try.prog f :=
 ⟨fn,h1,h2,h3,h4,_,h5,fun F hF args=>Sims.casT t (hF rfl) args⟩
theorem ext87:ExtOk Try.prog 87:=ext_store Try.func87 (by kernel_rfl) (by kernel_rfl) (by kernel_rfl) (by kernel_rfl)
theorem ext88:ExtOk Try.prog 88:=ext_load (t:=.int .i64) Try.func88 (by kernel_rfl) (by kernel_rfl) (by kernel_rfl) (by kernel_rfl)
theorem ext96:ExtOk Try.prog 96:=ext_store Try.func96 (by kernel_rfl) (by kernel_rfl) (by kernel_rfl) (by kernel_rfl)
theorem ext97:ExtOk Try.prog 97:=ext_load (t:=.int .u64) Try.func97 (by kernel_rfl) (by kernel_rfl) (by kernel_rfl) (by kernel_rfl)
theorem ext113:ExtOk Try.prog 113:=ext_cas (t:=.int .i64) Try.func113 (by kernel_rfl) (by kernel_rfl) (by kernel_rfl) (by kernel_rfl)
theorem ext114:ExtOk Try.prog 114:=ext_cas (t:=.int .u64) Try.func114 (by kernel_rfl) (by kernel_rfl) (by kernel_rfl) (by kernel_rfl)
theorem extA:∀f∈[87,88,96,97,113,114],ExtOk Try.prog f:=by
 intro f hf
 simp only[List.mem_cons,List.not_mem_nil,or_false]at hf
 rcases hf with rfl|rfl|rfl|rfl|rfl|rfl
 ·exact ext87
 ·exact ext88
 ·exact ext96
 ·exact ext97
 ·exact ext113
 ·exact ext114
def kFns:List Nat:=[36,38,39,65,52,54,74,75,76,77,87,88,96,97]
theorem closedK:Closed Try.prog (fun f=>kFns.contains f) true:=closed_ofX extA (by kernel_rfl)
theorem CallsB.mono{P:Program}{fn:Func}{args:Array Value}{w:World}{R R':Value→World→Prop}(h:CallsB P fn args w R)(hr:∀v u,R v u→R' v u):CallsB P fn args w R':=fun c hc=>by
 refine Code.wp_mono (fun e a u hq=>?_) (h c hc)
 cases e with
 | normal=>obtain⟨h1,v,h2,v',h3,h4⟩:=hq;exact⟨h1,v,h2,v',h3,hr _ _ h4⟩
 | ret=>obtain⟨h1,v,h2,v',h3,h4⟩:=hq;exact⟨h1,v,h2,v',h3,hr _ _ h4⟩
 | panic ch=>obtain⟨h1,v',h3,h4⟩:=hq;exact⟨h1,v',h3,hr _ _ h4⟩
 | outgrown=>obtain⟨v',h3,h4⟩:=hq;exact⟨v',h3,hr _ _ h4⟩
 | exit _=>exact hq
 | goto _=>exact hq
variable{w w':World}{kb:Nat}
theorem own_knew{size:Int}{tg:Bool}{n:Nat}(hn:min (max size 1) 65536=(n:Int)){c:Frame}{cs:List Frame}{main:Bool}{Stop:Goroutine→World→Prop}
 (K:∀w1,KU (w.heap.size+1) ⟨knew n tg,w.heap.size⟩ w1→w.heap.size+2≤w1.heap.size→(∀r,r<w.heap.size→w1.heap[r]? =w.heap[r]?)→Own Try.prog main F0 Stop (G (c.finish (.pointer (some ⟨w.heap.size+1,0,none⟩))) cs) w1):
 Own Try.prog main F0 Stop (G (Frame.enter Try.prog 36 #[.int .i64 size,.bool tg] .normal) (c::cs)) w:=by
 refine own_callB closedK prog_late Try.func36 rfl (by kernel_rfl) (R:=fun x w'=>x= .pointer (some ⟨w.heap.size+1,0,none⟩)∧KU (w.heap.size+1) ⟨knew n tg,w.heap.size⟩ w'∧w.heap.size+2≤w'.heap.size∧∀r,r<w.heap.size→w'.heap[r]? =w.heap[r]?) (fun τ e=>new_callsB (w:=retape w τ e) hn) fun v w' τ e hR hg=>?_
 obtain⟨rfl,h1,h2,h3⟩:=hR
 exact K w' (h1.heap rfl) h2 h3
theorem own_heads{s:KS}(hU:KU kb s w){c:Frame}{cs:List Frame}{main:Bool}{Stop:Goroutine→World→Prop}
 (K:∀w1,w1.heap=w.heap→Own Try.prog main F0 Stop (G (c.finish (.tuple #[.int .i64 s.k.hd.1,.int .i64 s.k.hd.2,.int .i64 s.k.fr.1,.int .i64 s.k.fr.2])) cs) w1):
 Own Try.prog main F0 Stop (G (Frame.enter Try.prog 38 #[.pointer (some ⟨kb,0,none⟩)] .normal) (c::cs)) w:=by
 refine own_callB closedK prog_late Try.func38 rfl (by kernel_rfl) (R:=fun v w'=>v=(.tuple #[.int .i64 s.k.hd.1,.int .i64 s.k.hd.2,.int .i64 s.k.fr.1,.int .i64 s.k.fr.2])∧w'.heap=w.heap) (fun τ e=>heads_callsB (w:=retape w τ e) (hU.heap rfl)) fun v w' τ e hR hg=>?_
 obtain⟨rfl,h⟩:=hR
 exact K w' h
theorem own_kstate{s:KS}(hU:KU kb s w){c:Frame}{cs:List Frame}{main:Bool}{Stop:Goroutine→World→Prop}
 (K:∀w1 ov,ValsAt w w1 ov ([s.k.hd.1,s.k.hd.2,s.k.fr.1,s.k.fr.2]++s.k.vals)→Own Try.prog main F0 Stop (G (c.finish ov) cs) w1):
 Own Try.prog main F0 Stop (G (Frame.enter Try.prog 65 #[.pointer (some ⟨kb,0,none⟩)] .normal) (c::cs)) w:=by
 refine own_callB closedK prog_late Try.func65 rfl (by kernel_rfl) (R:=fun ov w'=>ValsAt w w' ov ([s.k.hd.1,s.k.hd.2,s.k.fr.1,s.k.fr.2]++s.k.vals)) (fun τ e=>(state_callsB (w:=retape w τ e) (hU.heap rfl)).mono fun v u h=>⟨h.row,h.size,h.old,h.new⟩) fun v w' τ e hR hg=>?_
 exact K w' v ⟨ownsRow_same2 hR.row fun _ _ _=>rfl,hR.size,hR.old,hR.new⟩
end
noncomputable section
variable{F:Fz}{w w':World}{kb st:Nat}
def ktkIt(ph:Nat):List Item:=match ph with
 | 1=>[.inRegion (oC ktkr1) [1],.code ktks3,.inBlock 1,.inLoop ktkb1,.inBlock 0]
 | 2=>[.inRegion (oC ktkr6) [1],.code ktks9,.inBlock 1,.inLoop ktkb1,.inBlock 0]
 | _=>[.inRegion (oC ktkr8) [1],.code ktks11,.inBlock 1,.inLoop ktkb1,.inBlock 0]
def kgvIt(ph:Nat):List Item:=match ph with
 | 1=>[.inRegion (oC kgvr0) [1],.code kgvs2,.inBlock 1,.inLoop kgvb1,.inBlock 0]
 | 2=>[.inRegion (oC kgvr2) [1],.code kgvs4,.inBlock 1,.inLoop kgvb1,.inBlock 0]
 | _=>[.inRegion (oC kgvr4) [1],.code kgvs6,.inBlock 1,.inLoop kgvb1,.inBlock 0]
def kpuIt(ph:Nat):List Item:=match ph with
 | 1=>[.inRegion (oC kpur3) [5,6,7,8,9,10],.code kpus5]
 | 2=>[.inRegion (oC kpur6) [1],.code kpus9]
 | _=>[.inRegion (oC kpur8) [6],.code kpus11]
def kpoIt(ph:Nat):List Item:=match ph with
 | 1=>[.inRegion (oC kpor3) [5,6,7,8,9,10],.code kpos5]
 | 2=>[.inRegion (oC kpor6) [1],.code kpos9]
 | _=>[.inRegion (oC kpor8) [6],.code kpos11]
def kpeIt(ph:Nat):List Item:=match ph with
 | 1=>[.inRegion (oC kper3) [1],.code kpes5]
 | 2=>[.inRegion (oC kper6) [1],.code kpes11,.inBlock 1,.inLoop kpes8,.inBlock 0,.code kpes17]
 | _=>[.inRegion (oC kper8) [1],.code kpes13,.inBlock 1,.inLoop kpes8,.inBlock 0,.code kpes17]
def kemIt(ph:Nat):List Item:=match ph with
 | _=>[.inRegion (oC kemr3) [1],.code kems5]
def kdoIt(ph:Nat):List Item:=match ph with
 | 1=>[.inRegion (oC kdor3) [4,5,6],.code .ret,.inBlock 0,.code kdos13]
 | 2=>[.inRegion (oC kdor5) [2,3,4,5,6,7],.code kdos7,.inBlock 0,.code kdos13]
 | 3=>[.inRegion (oC kdor8) [2,3,4,5,6,7],.code kdos10,.inBlock 0,.code kdos13]
 | _=>[.inRegion (oC kdor11) [2,3,4],.code .ret,.inBlock 0,.code kdos13]
structure KC where
 c:KCl
 A:Array Value
 A1:Array Value
 A2:Array Value
 ab:Nat
def KC.tk(c:KC)(ph:Nat):Frame:=(Go.Conc.base 78).at ⟨c.A,[]⟩ (ktkIt ph)
def KC.gv(c:KC)(ph:Nat):Frame:=(Go.Conc.base 80).at ⟨c.A,[]⟩ (kgvIt ph)
def KC.pu(c:KC)(ph:Nat):Frame:=(Go.Conc.base 45).at ⟨c.A1,[]⟩ (kpuIt ph)
def KC.po(c:KC)(ph:Nat):Frame:=(Go.Conc.base 43).at ⟨c.A1,[]⟩ (kpoIt ph)
def KC.pe(c:KC)(ph:Nat):Frame:=(Go.Conc.base 44).at ⟨c.A1,[]⟩ (kpeIt ph)
def KC.em(c:KC):Frame:=(Go.Conc.base 46).at ⟨c.A1,[]⟩ (kemIt 1)
def KC.do(c:KC)(ph:Nat):Frame:=(Go.Conc.base 64).at ⟨c.A2,[]⟩ (kdoIt ph)
def KC.fr(c:KC):List Frame:=match c.c.pc with
 | 10=>[c.tk 1,c.pu 1,c.do 1]
 | 11=>[c.tk 2,c.pu 1,c.do 1]
 | 12=>[c.tk 3,c.pu 1,c.do 1]
 | 13=>[c.pu 2,c.do 1]
 | 14=>[c.gv 1,c.pu 3,c.do 1]
 | 15=>[c.gv 2,c.pu 3,c.do 1]
 | 16=>[c.gv 3,c.pu 3,c.do 1]
 | 20=>[c.tk 1,c.po 1,c.do 2]
 | 21=>[c.tk 2,c.po 1,c.do 2]
 | 22=>[c.tk 3,c.po 1,c.do 2]
 | 23=>[c.po 2,c.do 2]
 | 24=>[c.gv 1,c.po 3,c.do 2]
 | 25=>[c.gv 2,c.po 3,c.do 2]
 | 26=>[c.gv 3,c.po 3,c.do 2]
 | 30=>[c.pe 1,c.do 3]
 | 31=>[c.pe 2,c.do 3]
 | 32=>[c.pe 3,c.do 3]
 | _=>[c.em,c.do 4]
def kptr(kb:Nat):Value:=.pointer (some ⟨kb,0,none⟩)
def ktS0(kb st hx:Nat):List (Nat×Value):=[(0,kptr kb),(1,stepperV st),(2,.pointer (some ⟨kb,hx,none⟩))]
def ktS1(kb st hx:Nat)(c:KCl):List (Nat×Value):=[(0,kptr kb),(1,stepperV st),(2,.pointer (some ⟨kb,hx,none⟩)),(8,.int .u64 (pk (c.n0,c.n1))),(9,.int .i64 c.n0)]
def ktS2(kb st hx:Nat)(c:KCl):List (Nat×Value):=[(0,kptr kb),(1,stepperV st),(2,.pointer (some ⟨kb,hx,none⟩)),(8,.int .u64 (pk (c.n0,c.n1))),(9,.int .i64 c.n0),(10,.int .i64 c.n2)]
def kgS0(kb st hx:Nat)(c:KCl):List (Nat×Value):=[(0,kptr kb),(1,stepperV st),(2,.pointer (some ⟨kb,hx,none⟩)),(3,.int .i64 c.n4)]
def kgS1(kb st hx:Nat)(c:KCl):List (Nat×Value):=[(0,kptr kb),(1,stepperV st),(2,.pointer (some ⟨kb,hx,none⟩)),(3,.int .i64 c.n4),(8,.int .u64 (pk (c.n0,c.n1)))]
def kuS0(kb st:Nat)(c:KCl):List (Nat×Value):=[(0,kptr kb),(1,stepperV st),(2,.int .i64 c.a)]
def kuS1(kb st:Nat)(c:KCl):List (Nat×Value):=[(0,kptr kb),(1,stepperV st),(2,.int .i64 c.a),(7,.int .i64 c.n4)]
def koS0(kb st:Nat):List (Nat×Value):=[(0,kptr kb),(1,stepperV st)]
def koS1(kb st:Nat)(c:KCl):List (Nat×Value):=[(0,kptr kb),(1,stepperV st),(6,.int .i64 c.n4)]
def koS2(kb st:Nat)(c:KCl):List (Nat×Value):=[(0,kptr kb),(1,stepperV st),(6,.int .i64 c.n4),(8,.int .i64 c.n3)]
def keS1(kb st:Nat)(c:KCl):List (Nat×Value):=[(0,kptr kb),(1,stepperV st),(6,.int .u64 (pk (c.n0,c.n1)))]
def keS2(kb st:Nat)(c:KCl):List (Nat×Value):=[(0,kptr kb),(1,stepperV st),(6,.int .u64 (pk (c.n0,c.n1))),(7,.int .i64 c.n3)]
def KSl(kb st:Nat)(c:KC):Prop:=match c.c.pc with
 | 10=>Slots 37 c.A (ktS0 kb st 1)∧Slots 40 c.A1 (kuS0 kb st c.c)
 | 11=>Slots 37 c.A (ktS1 kb st 1 c.c)∧Slots 40 c.A1 (kuS0 kb st c.c)
 | 12=>Slots 37 c.A (ktS2 kb st 1 c.c)∧Slots 40 c.A1 (kuS0 kb st c.c)
 | 13=>Slots 40 c.A1 (kuS1 kb st c.c)
 | 14=>Slots 32 c.A (kgS0 kb st 0 c.c)∧Slots 40 c.A1 (kuS1 kb st c.c)
 | 15=>Slots 32 c.A (kgS1 kb st 0 c.c)∧Slots 40 c.A1 (kuS1 kb st c.c)
 | 16=>Slots 32 c.A (kgS1 kb st 0 c.c)∧Slots 40 c.A1 (kuS1 kb st c.c)
 | 20=>Slots 37 c.A (ktS0 kb st 0)∧Slots 40 c.A1 (koS0 kb st)
 | 21=>Slots 37 c.A (ktS1 kb st 0 c.c)∧Slots 40 c.A1 (koS0 kb st)
 | 22=>Slots 37 c.A (ktS2 kb st 0 c.c)∧Slots 40 c.A1 (koS0 kb st)
 | 23=>Slots 40 c.A1 (koS1 kb st c.c)
 | 24=>Slots 32 c.A (kgS0 kb st 1 c.c)∧Slots 40 c.A1 (koS2 kb st c.c)
 | 25=>Slots 32 c.A (kgS1 kb st 1 c.c)∧Slots 40 c.A1 (koS2 kb st c.c)
 | 26=>Slots 32 c.A (kgS1 kb st 1 c.c)∧Slots 40 c.A1 (koS2 kb st c.c)
 | 30=>Slots 42 c.A1 (koS0 kb st)
 | 31=>Slots 42 c.A1 (keS1 kb st c.c)
 | 32=>Slots 42 c.A1 (keS2 kb st c.c)
 | _=>Slots 15 c.A1 (koS0 kb st)
structure KV(m:Nat)(c:KCl):Prop where
 pc:c.pc∈[10,11,12,13,14,15,16,20,21,22,23,24,25,26,30,31,32,40]
 n0: -1≤c.n0∧c.n0<m
 n1:0≤c.n1∧c.n1<2147483648
 n2: -1≤c.n2∧c.n2<m
 n4:0≤c.n4∧c.n4<m
 pos:c.pc∈[11,12,21,22,31,32]→0≤c.n0
structure KJ(kb st m:Nat)(c:KC):Prop where
 v:KV m c.c
 s:KSl kb st c
 a:Slots 52 c.A2 [(8,.pointer (some ⟨c.ab,0,none⟩))]
def KLay(kb:Nat):Lay where
 S:=KS
 C:=KC
 A:=Bool×Int
 SU:=KU kb
 SR:=KR kb
 CU:=fun c w=>Ans w c.ab
 CR:=fun c r=>r=c.ab
 AV:=fun a=>⟨a.1,a.2,none,0,0⟩
 AU:=fun _ _=>True
 AR:=fun _ _=>False
 cf:=fun st c=>stepFr stK ⟨st,0,none⟩::c.fr
 df:=64
 first:= #[.pointer (some ⟨kb,0,none⟩)]
 capt:= #[]
 beg:=fun s _ o y=>y.1.nb=s.nb∧(y.1.k,(match y.2 with| .inl c=>.inl c.c| .inr a=>.inr a:KRs))=s.k.begin o
 stp:=fun s c y=>y.1.nb=s.nb∧(y.1.k,(match y.2 with| .inl c=>.inl c.c| .inr a=>.inr a:KRs))=s.k.step c.c
 J:=fun st s c=>KJ kb st s.m c
theorem k_live{s:KS}{c c':KC}{k':KSt}{cs:List Frame}(hU:KU kb ⟨k',s.nb⟩ w')(hr:(k',.inl c'.c)=s.k.step c.c)(hab:c'.ab=c.ab)(hJ:KJ kb st k'.nx.length c')(hcu:Ans w c.ab)(hdis:¬KR kb s c.ab)(hsame:∀r,¬KR kb s r→w'.heap[r]? =w.heap[r]?)(d:Nat):
 (KLay kb).Out st s (fun r=>r=c.ab) ((KLay kb).stp s c) w cs (G (Frame.enter Try.prog 133 #[.pointer (some ⟨st,0,none⟩)] .normal) ((KLay kb).cf st c'++cs)) (w'.at d):=by
 refine⟨⟨k',s.nb⟩,.inl c',⟨rfl,hr⟩,hU.same fun _ _=>rfl,fun q h=>.inl h,hJ,?_,fun q h=>.inl (h.trans hab),fun q h h2=>hdis (by rw[← hab,← show q=c'.ab from h];exact h2),rfl⟩
 show Ans (w'.at d) c'.ab
 rw[hab]
 exact ans_same hcu (hsame _ hdis)
theorem k_ans{s:KS}{c:KC}{k':KSt}{an:Bool×Int}{cs:List Frame}(hU:KU kb ⟨k',s.nb⟩ w')(hr:(k',.inr an)=s.k.step c.c)(hdis:¬KR kb s c.ab)(d:Nat):
 (KLay kb).Out st s (fun r=>r=c.ab) ((KLay kb).stp s c) w cs (back (.agg #[.bool an.1,.int .i64 an.2,.slice none 0 0]) cs) ((ansW w' c.ab an.1 an.2).at d):=by
 refine⟨⟨k',s.nb⟩,.inr an,⟨rfl,hr⟩,(hU.same fun r hr=>ansW_same fun e=>hdis (by rw[← e];exact hr)).same fun _ _=>rfl,fun q h=>.inl h,trivial,fun q h=>h.elim,fun q h=>h.elim,rfl⟩
end
section
variable{F:Fz}{w w':World}{kb st:Nat}
theorem KWf.nxt_ok{s:KSt}(h:KWf s)(i:Nat): -1≤s.nx.getD i 0∧s.nx.getD i 0<s.nx.length:=by
 have:=h.n2
 by_cases e:i<s.nx.length
 ·rw[List.getD_eq_getElem?_getD,List.getElem?_eq_getElem e]
  exact h.nx _ (List.getElem_mem e)
 ·rw[List.getD_eq_getElem?_getD,List.getElem?_eq_none (by omega)]
  simp only[Option.getD_none]
  omega
section
variable{s:KS}{n0 n1 n2 n3 n4 a:Int}{A A1 A2:Array Value}{ab:Nat}
theorem ks_10(hJ:KJ kb st s.m ⟨⟨10,n0,n1,n2,n3,n4,a⟩,A,A1,A2,ab⟩)(hs:KU kb s w)(hc:Ans w ab)(hdis:¬KR kb s ab)(hF:∀r,KR kb s r∨r=ab→F r=none)(b:Frame)(cs:List Frame):
 Own Try.prog false F ((KLay kb).Out st s (fun r=>r=ab) ((KLay kb).stp s ⟨⟨10,n0,n1,n2,n3,n4,a⟩,A,A1,A2,ab⟩) w (b::cs)) (back (.tuple #[]) ((KLay kb).cf st ⟨⟨10,n0,n1,n2,n3,n4,a⟩,A,A1,A2,ab⟩++b::cs)) w:=by
 have hkb:F kb=none:=hF _ (.inl (.inl rfl))
 have hnb:F s.nb=none:=hF _ (.inl (.inr rfl))
 have hans:∀k,¬held F ⟨ab,k,none⟩:=fun k=>not_heldB (hF _ (.inr rfl)) k
 have hm:=hs.wf.n3
 have hmm:s.m=s.k.nx.length:=rfl
 have hS:=hJ.s
 obtain⟨_,v0,v1,v2,v4,vp⟩:=hJ.v
 simp only at v0 v1 v2 v4 vp
 refine own_step_back (K:=stK) (sa:=⟨st,0,none⟩) ?_
 obtain⟨h1,h2,h3,h4⟩:=hs.wf.fr
 by_cases hneg:s.k.fr.1<0
 ·refine tk_1a (sv:=stepperV st) (hx:=1) (n:=s.k.fr.1) (t:=s.k.fr.2) ⟨h1,by omega⟩ ⟨h3,h4⟩ hneg hs.c1 hS.1 ?_
  refine pu_1a (sv:=stepperV st) hS.2 ?_
  exact kdo_pu1 hc hans hJ.a (.stop fun d=>k_ans (c:=⟨⟨10,n0,n1,n2,n3,n4,a⟩,A,A1,A2,ab⟩) (an:=(false,0)) (k':=s.k) hs (by simp[KSt.step,hneg]) hdis d)
 ·refine tk_1b (sv:=stepperV st) (hx:=1) (n:=s.k.fr.1) (t:=s.k.fr.2) ⟨h1,by omega⟩ ⟨h3,h4⟩ hneg hs.c1 hS.1 fun A' hA'=>own_step_call (K:=stK) (.stop fun d=>k_live (c:=⟨⟨10,n0,n1,n2,n3,n4,a⟩,A,A1,A2,ab⟩) (c':=⟨⟨11,s.k.fr.1,s.k.fr.2,n2,n3,n4,a⟩,A',A1,A2,ab⟩) (k':=s.k) hs (by simp[KSt.step,hneg]) rfl ⟨⟨by simp,⟨h1,h2⟩,⟨h3,h4⟩,v2,v4,fun _=>by simp only;omega⟩,⟨hA',hS.2⟩,hJ.a⟩ hc hdis (fun r _=>rfl) d)
theorem ks_11(hJ:KJ kb st s.m ⟨⟨11,n0,n1,n2,n3,n4,a⟩,A,A1,A2,ab⟩)(hs:KU kb s w)(hc:Ans w ab)(hdis:¬KR kb s ab)(hF:∀r,KR kb s r∨r=ab→F r=none)(b:Frame)(cs:List Frame):
 Own Try.prog false F ((KLay kb).Out st s (fun r=>r=ab) ((KLay kb).stp s ⟨⟨11,n0,n1,n2,n3,n4,a⟩,A,A1,A2,ab⟩) w (b::cs)) (back (.tuple #[]) ((KLay kb).cf st ⟨⟨11,n0,n1,n2,n3,n4,a⟩,A,A1,A2,ab⟩++b::cs)) w:=by
 have hkb:F kb=none:=hF _ (.inl (.inl rfl))
 have hnb:F s.nb=none:=hF _ (.inl (.inr rfl))
 have hans:∀k,¬held F ⟨ab,k,none⟩:=fun k=>not_heldB (hF _ (.inr rfl)) k
 have hm:=hs.wf.n3
 have hmm:s.m=s.k.nx.length:=rfl
 have hS:=hJ.s
 obtain⟨_,v0,v1,v2,v4,vp⟩:=hJ.v
 simp only at v0 v1 v2 v4 vp
 refine own_step_back (K:=stK) (sa:=⟨st,0,none⟩) ?_
 have hpos:=vp (by simp)
 obtain⟨i,rfl⟩:∃i:Nat,n0=i:=⟨n0.toNat,by omega⟩
 have hi:i<s.m:=by omega
 refine tk_2 (sv:=stepperV st) (hx:=1) (i:=i) (t:=n1) (to:=s.k.nx.getD i 0) hi hs.c2 (hs.nc hi).1 hS.1 fun A' hA'=>own_step_call (K:=stK) (.stop fun d=>k_live (c:=⟨⟨11,(i:Nat),n1,n2,n3,n4,a⟩,A,A1,A2,ab⟩) (c':=⟨⟨12,(i:Nat),n1,(s.k.nx.getD i 0),n3,n4,a⟩,A',A1,A2,ab⟩) (k':=s.k) hs (by simp[KSt.step,KSt.nxt]) rfl ⟨⟨by simp,v0,v1,hs.wf.nxt_ok i,v4,fun _=>by simp only;omega⟩,⟨hA',hS.2⟩,hJ.a⟩ hc hdis (fun r _=>rfl) d)
theorem ks_12(hJ:KJ kb st s.m ⟨⟨12,n0,n1,n2,n3,n4,a⟩,A,A1,A2,ab⟩)(hs:KU kb s w)(hc:Ans w ab)(hdis:¬KR kb s ab)(hF:∀r,KR kb s r∨r=ab→F r=none)(b:Frame)(cs:List Frame):
 Own Try.prog false F ((KLay kb).Out st s (fun r=>r=ab) ((KLay kb).stp s ⟨⟨12,n0,n1,n2,n3,n4,a⟩,A,A1,A2,ab⟩) w (b::cs)) (back (.tuple #[]) ((KLay kb).cf st ⟨⟨12,n0,n1,n2,n3,n4,a⟩,A,A1,A2,ab⟩++b::cs)) w:=by
 have hkb:F kb=none:=hF _ (.inl (.inl rfl))
 have hnb:F s.nb=none:=hF _ (.inl (.inr rfl))
 have hans:∀k,¬held F ⟨ab,k,none⟩:=fun k=>not_heldB (hF _ (.inr rfl)) k
 have hm:=hs.wf.n3
 have hmm:s.m=s.k.nx.length:=rfl
 have hS:=hJ.s
 obtain⟨_,v0,v1,v2,v4,vp⟩:=hJ.v
 simp only at v0 v1 v2 v4 vp
 refine own_step_back (K:=stK) (sa:=⟨st,0,none⟩) ?_
 have hpos:=vp (by simp)
 obtain⟨i,rfl⟩:∃i:Nat,n0=i:=⟨n0.toNat,by omega⟩
 obtain⟨t1,t2⟩:=tag_ok s.k.tg n1
 have hq:=(pk_eq hs.wf (n:=(i:Nat)) v1).2
 by_cases e:s.k.fr=((i:Int),n1)
 ·rw[decide_eq_true e]at hq
  refine tk_3a (sv:=stepperV st) (hx:=1) (tg:=s.k.tg) (n:=(i:Nat)) (t:=n1) (to:=n2) (cv:=pk s.k.fr) hq hs.c3 ⟨v0.1,by omega⟩ v1 ⟨v2.1,by omega⟩ hs.c1 (hs.z 1) (not_heldB hkb 1) hS.1 ?_
  refine pu_1b (sv:=stepperV st) (i:=i) hS.2 fun A' hA'=>own_step_call (K:=stK) (.stop fun d=>k_live (c:=⟨⟨12,(i:Nat),n1,n2,n3,n4,a⟩,A,A1,A2,ab⟩) (c':=⟨⟨13,(i:Nat),n1,n2,n3,(i:Nat),a⟩,A,A',A2,ab⟩) (k':={s.k with fr:=(n2,tagOf s.k.tg n1)}) (hs.setFr ⟨v2.1,v2.2,t1.1,t1.2⟩ t2) (by simp[KSt.step,KSt.turn,e,tagOf]) rfl ⟨⟨by simp,v0,v1,v2,⟨hpos,v0.2⟩,fun h=>by simp at h⟩,hA',hJ.a⟩ hc hdis (fun r hr=>heap_setCell_ne _ _ _ (fun e=>hr (.inl e))) d)
 ·rw[decide_eq_false e]at hq
  refine tk_3b (sv:=stepperV st) (hx:=1) (tg:=s.k.tg) (n:=(i:Nat)) (t:=n1) (to:=n2) (cv:=pk s.k.fr) hq hs.c3 ⟨v0.1,by omega⟩ v1 ⟨v2.1,by omega⟩ hs.c1 (hs.z 1) (not_heldB hkb 1) hS.1 fun A' hA'=>own_step_call (K:=stK) (.stop fun d=>k_live (c:=⟨⟨12,(i:Nat),n1,n2,n3,n4,a⟩,A,A1,A2,ab⟩) (c':=⟨⟨10,(i:Nat),n1,n2,n3,n4,a⟩,A',A1,A2,ab⟩) (k':=s.k) hs (by simp[KSt.step,KSt.turn,e]) rfl ⟨⟨by simp,v0,v1,v2,v4,fun h=>by simp at h⟩,⟨hA',hS.2⟩,hJ.a⟩ hc hdis (fun r _=>rfl) d)
theorem ks_13(hJ:KJ kb st s.m ⟨⟨13,n0,n1,n2,n3,n4,a⟩,A,A1,A2,ab⟩)(hs:KU kb s w)(hc:Ans w ab)(hdis:¬KR kb s ab)(hF:∀r,KR kb s r∨r=ab→F r=none)(b:Frame)(cs:List Frame):
 Own Try.prog false F ((KLay kb).Out st s (fun r=>r=ab) ((KLay kb).stp s ⟨⟨13,n0,n1,n2,n3,n4,a⟩,A,A1,A2,ab⟩) w (b::cs)) (back (.tuple #[]) ((KLay kb).cf st ⟨⟨13,n0,n1,n2,n3,n4,a⟩,A,A1,A2,ab⟩++b::cs)) w:=by
 have hkb:F kb=none:=hF _ (.inl (.inl rfl))
 have hnb:F s.nb=none:=hF _ (.inl (.inr rfl))
 have hans:∀k,¬held F ⟨ab,k,none⟩:=fun k=>not_heldB (hF _ (.inr rfl)) k
 have hm:=hs.wf.n3
 have hmm:s.m=s.k.nx.length:=rfl
 have hS:=hJ.s
 obtain⟨_,v0,v1,v2,v4,vp⟩:=hJ.v
 simp only at v0 v1 v2 v4 vp
 refine own_step_back (K:=stK) (sa:=⟨st,0,none⟩) ?_
 obtain⟨i,rfl⟩:∃i:Nat,n4=i:=⟨n4.toNat,by omega⟩
 have hi:i<s.m:=by omega
 refine pu_2 (sv:=stepperV st) (v:=a) (i:=i) hi hs.c2 (hs.nc hi).2.1 ((hs.nc hi).2.2 _) (not_heldB hnb _) hS fun A1' hA1'=>?_
 refine gv_0 (sv:=stepperV st) (hx:=0) (i:=i) fun A' hA'=>own_step_call (K:=stK) (.stop fun d=>k_live (c:=⟨⟨13,n0,n1,n2,n3,(i:Nat),a⟩,A,A1,A2,ab⟩) (c':=⟨⟨14,n0,n1,n2,n3,(i:Nat),a⟩,A',A1',A2,ab⟩) (k':={s.k with vl:=s.k.vl.set i a}) (hs.setVl hi) (by simp[KSt.step]) rfl ⟨⟨by simp,v0,v1,v2,v4,fun h=>by simp at h⟩,⟨hA',hA1'⟩,hJ.a⟩ hc hdis (fun r hr=>heap_setCell_ne _ _ _ (fun e=>hr (.inr e))) d)
theorem ks_14(hJ:KJ kb st s.m ⟨⟨14,n0,n1,n2,n3,n4,a⟩,A,A1,A2,ab⟩)(hs:KU kb s w)(hc:Ans w ab)(hdis:¬KR kb s ab)(hF:∀r,KR kb s r∨r=ab→F r=none)(b:Frame)(cs:List Frame):
 Own Try.prog false F ((KLay kb).Out st s (fun r=>r=ab) ((KLay kb).stp s ⟨⟨14,n0,n1,n2,n3,n4,a⟩,A,A1,A2,ab⟩) w (b::cs)) (back (.tuple #[]) ((KLay kb).cf st ⟨⟨14,n0,n1,n2,n3,n4,a⟩,A,A1,A2,ab⟩++b::cs)) w:=by
 have hkb:F kb=none:=hF _ (.inl (.inl rfl))
 have hnb:F s.nb=none:=hF _ (.inl (.inr rfl))
 have hans:∀k,¬held F ⟨ab,k,none⟩:=fun k=>not_heldB (hF _ (.inr rfl)) k
 have hm:=hs.wf.n3
 have hmm:s.m=s.k.nx.length:=rfl
 have hS:=hJ.s
 obtain⟨_,v0,v1,v2,v4,vp⟩:=hJ.v
 simp only at v0 v1 v2 v4 vp
 refine own_step_back (K:=stK) (sa:=⟨st,0,none⟩) ?_
 obtain⟨h1,h2,h3,h4⟩:=hs.wf.hd
 obtain⟨i,rfl⟩:∃i:Nat,n4=i:=⟨n4.toNat,by omega⟩
 refine gv_1 (sv:=stepperV st) (hx:=0) (i:=i) (n:=s.k.hd.1) (t:=s.k.hd.2) hs.c0 hS.1 fun A' hA'=>own_step_call (K:=stK) (.stop fun d=>k_live (c:=⟨⟨14,n0,n1,n2,n3,(i:Nat),a⟩,A,A1,A2,ab⟩) (c':=⟨⟨15,s.k.hd.1,s.k.hd.2,n2,n3,(i:Nat),a⟩,A',A1,A2,ab⟩) (k':=s.k) hs (by simp[KSt.step]) rfl ⟨⟨by simp,⟨h1,h2⟩,⟨h3,h4⟩,v2,v4,fun h=>by simp at h⟩,⟨hA',hS.2⟩,hJ.a⟩ hc hdis (fun r _=>rfl) d)
theorem ks_15(hJ:KJ kb st s.m ⟨⟨15,n0,n1,n2,n3,n4,a⟩,A,A1,A2,ab⟩)(hs:KU kb s w)(hc:Ans w ab)(hdis:¬KR kb s ab)(hF:∀r,KR kb s r∨r=ab→F r=none)(b:Frame)(cs:List Frame):
 Own Try.prog false F ((KLay kb).Out st s (fun r=>r=ab) ((KLay kb).stp s ⟨⟨15,n0,n1,n2,n3,n4,a⟩,A,A1,A2,ab⟩) w (b::cs)) (back (.tuple #[]) ((KLay kb).cf st ⟨⟨15,n0,n1,n2,n3,n4,a⟩,A,A1,A2,ab⟩++b::cs)) w:=by
 have hkb:F kb=none:=hF _ (.inl (.inl rfl))
 have hnb:F s.nb=none:=hF _ (.inl (.inr rfl))
 have hans:∀k,¬held F ⟨ab,k,none⟩:=fun k=>not_heldB (hF _ (.inr rfl)) k
 have hm:=hs.wf.n3
 have hmm:s.m=s.k.nx.length:=rfl
 have hS:=hJ.s
 obtain⟨_,v0,v1,v2,v4,vp⟩:=hJ.v
 simp only at v0 v1 v2 v4 vp
 refine own_step_back (K:=stK) (sa:=⟨st,0,none⟩) ?_
 obtain⟨i,rfl⟩:∃i:Nat,n4=i:=⟨n4.toNat,by omega⟩
 have hi:i<s.m:=by omega
 have hl:(s.k.nx.set i n0).length=s.k.nx.length:=List.length_set
 refine gv_2 (sv:=stepperV st) (hx:=0) (i:=i) (n:=n0) (t:=n1) ⟨v0.1,by omega⟩ v1 hi hs.c2 (hs.nc hi).1 ((hs.nc hi).2.2 _) (not_heldB hnb _) hS.1 fun A' hA'=>own_step_call (K:=stK) (.stop fun d=>k_live (c:=⟨⟨15,n0,n1,n2,n3,(i:Nat),a⟩,A,A1,A2,ab⟩) (c':=⟨⟨16,n0,n1,n2,n3,(i:Nat),a⟩,A',A1,A2,ab⟩) (k':={s.k with nx:=s.k.nx.set i n0}) (hs.setNx hi v0) (by simp[KSt.step]) rfl ⟨⟨by simp,by simpa using v0,v1,by simpa using v2,by simpa using v4,fun h=>by simp at h⟩,⟨hA',hS.2⟩,hJ.a⟩ hc hdis (fun r hr=>heap_setCell_ne _ _ _ (fun e=>hr (.inr e))) d)
theorem ks_16(hJ:KJ kb st s.m ⟨⟨16,n0,n1,n2,n3,n4,a⟩,A,A1,A2,ab⟩)(hs:KU kb s w)(hc:Ans w ab)(hdis:¬KR kb s ab)(hF:∀r,KR kb s r∨r=ab→F r=none)(b:Frame)(cs:List Frame):
 Own Try.prog false F ((KLay kb).Out st s (fun r=>r=ab) ((KLay kb).stp s ⟨⟨16,n0,n1,n2,n3,n4,a⟩,A,A1,A2,ab⟩) w (b::cs)) (back (.tuple #[]) ((KLay kb).cf st ⟨⟨16,n0,n1,n2,n3,n4,a⟩,A,A1,A2,ab⟩++b::cs)) w:=by
 have hkb:F kb=none:=hF _ (.inl (.inl rfl))
 have hnb:F s.nb=none:=hF _ (.inl (.inr rfl))
 have hans:∀k,¬held F ⟨ab,k,none⟩:=fun k=>not_heldB (hF _ (.inr rfl)) k
 have hm:=hs.wf.n3
 have hmm:s.m=s.k.nx.length:=rfl
 have hS:=hJ.s
 obtain⟨_,v0,v1,v2,v4,vp⟩:=hJ.v
 simp only at v0 v1 v2 v4 vp
 refine own_step_back (K:=stK) (sa:=⟨st,0,none⟩) ?_
 obtain⟨i,rfl⟩:∃i:Nat,n4=i:=⟨n4.toNat,by omega⟩
 obtain⟨t1,t2⟩:=tag_ok s.k.tg n1
 have hq:=(pk_eq hs.wf (n:=n0) v1).1
 by_cases e:s.k.hd=(n0,n1)
 ·rw[decide_eq_true e]at hq
  refine gv_3a (sv:=stepperV st) (hx:=0) (tg:=s.k.tg) (i:=i) (n:=n0) (t:=n1) (cv:=pk s.k.hd) hq hs.c3 ⟨v0.1,by omega⟩ v1 ⟨by omega,by omega⟩ hs.c0 (hs.z 0) (not_heldB hkb 0) hS.1 ?_
  have hw2:Ans (w.setCell ⟨kb,0,none⟩ (.int .u64 (pk ((i:Int),tagOf s.k.tg n1)))) ab:=ans_same hc (heap_setCell_ne _ _ _ fun e=>hdis (.inl e))
  refine pu_3 (sv:=stepperV st) hS.2 ?_
  exact kdo_pu1 hw2 hans hJ.a (.stop fun d=>k_ans (c:=⟨⟨16,n0,n1,n2,n3,(i:Nat),a⟩,A,A1,A2,ab⟩) (an:=(true,0)) (k':={s.k with hd:=((i:Int),tagOf s.k.tg n1)}) (hs.setHd ⟨by simp only;omega,by simp only;omega,t1.1,t1.2⟩ t2) (by simp[KSt.step,KSt.turn,e,tagOf]) hdis d)
 ·rw[decide_eq_false e]at hq
  refine gv_3b (sv:=stepperV st) (hx:=0) (tg:=s.k.tg) (i:=i) (n:=n0) (t:=n1) (cv:=pk s.k.hd) hq hs.c3 ⟨v0.1,by omega⟩ v1 ⟨by omega,by omega⟩ hs.c0 (hs.z 0) (not_heldB hkb 0) hS.1 fun A' hA'=>own_step_call (K:=stK) (.stop fun d=>k_live (c:=⟨⟨16,n0,n1,n2,n3,(i:Nat),a⟩,A,A1,A2,ab⟩) (c':=⟨⟨14,n0,n1,n2,n3,(i:Nat),a⟩,A',A1,A2,ab⟩) (k':=s.k) hs (by simp[KSt.step,KSt.turn,e]) rfl ⟨⟨by simp,v0,v1,v2,v4,fun h=>by simp at h⟩,⟨hA',hS.2⟩,hJ.a⟩ hc hdis (fun r _=>rfl) d)
theorem ks_20(hJ:KJ kb st s.m ⟨⟨20,n0,n1,n2,n3,n4,a⟩,A,A1,A2,ab⟩)(hs:KU kb s w)(hc:Ans w ab)(hdis:¬KR kb s ab)(hF:∀r,KR kb s r∨r=ab→F r=none)(b:Frame)(cs:List Frame):
 Own Try.prog false F ((KLay kb).Out st s (fun r=>r=ab) ((KLay kb).stp s ⟨⟨20,n0,n1,n2,n3,n4,a⟩,A,A1,A2,ab⟩) w (b::cs)) (back (.tuple #[]) ((KLay kb).cf st ⟨⟨20,n0,n1,n2,n3,n4,a⟩,A,A1,A2,ab⟩++b::cs)) w:=by
 have hkb:F kb=none:=hF _ (.inl (.inl rfl))
 have hnb:F s.nb=none:=hF _ (.inl (.inr rfl))
 have hans:∀k,¬held F ⟨ab,k,none⟩:=fun k=>not_heldB (hF _ (.inr rfl)) k
 have hm:=hs.wf.n3
 have hmm:s.m=s.k.nx.length:=rfl
 have hS:=hJ.s
 obtain⟨_,v0,v1,v2,v4,vp⟩:=hJ.v
 simp only at v0 v1 v2 v4 vp
 refine own_step_back (K:=stK) (sa:=⟨st,0,none⟩) ?_
 obtain⟨h1,h2,h3,h4⟩:=hs.wf.hd
 by_cases hneg:s.k.hd.1<0
 ·refine tk_1a (sv:=stepperV st) (hx:=0) (n:=s.k.hd.1) (t:=s.k.hd.2) ⟨h1,by omega⟩ ⟨h3,h4⟩ hneg hs.c0 hS.1 ?_
  refine po_1a (sv:=stepperV st) hS.2 ?_
  exact kdo_po1 hc hans hJ.a (.stop fun d=>k_ans (c:=⟨⟨20,n0,n1,n2,n3,n4,a⟩,A,A1,A2,ab⟩) (an:=(false,0)) (k':=s.k) hs (by simp[KSt.step,hneg]) hdis d)
 ·refine tk_1b (sv:=stepperV st) (hx:=0) (n:=s.k.hd.1) (t:=s.k.hd.2) ⟨h1,by omega⟩ ⟨h3,h4⟩ hneg hs.c0 hS.1 fun A' hA'=>own_step_call (K:=stK) (.stop fun d=>k_live (c:=⟨⟨20,n0,n1,n2,n3,n4,a⟩,A,A1,A2,ab⟩) (c':=⟨⟨21,s.k.hd.1,s.k.hd.2,n2,n3,n4,a⟩,A',A1,A2,ab⟩) (k':=s.k) hs (by simp[KSt.step,hneg]) rfl ⟨⟨by simp,⟨h1,h2⟩,⟨h3,h4⟩,v2,v4,fun _=>by simp only;omega⟩,⟨hA',hS.2⟩,hJ.a⟩ hc hdis (fun r _=>rfl) d)
theorem ks_21(hJ:KJ kb st s.m ⟨⟨21,n0,n1,n2,n3,n4,a⟩,A,A1,A2,ab⟩)(hs:KU kb s w)(hc:Ans w ab)(hdis:¬KR kb s ab)(hF:∀r,KR kb s r∨r=ab→F r=none)(b:Frame)(cs:List Frame):
 Own Try.prog false F ((KLay kb).Out st s (fun r=>r=ab) ((KLay kb).stp s ⟨⟨21,n0,n1,n2,n3,n4,a⟩,A,A1,A2,ab⟩) w (b::cs)) (back (.tuple #[]) ((KLay kb).cf st ⟨⟨21,n0,n1,n2,n3,n4,a⟩,A,A1,A2,ab⟩++b::cs)) w:=by
 have hkb:F kb=none:=hF _ (.inl (.inl rfl))
 have hnb:F s.nb=none:=hF _ (.inl (.inr rfl))
 have hans:∀k,¬held F ⟨ab,k,none⟩:=fun k=>not_heldB (hF _ (.inr rfl)) k
 have hm:=hs.wf.n3
 have hmm:s.m=s.k.nx.length:=rfl
 have hS:=hJ.s
 obtain⟨_,v0,v1,v2,v4,vp⟩:=hJ.v
 simp only at v0 v1 v2 v4 vp
 refine own_step_back (K:=stK) (sa:=⟨st,0,none⟩) ?_
 have hpos:=vp (by simp)
 obtain⟨i,rfl⟩:∃i:Nat,n0=i:=⟨n0.toNat,by omega⟩
 have hi:i<s.m:=by omega
 refine tk_2 (sv:=stepperV st) (hx:=0) (i:=i) (t:=n1) (to:=s.k.nx.getD i 0) hi hs.c2 (hs.nc hi).1 hS.1 fun A' hA'=>own_step_call (K:=stK) (.stop fun d=>k_live (c:=⟨⟨21,(i:Nat),n1,n2,n3,n4,a⟩,A,A1,A2,ab⟩) (c':=⟨⟨22,(i:Nat),n1,(s.k.nx.getD i 0),n3,n4,a⟩,A',A1,A2,ab⟩) (k':=s.k) hs (by simp[KSt.step,KSt.nxt]) rfl ⟨⟨by simp,v0,v1,hs.wf.nxt_ok i,v4,fun _=>by simp only;omega⟩,⟨hA',hS.2⟩,hJ.a⟩ hc hdis (fun r _=>rfl) d)
theorem ks_22(hJ:KJ kb st s.m ⟨⟨22,n0,n1,n2,n3,n4,a⟩,A,A1,A2,ab⟩)(hs:KU kb s w)(hc:Ans w ab)(hdis:¬KR kb s ab)(hF:∀r,KR kb s r∨r=ab→F r=none)(b:Frame)(cs:List Frame):
 Own Try.prog false F ((KLay kb).Out st s (fun r=>r=ab) ((KLay kb).stp s ⟨⟨22,n0,n1,n2,n3,n4,a⟩,A,A1,A2,ab⟩) w (b::cs)) (back (.tuple #[]) ((KLay kb).cf st ⟨⟨22,n0,n1,n2,n3,n4,a⟩,A,A1,A2,ab⟩++b::cs)) w:=by
 have hkb:F kb=none:=hF _ (.inl (.inl rfl))
 have hnb:F s.nb=none:=hF _ (.inl (.inr rfl))
 have hans:∀k,¬held F ⟨ab,k,none⟩:=fun k=>not_heldB (hF _ (.inr rfl)) k
 have hm:=hs.wf.n3
 have hmm:s.m=s.k.nx.length:=rfl
 have hS:=hJ.s
 obtain⟨_,v0,v1,v2,v4,vp⟩:=hJ.v
 simp only at v0 v1 v2 v4 vp
 refine own_step_back (K:=stK) (sa:=⟨st,0,none⟩) ?_
 have hpos:=vp (by simp)
 obtain⟨i,rfl⟩:∃i:Nat,n0=i:=⟨n0.toNat,by omega⟩
 obtain⟨t1,t2⟩:=tag_ok s.k.tg n1
 have hq:=(pk_eq hs.wf (n:=(i:Nat)) v1).1
 by_cases e:s.k.hd=((i:Int),n1)
 ·rw[decide_eq_true e]at hq
  refine tk_3a (sv:=stepperV st) (hx:=0) (tg:=s.k.tg) (n:=(i:Nat)) (t:=n1) (to:=n2) (cv:=pk s.k.hd) hq hs.c3 ⟨v0.1,by omega⟩ v1 ⟨v2.1,by omega⟩ hs.c0 (hs.z 0) (not_heldB hkb 0) hS.1 ?_
  refine po_1b (sv:=stepperV st) (i:=i) hS.2 fun A' hA'=>own_step_call (K:=stK) (.stop fun d=>k_live (c:=⟨⟨22,(i:Nat),n1,n2,n3,n4,a⟩,A,A1,A2,ab⟩) (c':=⟨⟨23,(i:Nat),n1,n2,n3,(i:Nat),a⟩,A,A',A2,ab⟩) (k':={s.k with hd:=(n2,tagOf s.k.tg n1)}) (hs.setHd ⟨v2.1,v2.2,t1.1,t1.2⟩ t2) (by simp[KSt.step,KSt.turn,e,tagOf]) rfl ⟨⟨by simp,v0,v1,v2,⟨hpos,v0.2⟩,fun h=>by simp at h⟩,hA',hJ.a⟩ hc hdis (fun r hr=>heap_setCell_ne _ _ _ (fun e=>hr (.inl e))) d)
 ·rw[decide_eq_false e]at hq
  refine tk_3b (sv:=stepperV st) (hx:=0) (tg:=s.k.tg) (n:=(i:Nat)) (t:=n1) (to:=n2) (cv:=pk s.k.hd) hq hs.c3 ⟨v0.1,by omega⟩ v1 ⟨v2.1,by omega⟩ hs.c0 (hs.z 0) (not_heldB hkb 0) hS.1 fun A' hA'=>own_step_call (K:=stK) (.stop fun d=>k_live (c:=⟨⟨22,(i:Nat),n1,n2,n3,n4,a⟩,A,A1,A2,ab⟩) (c':=⟨⟨20,(i:Nat),n1,n2,n3,n4,a⟩,A',A1,A2,ab⟩) (k':=s.k) hs (by simp[KSt.step,KSt.turn,e]) rfl ⟨⟨by simp,v0,v1,v2,v4,fun h=>by simp at h⟩,⟨hA',hS.2⟩,hJ.a⟩ hc hdis (fun r _=>rfl) d)
theorem ks_23(hJ:KJ kb st s.m ⟨⟨23,n0,n1,n2,n3,n4,a⟩,A,A1,A2,ab⟩)(hs:KU kb s w)(hc:Ans w ab)(hdis:¬KR kb s ab)(hF:∀r,KR kb s r∨r=ab→F r=none)(b:Frame)(cs:List Frame):
 Own Try.prog false F ((KLay kb).Out st s (fun r=>r=ab) ((KLay kb).stp s ⟨⟨23,n0,n1,n2,n3,n4,a⟩,A,A1,A2,ab⟩) w (b::cs)) (back (.tuple #[]) ((KLay kb).cf st ⟨⟨23,n0,n1,n2,n3,n4,a⟩,A,A1,A2,ab⟩++b::cs)) w:=by
 have hkb:F kb=none:=hF _ (.inl (.inl rfl))
 have hnb:F s.nb=none:=hF _ (.inl (.inr rfl))
 have hans:∀k,¬held F ⟨ab,k,none⟩:=fun k=>not_heldB (hF _ (.inr rfl)) k
 have hm:=hs.wf.n3
 have hmm:s.m=s.k.nx.length:=rfl
 have hS:=hJ.s
 obtain⟨_,v0,v1,v2,v4,vp⟩:=hJ.v
 simp only at v0 v1 v2 v4 vp
 refine own_step_back (K:=stK) (sa:=⟨st,0,none⟩) ?_
 obtain⟨i,rfl⟩:∃i:Nat,n4=i:=⟨n4.toNat,by omega⟩
 have hi:i<s.m:=by omega
 refine po_2 (sv:=stepperV st) (v:=s.k.vl.getD i 0) (i:=i) hi hs.c2 (hs.nc hi).2.1 hS fun A1' hA1'=>?_
 refine gv_0 (sv:=stepperV st) (hx:=1) (i:=i) fun A' hA'=>own_step_call (K:=stK) (.stop fun d=>k_live (c:=⟨⟨23,n0,n1,n2,n3,(i:Nat),a⟩,A,A1,A2,ab⟩) (c':=⟨⟨24,n0,n1,n2,(s.k.vl.getD i 0),(i:Nat),a⟩,A',A1',A2,ab⟩) (k':=s.k) hs (by simp[KSt.step,KSt.val]) rfl ⟨⟨by simp,v0,v1,v2,v4,fun h=>by simp at h⟩,⟨hA',hA1'⟩,hJ.a⟩ hc hdis (fun r _=>rfl) d)
theorem ks_24(hJ:KJ kb st s.m ⟨⟨24,n0,n1,n2,n3,n4,a⟩,A,A1,A2,ab⟩)(hs:KU kb s w)(hc:Ans w ab)(hdis:¬KR kb s ab)(hF:∀r,KR kb s r∨r=ab→F r=none)(b:Frame)(cs:List Frame):
 Own Try.prog false F ((KLay kb).Out st s (fun r=>r=ab) ((KLay kb).stp s ⟨⟨24,n0,n1,n2,n3,n4,a⟩,A,A1,A2,ab⟩) w (b::cs)) (back (.tuple #[]) ((KLay kb).cf st ⟨⟨24,n0,n1,n2,n3,n4,a⟩,A,A1,A2,ab⟩++b::cs)) w:=by
 have hkb:F kb=none:=hF _ (.inl (.inl rfl))
 have hnb:F s.nb=none:=hF _ (.inl (.inr rfl))
 have hans:∀k,¬held F ⟨ab,k,none⟩:=fun k=>not_heldB (hF _ (.inr rfl)) k
 have hm:=hs.wf.n3
 have hmm:s.m=s.k.nx.length:=rfl
 have hS:=hJ.s
 obtain⟨_,v0,v1,v2,v4,vp⟩:=hJ.v
 simp only at v0 v1 v2 v4 vp
 refine own_step_back (K:=stK) (sa:=⟨st,0,none⟩) ?_
 obtain⟨h1,h2,h3,h4⟩:=hs.wf.fr
 obtain⟨i,rfl⟩:∃i:Nat,n4=i:=⟨n4.toNat,by omega⟩
 refine gv_1 (sv:=stepperV st) (hx:=1) (i:=i) (n:=s.k.fr.1) (t:=s.k.fr.2) hs.c1 hS.1 fun A' hA'=>own_step_call (K:=stK) (.stop fun d=>k_live (c:=⟨⟨24,n0,n1,n2,n3,(i:Nat),a⟩,A,A1,A2,ab⟩) (c':=⟨⟨25,s.k.fr.1,s.k.fr.2,n2,n3,(i:Nat),a⟩,A',A1,A2,ab⟩) (k':=s.k) hs (by simp[KSt.step]) rfl ⟨⟨by simp,⟨h1,h2⟩,⟨h3,h4⟩,v2,v4,fun h=>by simp at h⟩,⟨hA',hS.2⟩,hJ.a⟩ hc hdis (fun r _=>rfl) d)
theorem ks_25(hJ:KJ kb st s.m ⟨⟨25,n0,n1,n2,n3,n4,a⟩,A,A1,A2,ab⟩)(hs:KU kb s w)(hc:Ans w ab)(hdis:¬KR kb s ab)(hF:∀r,KR kb s r∨r=ab→F r=none)(b:Frame)(cs:List Frame):
 Own Try.prog false F ((KLay kb).Out st s (fun r=>r=ab) ((KLay kb).stp s ⟨⟨25,n0,n1,n2,n3,n4,a⟩,A,A1,A2,ab⟩) w (b::cs)) (back (.tuple #[]) ((KLay kb).cf st ⟨⟨25,n0,n1,n2,n3,n4,a⟩,A,A1,A2,ab⟩++b::cs)) w:=by
 have hkb:F kb=none:=hF _ (.inl (.inl rfl))
 have hnb:F s.nb=none:=hF _ (.inl (.inr rfl))
 have hans:∀k,¬held F ⟨ab,k,none⟩:=fun k=>not_heldB (hF _ (.inr rfl)) k
 have hm:=hs.wf.n3
 have hmm:s.m=s.k.nx.length:=rfl
 have hS:=hJ.s
 obtain⟨_,v0,v1,v2,v4,vp⟩:=hJ.v
 simp only at v0 v1 v2 v4 vp
 refine own_step_back (K:=stK) (sa:=⟨st,0,none⟩) ?_
 obtain⟨i,rfl⟩:∃i:Nat,n4=i:=⟨n4.toNat,by omega⟩
 have hi:i<s.m:=by omega
 have hl:(s.k.nx.set i n0).length=s.k.nx.length:=List.length_set
 refine gv_2 (sv:=stepperV st) (hx:=1) (i:=i) (n:=n0) (t:=n1) ⟨v0.1,by omega⟩ v1 hi hs.c2 (hs.nc hi).1 ((hs.nc hi).2.2 _) (not_heldB hnb _) hS.1 fun A' hA'=>own_step_call (K:=stK) (.stop fun d=>k_live (c:=⟨⟨25,n0,n1,n2,n3,(i:Nat),a⟩,A,A1,A2,ab⟩) (c':=⟨⟨26,n0,n1,n2,n3,(i:Nat),a⟩,A',A1,A2,ab⟩) (k':={s.k with nx:=s.k.nx.set i n0}) (hs.setNx hi v0) (by simp[KSt.step]) rfl ⟨⟨by simp,by simpa using v0,v1,by simpa using v2,by simpa using v4,fun h=>by simp at h⟩,⟨hA',hS.2⟩,hJ.a⟩ hc hdis (fun r hr=>heap_setCell_ne _ _ _ (fun e=>hr (.inr e))) d)
theorem ks_26(hJ:KJ kb st s.m ⟨⟨26,n0,n1,n2,n3,n4,a⟩,A,A1,A2,ab⟩)(hs:KU kb s w)(hc:Ans w ab)(hdis:¬KR kb s ab)(hF:∀r,KR kb s r∨r=ab→F r=none)(b:Frame)(cs:List Frame):
 Own Try.prog false F ((KLay kb).Out st s (fun r=>r=ab) ((KLay kb).stp s ⟨⟨26,n0,n1,n2,n3,n4,a⟩,A,A1,A2,ab⟩) w (b::cs)) (back (.tuple #[]) ((KLay kb).cf st ⟨⟨26,n0,n1,n2,n3,n4,a⟩,A,A1,A2,ab⟩++b::cs)) w:=by
 have hkb:F kb=none:=hF _ (.inl (.inl rfl))
 have hnb:F s.nb=none:=hF _ (.inl (.inr rfl))
 have hans:∀k,¬held F ⟨ab,k,none⟩:=fun k=>not_heldB (hF _ (.inr rfl)) k
 have hm:=hs.wf.n3
 have hmm:s.m=s.k.nx.length:=rfl
 have hS:=hJ.s
 obtain⟨_,v0,v1,v2,v4,vp⟩:=hJ.v
 simp only at v0 v1 v2 v4 vp
 refine own_step_back (K:=stK) (sa:=⟨st,0,none⟩) ?_
 obtain⟨i,rfl⟩:∃i:Nat,n4=i:=⟨n4.toNat,by omega⟩
 obtain⟨t1,t2⟩:=tag_ok s.k.tg n1
 have hq:=(pk_eq hs.wf (n:=n0) v1).2
 by_cases e:s.k.fr=(n0,n1)
 ·rw[decide_eq_true e]at hq
  refine gv_3a (sv:=stepperV st) (hx:=1) (tg:=s.k.tg) (i:=i) (n:=n0) (t:=n1) (cv:=pk s.k.fr) hq hs.c3 ⟨v0.1,by omega⟩ v1 ⟨by omega,by omega⟩ hs.c1 (hs.z 1) (not_heldB hkb 1) hS.1 ?_
  have hw2:Ans (w.setCell ⟨kb,1,none⟩ (.int .u64 (pk ((i:Int),tagOf s.k.tg n1)))) ab:=ans_same hc (heap_setCell_ne _ _ _ fun e=>hdis (.inl e))
  refine po_3 (sv:=stepperV st) hS.2 ?_
  exact kdo_po1 hw2 hans hJ.a (.stop fun d=>k_ans (c:=⟨⟨26,n0,n1,n2,n3,(i:Nat),a⟩,A,A1,A2,ab⟩) (an:=(true,n3)) (k':={s.k with fr:=((i:Int),tagOf s.k.tg n1)}) (hs.setFr ⟨by simp only;omega,by simp only;omega,t1.1,t1.2⟩ t2) (by simp[KSt.step,KSt.turn,e,tagOf]) hdis d)
 ·rw[decide_eq_false e]at hq
  refine gv_3b (sv:=stepperV st) (hx:=1) (tg:=s.k.tg) (i:=i) (n:=n0) (t:=n1) (cv:=pk s.k.fr) hq hs.c3 ⟨v0.1,by omega⟩ v1 ⟨by omega,by omega⟩ hs.c1 (hs.z 1) (not_heldB hkb 1) hS.1 fun A' hA'=>own_step_call (K:=stK) (.stop fun d=>k_live (c:=⟨⟨26,n0,n1,n2,n3,(i:Nat),a⟩,A,A1,A2,ab⟩) (c':=⟨⟨24,n0,n1,n2,n3,(i:Nat),a⟩,A',A1,A2,ab⟩) (k':=s.k) hs (by simp[KSt.step,KSt.turn,e]) rfl ⟨⟨by simp,v0,v1,v2,v4,fun h=>by simp at h⟩,⟨hA',hS.2⟩,hJ.a⟩ hc hdis (fun r _=>rfl) d)
theorem ks_30(hJ:KJ kb st s.m ⟨⟨30,n0,n1,n2,n3,n4,a⟩,A,A1,A2,ab⟩)(hs:KU kb s w)(hc:Ans w ab)(hdis:¬KR kb s ab)(hF:∀r,KR kb s r∨r=ab→F r=none)(b:Frame)(cs:List Frame):
 Own Try.prog false F ((KLay kb).Out st s (fun r=>r=ab) ((KLay kb).stp s ⟨⟨30,n0,n1,n2,n3,n4,a⟩,A,A1,A2,ab⟩) w (b::cs)) (back (.tuple #[]) ((KLay kb).cf st ⟨⟨30,n0,n1,n2,n3,n4,a⟩,A,A1,A2,ab⟩++b::cs)) w:=by
 have hkb:F kb=none:=hF _ (.inl (.inl rfl))
 have hnb:F s.nb=none:=hF _ (.inl (.inr rfl))
 have hans:∀k,¬held F ⟨ab,k,none⟩:=fun k=>not_heldB (hF _ (.inr rfl)) k
 have hm:=hs.wf.n3
 have hmm:s.m=s.k.nx.length:=rfl
 have hS:=hJ.s
 obtain⟨_,v0,v1,v2,v4,vp⟩:=hJ.v
 simp only at v0 v1 v2 v4 vp
 refine own_step_back (K:=stK) (sa:=⟨st,0,none⟩) ?_
 obtain⟨h1,h2,h3,h4⟩:=hs.wf.hd
 by_cases hneg:s.k.hd.1<0
 ·refine pk_1a (sv:=stepperV st) (n:=s.k.hd.1) (t:=s.k.hd.2) ⟨h1,by omega⟩ ⟨h3,h4⟩ hneg hs.c0 hS ?_
  exact kdo_pe1 hc hans hJ.a (.stop fun d=>k_ans (c:=⟨⟨30,n0,n1,n2,n3,n4,a⟩,A,A1,A2,ab⟩) (an:=(false,0)) (k':=s.k) hs (by simp[KSt.step,hneg]) hdis d)
 ·obtain⟨i,hi⟩:∃i:Nat,s.k.hd.1=i:=⟨s.k.hd.1.toNat,by omega⟩
  have hc0:=hs.c0
  rw[show s.k.hd=((i:Int),s.k.hd.2)from Prod.ext hi rfl]at hc0
  refine pk_1b (sv:=stepperV st) (i:=i) (t:=s.k.hd.2) ⟨by omega,by omega⟩ ⟨h3,h4⟩ hc0 hS fun A' hA'=>own_step_call (K:=stK) (.stop fun d=>k_live (c:=⟨⟨30,n0,n1,n2,n3,n4,a⟩,A,A1,A2,ab⟩) (c':=⟨⟨31,(i:Nat),s.k.hd.2,n2,n3,n4,a⟩,A,A',A2,ab⟩) (k':=s.k) hs (by simp[KSt.step,hneg,hi]) rfl ⟨⟨by simp,⟨by simp only;omega,by simp only;omega⟩,⟨h3,h4⟩,v2,v4,fun _=>by simp only;omega⟩,hA',hJ.a⟩ hc hdis (fun r _=>rfl) d)
theorem ks_31(hJ:KJ kb st s.m ⟨⟨31,n0,n1,n2,n3,n4,a⟩,A,A1,A2,ab⟩)(hs:KU kb s w)(hc:Ans w ab)(hdis:¬KR kb s ab)(hF:∀r,KR kb s r∨r=ab→F r=none)(b:Frame)(cs:List Frame):
 Own Try.prog false F ((KLay kb).Out st s (fun r=>r=ab) ((KLay kb).stp s ⟨⟨31,n0,n1,n2,n3,n4,a⟩,A,A1,A2,ab⟩) w (b::cs)) (back (.tuple #[]) ((KLay kb).cf st ⟨⟨31,n0,n1,n2,n3,n4,a⟩,A,A1,A2,ab⟩++b::cs)) w:=by
 have hkb:F kb=none:=hF _ (.inl (.inl rfl))
 have hnb:F s.nb=none:=hF _ (.inl (.inr rfl))
 have hans:∀k,¬held F ⟨ab,k,none⟩:=fun k=>not_heldB (hF _ (.inr rfl)) k
 have hm:=hs.wf.n3
 have hmm:s.m=s.k.nx.length:=rfl
 have hS:=hJ.s
 obtain⟨_,v0,v1,v2,v4,vp⟩:=hJ.v
 simp only at v0 v1 v2 v4 vp
 refine own_step_back (K:=stK) (sa:=⟨st,0,none⟩) ?_
 have hpos:=vp (by simp)
 obtain⟨i,rfl⟩:∃i:Nat,n0=i:=⟨n0.toNat,by omega⟩
 have hi:i<s.m:=by omega
 refine pk_2 (sv:=stepperV st) (i:=i) (t:=n1) (v0:=s.k.vl.getD i 0) ⟨by omega,by omega⟩ v1 hi hs.c2 (hs.nc hi).2.1 hS fun A' hA'=>own_step_call (K:=stK) (.stop fun d=>k_live (c:=⟨⟨31,(i:Nat),n1,n2,n3,n4,a⟩,A,A1,A2,ab⟩) (c':=⟨⟨32,(i:Nat),n1,n2,(s.k.vl.getD i 0),n4,a⟩,A,A',A2,ab⟩) (k':=s.k) hs (by simp[KSt.step,KSt.val]) rfl ⟨⟨by simp,v0,v1,v2,v4,fun _=>by simp only;omega⟩,hA',hJ.a⟩ hc hdis (fun r _=>rfl) d)
theorem ks_32(hJ:KJ kb st s.m ⟨⟨32,n0,n1,n2,n3,n4,a⟩,A,A1,A2,ab⟩)(hs:KU kb s w)(hc:Ans w ab)(hdis:¬KR kb s ab)(hF:∀r,KR kb s r∨r=ab→F r=none)(b:Frame)(cs:List Frame):
 Own Try.prog false F ((KLay kb).Out st s (fun r=>r=ab) ((KLay kb).stp s ⟨⟨32,n0,n1,n2,n3,n4,a⟩,A,A1,A2,ab⟩) w (b::cs)) (back (.tuple #[]) ((KLay kb).cf st ⟨⟨32,n0,n1,n2,n3,n4,a⟩,A,A1,A2,ab⟩++b::cs)) w:=by
 have hkb:F kb=none:=hF _ (.inl (.inl rfl))
 have hnb:F s.nb=none:=hF _ (.inl (.inr rfl))
 have hans:∀k,¬held F ⟨ab,k,none⟩:=fun k=>not_heldB (hF _ (.inr rfl)) k
 have hm:=hs.wf.n3
 have hmm:s.m=s.k.nx.length:=rfl
 have hS:=hJ.s
 obtain⟨_,v0,v1,v2,v4,vp⟩:=hJ.v
 simp only at v0 v1 v2 v4 vp
 refine own_step_back (K:=stK) (sa:=⟨st,0,none⟩) ?_
 have hpos:=vp (by simp)
 obtain⟨i,rfl⟩:∃i:Nat,n0=i:=⟨n0.toNat,by omega⟩
 obtain⟨h1,h2,h3,h4⟩:=hs.wf.hd
 have hq:=(pk_eq hs.wf (n:=(i:Nat)) v1).1
 by_cases e:s.k.hd=((i:Int),n1)
 ·rw[decide_eq_true e]at hq
  refine pk_3a (sv:=stepperV st) (i:=i) (t:=n1) (v:=n3) (n:=s.k.hd.1) (u:=s.k.hd.2) hq hs.c0 hS ?_
  exact kdo_pe1 hc hans hJ.a (.stop fun d=>k_ans (c:=⟨⟨32,(i:Nat),n1,n2,n3,n4,a⟩,A,A1,A2,ab⟩) (an:=(true,n3)) (k':=s.k) hs (by simp[KSt.step,e]) hdis d)
 ·rw[decide_eq_false e]at hq
  by_cases hneg:s.k.hd.1<0
  ·refine pk_3b (sv:=stepperV st) (i:=i) (t:=n1) (v:=n3) (n:=s.k.hd.1) (u:=s.k.hd.2) hq ⟨h1,by omega⟩ ⟨h3,h4⟩ hneg hs.c0 hS ?_
   exact kdo_pe1 hc hans hJ.a (.stop fun d=>k_ans (c:=⟨⟨32,(i:Nat),n1,n2,n3,n4,a⟩,A,A1,A2,ab⟩) (an:=(false,0)) (k':=s.k) hs (by simp[KSt.step,e,hneg]) hdis d)
  ·obtain⟨j,hj⟩:∃j:Nat,s.k.hd.1=j:=⟨s.k.hd.1.toNat,by omega⟩
   have ej:s.k.hd=((j:Int),s.k.hd.2):=Prod.ext hj rfl
   have hc0:=hs.c0
   rw[ej]at hc0
   rw[ej]at hq
   refine pk_3c (sv:=stepperV st) (i:=i) (j:=j) (t:=n1) (u:=s.k.hd.2) (v:=n3) hq ⟨by omega,by omega⟩ ⟨h3,h4⟩ hc0 hS fun A' hA'=>own_step_call (K:=stK) (.stop fun d=>k_live (c:=⟨⟨32,(i:Nat),n1,n2,n3,n4,a⟩,A,A1,A2,ab⟩) (c':=⟨⟨31,(j:Nat),s.k.hd.2,n2,n3,n4,a⟩,A,A',A2,ab⟩) (k':=s.k) hs (by simp[KSt.step,e,hneg,hj]) rfl ⟨⟨by simp,⟨by simp only;omega,by simp only;omega⟩,⟨h3,h4⟩,v2,v4,fun _=>by simp only;omega⟩,hA',hJ.a⟩ hc hdis (fun r _=>rfl) d)
theorem ks_40(hJ:KJ kb st s.m ⟨⟨40,n0,n1,n2,n3,n4,a⟩,A,A1,A2,ab⟩)(hs:KU kb s w)(hc:Ans w ab)(hdis:¬KR kb s ab)(hF:∀r,KR kb s r∨r=ab→F r=none)(b:Frame)(cs:List Frame):
 Own Try.prog false F ((KLay kb).Out st s (fun r=>r=ab) ((KLay kb).stp s ⟨⟨40,n0,n1,n2,n3,n4,a⟩,A,A1,A2,ab⟩) w (b::cs)) (back (.tuple #[]) ((KLay kb).cf st ⟨⟨40,n0,n1,n2,n3,n4,a⟩,A,A1,A2,ab⟩++b::cs)) w:=by
 have hkb:F kb=none:=hF _ (.inl (.inl rfl))
 have hnb:F s.nb=none:=hF _ (.inl (.inr rfl))
 have hans:∀k,¬held F ⟨ab,k,none⟩:=fun k=>not_heldB (hF _ (.inr rfl)) k
 have hm:=hs.wf.n3
 have hmm:s.m=s.k.nx.length:=rfl
 have hS:=hJ.s
 obtain⟨_,v0,v1,v2,v4,vp⟩:=hJ.v
 simp only at v0 v1 v2 v4 vp
 refine own_step_back (K:=stK) (sa:=⟨st,0,none⟩) ?_
 obtain⟨h1,h2,h3,h4⟩:=hs.wf.hd
 refine em_1 (sv:=stepperV st) (n:=s.k.hd.1) (t:=s.k.hd.2) ⟨h1,by omega⟩ ⟨h3,h4⟩ hs.c0 hS ?_
 exact kdo_em1 hc hans hJ.a (.stop fun d=>k_ans (c:=⟨⟨40,n0,n1,n2,n3,n4,a⟩,A,A1,A2,ab⟩) (an:=(decide (s.k.hd.1<0),0)) (k':=s.k) hs (by simp[KSt.step]) hdis d)
end
section
variable{s:KS}{a b0 c0:Int}{i:Nat}
def op2(w:World)(k a b c:Int):World:=(w.alloc (.cells #[.int .i64 k,.int .i64 a,.int .i64 b,.int .i64 c] 47)).alloc (.cells #[.bool false,.int .i64 0,.slice none 0 0] 44)
theorem op2_old{k a b c:Int}{r:Nat}(h:r<w.heap.size):(op2 w k a b c).heap[r]? =w.heap[r]?:=old2 _ _ _ h
theorem op2_new{k a b c:Int}:(op2 w k a b c).heap[w.heap.size+1]? =some (.cells #[.bool false,.int .i64 0,.slice none 0 0] 44 (0,0)):=new2 w _ _ 44
theorem kv_0(hs:KU kb s w){pc:Nat}(h:pc∈[10,20,30,40])(a:Int):KV s.m ⟨pc,0,0,0,0,0,a⟩:=by
 have hm:s.m=s.k.nx.length:=rfl
 have h2:=hs.wf.n2
 refine⟨?_,⟨by simp only;omega,by simp only;omega⟩,⟨by simp,by simp⟩,⟨by simp only;omega,by simp only;omega⟩,⟨by simp,by simp only;omega⟩,fun h=>by simp⟩
 simp at h ⊢
 omega
theorem k_beg{c':KC}{k a b0 c0:Int}{W:World}{cs:List Frame}(hs:KU kb s w)(hW:W=op2 w k a b0 c0)(hr:(s.k,.inl c'.c)=s.k.begin ⟨k,a,b0,c0⟩)(hab:c'.ab=w.heap.size+1)(hJ:KJ kb st s.m c')(d:Nat):
 (KLay kb).Out st s (fun _=>False) ((KLay kb).beg s i ⟨k,a,b0,c0⟩) w cs (G (Frame.enter Try.prog 133 #[.pointer (some ⟨st,0,none⟩)] .normal) ((KLay kb).cf st c'++cs)) (W.at d):=by
 subst hW
 refine⟨s,.inl c',⟨rfl,hr⟩,(hs.same fun r hr=>op2_old (hs.low hr)).same fun _ _=>rfl,fun q h=>.inl h,hJ,?_,fun q h=>.inr (by have h:q=c'.ab:=h;omega),fun q h h2=>?_,rfl⟩
 ·show Ans ((op2 w k a b0 c0).at d) c'.ab
  rw[hab]
  exact⟨_,_,_,op2_new⟩
 ·have h:q=c'.ab:=h
  have:=hs.low h2
  omega
theorem kbeg_pu(hs:KU kb s w)(hwf:Wf F w)(b:Frame)(cs:List Frame):
 Own Try.prog false F ((KLay kb).Out st s (fun _=>False) ((KLay kb).beg s i ⟨1,a,b0,c0⟩) w (b::cs)) (G (Frame.enter Try.prog 64 #[.pointer (some ⟨kb,0,none⟩),stepperV st,.int .i64 i,.agg #[.int .i64 1,.int .i64 a,.int .i64 b0,.int .i64 c0]] .normal) (b::cs)) w:=
 kdo_pu0 (sv:=stepperV st) (wf_under hwf) (Nat.le_refl _) fun A2 hA2=>pu_0 (sv:=stepperV st) fun A1 hA1=>tk_0 (sv:=stepperV st) (hx:=1) fun A hA=>own_step_call (K:=stK) (.stop fun d=>
  k_beg (c':=⟨⟨10,0,0,0,0,0,a⟩,A,A1,A2,w.heap.size+1⟩) hs rfl (by simp[KSt.begin]) rfl ⟨kv_0 hs (by simp) a,⟨hA,hA1⟩,hA2⟩ d)
theorem kbeg_po(hs:KU kb s w)(hwf:Wf F w)(b:Frame)(cs:List Frame):
 Own Try.prog false F ((KLay kb).Out st s (fun _=>False) ((KLay kb).beg s i ⟨2,a,b0,c0⟩) w (b::cs)) (G (Frame.enter Try.prog 64 #[.pointer (some ⟨kb,0,none⟩),stepperV st,.int .i64 i,.agg #[.int .i64 2,.int .i64 a,.int .i64 b0,.int .i64 c0]] .normal) (b::cs)) w:=
 kdo_po0 (sv:=stepperV st) (wf_under hwf) (Nat.le_refl _) fun A2 hA2=>po_0 (sv:=stepperV st) fun A1 hA1=>tk_0 (sv:=stepperV st) (hx:=0) fun A hA=>own_step_call (K:=stK) (.stop fun d=>
  k_beg (c':=⟨⟨20,0,0,0,0,0,0⟩,A,A1,A2,w.heap.size+1⟩) hs rfl (by simp[KSt.begin]) rfl ⟨kv_0 hs (by simp) 0,⟨hA,hA1⟩,hA2⟩ d)
theorem kbeg_pe(hs:KU kb s w)(hwf:Wf F w)(b:Frame)(cs:List Frame):
 Own Try.prog false F ((KLay kb).Out st s (fun _=>False) ((KLay kb).beg s i ⟨3,a,b0,c0⟩) w (b::cs)) (G (Frame.enter Try.prog 64 #[.pointer (some ⟨kb,0,none⟩),stepperV st,.int .i64 i,.agg #[.int .i64 3,.int .i64 a,.int .i64 b0,.int .i64 c0]] .normal) (b::cs)) w:=
 kdo_pe0 (sv:=stepperV st) (wf_under hwf) (Nat.le_refl _) fun A2 hA2=>pk_0 (sv:=stepperV st) fun A1 hA1=>own_step_call (K:=stK) (.stop fun d=>
  k_beg (c':=⟨⟨30,0,0,0,0,0,0⟩,A1,A1,A2,w.heap.size+1⟩) hs rfl (by simp[KSt.begin]) rfl ⟨kv_0 hs (by simp) 0,hA1,hA2⟩ d)
theorem kbeg_em(hs:KU kb s w)(hwf:Wf F w)(b:Frame)(cs:List Frame):
 Own Try.prog false F ((KLay kb).Out st s (fun _=>False) ((KLay kb).beg s i ⟨4,a,b0,c0⟩) w (b::cs)) (G (Frame.enter Try.prog 64 #[.pointer (some ⟨kb,0,none⟩),stepperV st,.int .i64 i,.agg #[.int .i64 4,.int .i64 a,.int .i64 b0,.int .i64 c0]] .normal) (b::cs)) w:=
 kdo_em0 (sv:=stepperV st) (wf_under hwf) (Nat.le_refl _) fun A2 hA2=>em_0 (sv:=stepperV st) fun A1 hA1=>own_step_call (K:=stK) (.stop fun d=>
  k_beg (c':=⟨⟨40,0,0,0,0,0,0⟩,A1,A1,A2,w.heap.size+1⟩) hs rfl (by simp[KSt.begin]) rfl ⟨kv_0 hs (by simp) 0,hA1,hA2⟩ d)
theorem kbeg_other{kd:Int}(h1:kd≠1)(h2:kd≠2)(h3:kd≠3)(h4:kd≠4)(hs:KU kb s w)(hwf:Wf F w)(b:Frame)(cs:List Frame):
 Own Try.prog false F ((KLay kb).Out st s (fun _=>False) ((KLay kb).beg s i ⟨kd,a,b0,c0⟩) w (b::cs)) (G (Frame.enter Try.prog 64 #[.pointer (some ⟨kb,0,none⟩),stepperV st,.int .i64 i,.agg #[.int .i64 kd,.int .i64 a,.int .i64 b0,.int .i64 c0]] .normal) (b::cs)) w:=by
 refine kdo_other (sv:=stepperV st) (wf_under hwf) (Nat.le_refl _) (by simpa using h1) (by simpa using h2) (by simpa using h3) (by simpa using h4) (.stop fun d=>?_)
 refine⟨s,.inr (false,0),⟨rfl,by simp[KSt.begin,h1,h2,h3,h4]⟩,hs.same fun r hr=>?_,fun r hr=>.inl hr,trivial,fun q h=>h.elim,fun q h=>h.elim,rfl⟩
 have hlt:=hs.low hr
 exact(ansW_same (by omega)).trans (old2 _ _ _ hlt)
end
theorem begin_len(s:KSt)(o:Op4):(s.begin o).1.nx.length=s.nx.length:=by
 unfold KSt.begin
 repeat' split
 all_goals rfl
theorem klay_ok(kb:Nat):(KLay kb).Ok where
 call:=callable64
 jb:=fun st s s' c i o r h hb=>by
  have e:s'.m=s.m:=by
   have:=congrArg (fun x:KSt×KRs=>x.1.nx.length) hb.2
   exact this.trans (begin_len _ _)
  show KJ kb st s'.m c
  rw[e]
  exact h
 js:=fun st s s' c c1 r h hb=>by
  have e:s'.m=s.m:=by
   have:=congrArg (fun x:KSt×KRs=>x.1.nx.length) hb.2
   exact this.trans (step_len _ _)
  show KJ kb st s'.m c
  rw[e]
  exact h
 plain:=by
  intro st c
  refine⟨by simp[KLay],fun u hu=>?_⟩
  have hu:u∈stepFr stK ⟨st,0,none⟩::c.fr:=hu
  rcases List.mem_cons.1 hu with rfl|hu
  ·exact plain_base ⟨_,Try.func79⟩ _ _
  ·unfold KC.fr at hu
   split at hu<;>
   ·simp only[List.mem_cons,List.mem_nil_iff,or_false,List.not_mem_nil]at hu
    repeat'(rcases hu with rfl|hu)
    all_goals first
     | exact plain_base ⟨_,Try.func78⟩ _ _
     | exact plain_base ⟨_,Try.func80⟩ _ _
     | exact plain_base ⟨_,Try.func45⟩ _ _
     | exact plain_base ⟨_,Try.func43⟩ _ _
     | exact plain_base ⟨_,Try.func44⟩ _ _
     | exact plain_base ⟨_,Try.func46⟩ _ _
     | exact plain_base ⟨_,Try.func64⟩ _ _
     | (subst hu
        exact plain_base ⟨_,Try.func64⟩ _ _)
 sS:=fun s w w' h _ hs=>KU.same h hs
 sC:=fun c w w' h _ hs=>ans_same h (hs _ rfl)
 sA:=fun _ _ _ _ _ _=>trivial
 lS:=fun s w r h hr=>KU.low h hr
 lC:=by
  rintro c w r h rfl
  obtain⟨_,_,_,h1⟩:=h.o
  exact(alt h1)
 lA:=fun _ _ _ _ h=>h.elim
 beg:=by
  intro s i o st F w c cs hs hwf hF
  obtain⟨kd,a,b0,c0⟩:=o
  by_cases h1:kd=1
  ·subst h1
   exact kbeg_pu hs hwf c cs
  ·by_cases h2:kd=2
   ·subst h2
    exact kbeg_po hs hwf c cs
   ·by_cases h3:kd=3
    ·subst h3
     exact kbeg_pe hs hwf c cs
    ·by_cases h4:kd=4
     ·subst h4
      exact kbeg_em hs hwf c cs
     ·exact kbeg_other h1 h2 h3 h4 hs hwf c cs
 stp:=by
  intro s c st F w b cs hJ hs hc hdis hwf hF
  obtain⟨⟨pc,n0,n1,n2,n3,n4,a⟩,A,A1,A2,ab⟩:=c
  have hJ:KJ kb st s.m ⟨⟨pc,n0,n1,n2,n3,n4,a⟩,A,A1,A2,ab⟩:=hJ
  have hpc:=hJ.v.pc
  have hd:¬KR kb s ab:=hdis ab rfl
  simp only[List.mem_cons,List.not_mem_nil,or_false]at hpc
  rcases hpc with rfl|rfl|rfl|rfl|rfl|rfl|rfl|rfl|rfl|rfl|rfl|rfl|rfl|rfl|rfl|rfl|rfl|rfl
  ·exact ks_10 hJ hs hc hd hF b cs
  ·exact ks_11 hJ hs hc hd hF b cs
  ·exact ks_12 hJ hs hc hd hF b cs
  ·exact ks_13 hJ hs hc hd hF b cs
  ·exact ks_14 hJ hs hc hd hF b cs
  ·exact ks_15 hJ hs hc hd hF b cs
  ·exact ks_16 hJ hs hc hd hF b cs
  ·exact ks_20 hJ hs hc hd hF b cs
  ·exact ks_21 hJ hs hc hd hF b cs
  ·exact ks_22 hJ hs hc hd hF b cs
  ·exact ks_23 hJ hs hc hd hF b cs
  ·exact ks_24 hJ hs hc hd hF b cs
  ·exact ks_25 hJ hs hc hd hF b cs
  ·exact ks_26 hJ hs hc hd hF b cs
  ·exact ks_30 hJ hs hc hd hF b cs
  ·exact ks_31 hJ hs hc hd hF b cs
  ·exact ks_32 hJ hs hc hd hF b cs
  ·exact ks_40 hJ hs hc hd hF b cs
end
section
variable{An:Anchor}{w w':World}
theorem OpsIn.later{N N':Nat→Prop}{n tb o tl:Nat}{ta:Option Addr}{oa:Nat→Option Addr}{ol oc:Nat→Nat}{ops:Nat→List Op4}{S:List Int}{sa:Option Addr}(h:OpsIn w N n tb o tl ta oa ol oc ops S sa)(hs:w.heap.size≤w'.heap.size)(hold:∀r,r<w.heap.size→w'.heap[r]? =w.heap[r]?)(hN:∀r,N' r→w.heap.size≤r):OpsIn w' N' n tb o tl ta oa ol oc ops S sa:=by
 have hc:∀{a:Addr} {v:Value},w.cell? a=some v→w'.cell? a=some v∧w'.frozen? a=w.frozen? a:=fun{a v} h=>by
  obtain⟨c,e,z,ho⟩:=cell_block h
  have e1:=hold _ (alt ho)
  exact⟨by rw[← h];unfold World.cell?;simp only[e1],by unfold World.frozen?;simp only[e1]⟩
 refine⟨h.hn,h.hta,fun hp=>by have:=h.htb hp;omega,fun j hj=>?_,h.hlen,fun j hj k x hx=>?_,h.hsl,fun hp=>?_⟩
 ·obtain⟨h1,h2,h3⟩:=h.hth j hj
  exact⟨(hc h1).1,(hc h1).2.trans h2,h3⟩
 ·obtain⟨opb,oo,h1,h2,f0,f1,f2,f3,g0,g1,g2,g3⟩:=h.hop j hj k x hx
  obtain⟨c,e,z,ho⟩:=cell_block f0
  have hlt:=(alt ho)
  exact⟨opb,oo,h1,fun hn=>by have:=hN _ hn;simp only at hlt;omega,(hc f0).1,(hc f1).1,(hc f2).1,(hc f3).1,(hc f0).2.trans g0,(hc f1).2.trans g1,(hc f2).2.trans g2,(hc f3).2.trans g3⟩
 ·obtain⟨sb,so,c,e,z,h1,h2,h3,h4⟩:=h.hS hp
  have hlt:=(alt h3)
  exact⟨sb,so,c,e,z,h1,fun hn=>by have:=hN _ hn;omega,(hold _ hlt).trans h3,h4⟩
theorem own_off{base n size:Nat}{e:TypeId}{v:Value}{xs:List Value}(h:w.ownsRow base e size v n xs)(hs:∀b c,w.heap[b]? =some (.cells c e (0,0))→base≤b→w'.heap[b]? =w.heap[b]?):w'.ownsRow base e size v n xs:=by
 refine⟨h.1,?_⟩
 rcases h.2 with h2|⟨b,cap,cur,rfl,h3,h4,h5⟩
 ·exact .inl h2
 ·exact .inr ⟨b,cap,cur,rfl,h3,(hs b cur h4 h3).trans h4,h5⟩
structure PlayU(w:World)(n:Nat)(ans:Nat→List (Bool×Int))(state:List Int)(order:List Nat)(aa:Nat)(ov sv:Value)(w':World):Prop where
 size:w.heap.size≤w'.heap.size
 old:∀(r:Nat) (c:Array Value) (e:TypeId) (z:Nat×Nat),w.heap[r]? =some (.cells c e z)→w'.heap[r]? =some (.cells c e z)
 arr:∃c,w'.heap[aa]? =some (.cells c 42 (0,0))∧c.size=n∧∀i,i<n→∃v,c[i]? =some v∧(ans i).length≤65536∧w'.ownsRow 0 44 3 v (ans i).length (ansC (ans i))
 ord:w'.ownsRow w.heap.size 3 1 ov order.length (order.map fun i:Nat=>Value.int .i64 i)
 st:w'.ownsRow w.heap.size 2 1 sv state.length (state.map fun v=>.int .i64 v)
def KSt.state(s:KSt):List Int:=[s.hd.1,s.hd.2,s.fr.1,s.fr.2]++s.vals
def kabs(kb:Nat):Abs (KLay kb) KPl:=⟨KS.k,KC.c,id⟩
theorem kabs_ok(kb:Nat):(kabs kb).Ok where
 beg:=fun s i o y h=>by
  obtain⟨y1,y2⟩:=y
  have h2:=h.2
  cases y2<;>exact h2
 stp:=fun s c y h=>by
  obtain⟨y1,y2⟩:=y
  have h2:=h.2
  cases y2<;>exact h2
def ks0(n:Nat)(tg:Bool):GS KPl:=⟨knew n tg,fun _=>⟨0,none,[]⟩⟩
theorem bes_kplay{size:Int}{tg:Bool}{m0:Nat}(hm0:min (max size 1) 65536=(m0:Int))
 {n tb o tl tc sc M:Nat} {mo:Int} {ta sa:Option Addr} {oa:Nat→Option Addr} {ol oc:Nat→Nat} {ops:Nat→List Op4} {S:List Int} (hI:OpsIn w (fun _=>False) n tb o tl ta oa ol oc ops S sa) (hM:min (max mo 0) 1048576=(M:Int)) {c:Frame} {cs:List Frame} {Stop:Goroutine→World→Prop}
 (hP:∀(s:GS KPl) order,gDone n M (s,order)→(∃k,∀f,k≤f→gOver ops n M S f (ks0 m0 tg)=(s,order))→
   ∀aa oa' oc' xa xc w',PlayU w n (fun i=>(s.th i).ans) (KSt.state s.q) order aa (.slice oa' order.length oc') (.slice xa (KSt.state s.q).length xc) w'→
    Bes An Try.prog Stop (G (c.finish (.agg #[.slice (some ⟨aa,0,none⟩) n n,.slice oa' order.length oc',.slice xa (KSt.state s.q).length xc,.bool (decide (0<cnt s.live n))])) cs) w'):
 Bes An Try.prog Stop (G (Frame.enter Try.prog 34 #[.int .i64 size,.bool tg,.slice ta tl tc,.slice sa S.length sc,.int .i64 mo] .normal) (c::cs)) w:=by
 have hF:∀a:Addr,¬held F0 a:=fun a h=>by obtain⟨z,hz,_⟩:=h;cases hz
 have hrow0:∀r,r<w.heap.size→(w.alloc (.cells #[.slice none 0 0,.slice none 0 0,.slice none 0 0,.bool false] 31)).heap[r]? =w.heap[r]?:=fun r hr=>heap_alloc_lt _ _ hr
 have hs0:(w.alloc (.cells #[.slice none 0 0,.slice none 0 0,.slice none 0 0,.bool false] 31)).heap.size=w.heap.size+1:=by simp
 have htr:TrAt (w.alloc (.cells #[.slice none 0 0,.slice none 0 0,.slice none 0 0,.bool false] 31)) w.heap.size (.slice none 0 0) (.slice none 0 0) (.slice none 0 0) (.bool false):=⟨heap_alloc_new _ _⟩
 refine bes_own (F:=F0) (Stop:=fun a u=>∃A,a=G (Frame.enter Try.prog 47 #[.slice ta tl tc,.func (.func 64) #[.pointer (some ⟨w.heap.size+2,0,none⟩)] #[],.slice sa S.length sc,.int .i64 mo] .normal) (((Go.Conc.base 34).at ⟨A,[]⟩ [.inRegion (oC kplr2) [5,6,7],.code kpls3])::c::cs)∧
  Slots 26 A [(10,.pointer (some ⟨w.heap.size,0,none⟩)),(11,.pointer (some ⟨w.heap.size+2,0,none⟩))]∧KU (w.heap.size+2) ⟨knew m0 tg,w.heap.size+1⟩ u∧w.heap.size+3≤u.heap.size∧(∀r,r<w.heap.size+1→u.heap[r]? =(w.alloc (.cells #[.slice none 0 0,.slice none 0 0,.slice none 0 0,.bool false] 31)).heap[r]?))
  (kpl_0 under_F0 (Nat.zero_le _) fun A hA=>own_knew hm0 fun w1 k1 k2 k3=>by
    rw[hs0]at k1 k2 k3 ⊢
    exact kpl_1 hA fun A2 hA2=>.stop fun d=>⟨A2,rfl,hA2,k1.heap rfl,k2,k3⟩) fun a W hS=>?_
 obtain⟨A,rfl,hA,hQ,hWs,hWo⟩:=hS
 have hold1:∀r,r<w.heap.size→W.heap[r]? =w.heap[r]?:=fun r hr=>(hWo r (by omega)).trans (hrow0 r hr)
 have hrb1:W.heap[w.heap.size]? =some (.cells #[.slice none 0 0,.slice none 0 0,.slice none 0 0,.bool false] 31 (0,0)):=(hWo _ (by omega)).trans htr.o
 have hNr:∀r,(KLay (w.heap.size+2)).SR ⟨knew m0 tg,w.heap.size+1⟩ r→w.heap.size+1≤r:=fun r hr=>by
  rcases hr with rfl|rfl<;>simp
 have hI1:OpsIn W ((KLay (w.heap.size+2)).SR ⟨knew m0 tg,w.heap.size+1⟩) n tb o tl ta oa ol oc ops S sa:=hI.later (by omega) hold1 fun r hr=>by have:=hNr r hr;omega
 refine bes_ops (L:=KLay (w.heap.size+2)) (klay_ok _) (s0:=⟨knew m0 tg,w.heap.size+1⟩) hQ hI1 hM ?_
 intro g p p' t u oa' oc' hg hpn hpo hOk hrel hpn' hpo' hpa hU hord hnR hsz hkeep
 obtain⟨hd,hover⟩:=overG_abs (ab:=kabs _) (kabs_ok _) hOk (fun j hj=>⟨rfl,rfl⟩) hrel
 rw[hpo]at hover
 have hK:=hP _ _ hd hover
 have hQU:KU (w.heap.size+2) t.1.s u:=hU.su
 have hrb2:u.heap[w.heap.size]? =some (.cells #[.slice none 0 0,.slice none 0 0,.slice none 0 0,.bool false] 31 (0,0)):=hkeep _ _ _ _ hrb1 fun h=>by have:=hNr _ h;omega
 have hcnt:cnt ((opsUsers (KLay (w.heap.size+2)) p g).liv t.1) n=cnt ((kabs _).x t.1).live n:=cnt_congr fun j _=>livG_abs t.1 j
 rw[hcnt]
 obtain⟨ca,hca,hcs,hci⟩:=hU.arr
 have hlt:=(alt hca)
 have hlr:=(alt hrb2)
 have htb:=heap_alloc_new u (.cells #[.slice (some ⟨p.aa,0,none⟩) n n,.slice oa' t.2.length oc',.slice none 0 0,.bool (decide (0<cnt ((kabs _).x t.1).live n))] 31)
 have htl:∀r,r<u.heap.size→(u.alloc (.cells #[.slice (some ⟨p.aa,0,none⟩) n n,.slice oa' t.2.length oc',.slice none 0 0,.bool (decide (0<cnt ((kabs _).x t.1).live n))] 31)).heap[r]? =u.heap[r]?:=fun r hr=>heap_alloc_lt _ _ hr
 have hts:(u.alloc (.cells #[.slice (some ⟨p.aa,0,none⟩) n n,.slice oa' t.2.length oc',.slice none 0 0,.bool (decide (0<cnt ((kabs _).x t.1).live n))] 31)).heap.size=u.heap.size+1:=by simp
 have hstl:(KSt.state ((kabs (w.heap.size+2)).x t.1).q).length=4+(KSt.vals t.1.s.k).length:=by
  show(KSt.state t.1.s.k).length=_
  simp only[KSt.state,List.length_append,List.length_cons,List.length_nil]
 refine bes_own (F:=F0) (Stop:=fun a u2=>∃xa xc,a=G (c.finish (.agg #[.slice (some ⟨p.aa,0,none⟩) n n,.slice oa' t.2.length oc',.slice xa (KSt.state ((kabs (w.heap.size+2)).x t.1).q).length xc,.bool (decide (0<cnt ((kabs (w.heap.size+2)).x t.1).live n))])) cs∧
  PlayU w n (fun i=>(((kabs (w.heap.size+2)).x t.1).th i).ans) (KSt.state ((kabs (w.heap.size+2)).x t.1).q) t.2 p.aa (.slice oa' t.2.length oc') (.slice xa (KSt.state ((kabs (w.heap.size+2)).x t.1).q).length xc) u2)
  (kpl_2 under_F0 (Nat.zero_le _) hA fun A2 hA2=>?_) fun a u2 ⟨xa,xc,ha,hu2⟩=>?_
 ·generalize u.alloc (.cells #[.slice (some ⟨p.aa,0,none⟩) n n,.slice oa' t.2.length oc',.slice none 0 0,.bool (decide (0<cnt ((kabs (w.heap.size+2)).x t.1).live n))] 31)=U at htb htl hts ⊢
  refine own_kstate (hQU.same fun r hr=>htl r (hQU.low hr)) fun w2 l' hV=>?_
  have k1:=hV.row
  obtain⟨xa,xc,rfl⟩:∃xa xc,l'= .slice xa (KSt.state ((kabs (w.heap.size+2)).x t.1).q).length xc:=by
   rcases k1.2 with⟨rfl,h⟩|⟨b,cap,cur,rfl,_⟩
   ·simp at h
   ·exact⟨_,_,rfl⟩
  have hR:TrAt w2 w.heap.size (.slice none 0 0) (.slice none 0 0) (.slice none 0 0) (.bool false):=⟨(hV.old _ (by omega)).trans ((htl _ hlr).trans hrb2)⟩
  have hT:TrAt w2 u.heap.size (.slice (some ⟨p.aa,0,none⟩) n n) (.slice oa' t.2.length oc') (.slice none 0 0) (.bool (decide (0<cnt ((kabs (w.heap.size+2)).x t.1).live n))):=⟨(hV.old _ (by omega)).trans htb⟩
  refine kpl_3 (show w.heap.size≠u.heap.size by omega) hR hT (fun k=>hF _) (fun k=>hF _) hA2 (.stop fun d=>⟨xa,xc,rfl,?_⟩)
  have hV2:=hV.size
  have hlw:∀r,r<u.heap.size→w2.heap[r]? =u.heap[r]?:=fun r hr=>(hV.old _ (by omega)).trans (htl _ hr)
  have hne:∀r,r≠w.heap.size→r≠u.heap.size→(trW (w2.setCell ⟨u.heap.size,2,none⟩ (.slice xa (KSt.state ((kabs (w.heap.size+2)).x t.1).q).length xc)) w.heap.size (.slice (some ⟨p.aa,0,none⟩) n n) (.slice oa' t.2.length oc') (.slice xa (KSt.state ((kabs (w.heap.size+2)).x t.1).q).length xc) (.bool (decide (0<cnt ((kabs (w.heap.size+2)).x t.1).live n)))).heap[r]? =w2.heap[r]?:=fun r hr hr2=>by
   unfold trW
   rw[heap_setCell_ne _ _ _ hr,heap_setCell_ne _ _ _ hr,heap_setCell_ne _ _ _ hr,heap_setCell_ne _ _ _ hr,heap_setCell_ne _ _ _ hr2]
  have hsz2:(trW (w2.setCell ⟨u.heap.size,2,none⟩ (.slice xa (KSt.state ((kabs (w.heap.size+2)).x t.1).q).length xc)) w.heap.size (.slice (some ⟨p.aa,0,none⟩) n n) (.slice oa' t.2.length oc') (.slice xa (KSt.state ((kabs (w.heap.size+2)).x t.1).q).length xc) (.bool (decide (0<cnt ((kabs (w.heap.size+2)).x t.1).live n)))).heap.size=w2.heap.size:=by
   unfold trW;simp
  show PlayU _ _ _ _ _ _ _ _ ((trW (w2.setCell ⟨u.heap.size,2,none⟩ (.slice xa (KSt.state ((kabs (w.heap.size+2)).x t.1).q).length xc)) w.heap.size (.slice (some ⟨p.aa,0,none⟩) n n) (.slice oa' t.2.length oc') (.slice xa (KSt.state ((kabs (w.heap.size+2)).x t.1).q).length xc) (.bool (decide (0<cnt ((kabs (w.heap.size+2)).x t.1).live n)))).at d)
  have hne2:∀r,r≠w.heap.size→r≠u.heap.size→((trW (w2.setCell ⟨u.heap.size,2,none⟩ (.slice xa (KSt.state ((kabs (w.heap.size+2)).x t.1).q).length xc)) w.heap.size (.slice (some ⟨p.aa,0,none⟩) n n) (.slice oa' t.2.length oc') (.slice xa (KSt.state ((kabs (w.heap.size+2)).x t.1).q).length xc) (.bool (decide (0<cnt ((kabs (w.heap.size+2)).x t.1).live n)))).at d).heap[r]? =w2.heap[r]?:=hne
  have hsz3:((trW (w2.setCell ⟨u.heap.size,2,none⟩ (.slice xa (KSt.state ((kabs (w.heap.size+2)).x t.1).q).length xc)) w.heap.size (.slice (some ⟨p.aa,0,none⟩) n n) (.slice oa' t.2.length oc') (.slice xa (KSt.state ((kabs (w.heap.size+2)).x t.1).q).length xc) (.bool (decide (0<cnt ((kabs (w.heap.size+2)).x t.1).live n)))).at d).heap.size=w2.heap.size:=hsz2
  generalize (trW (w2.setCell ⟨u.heap.size,2,none⟩ (.slice xa (KSt.state ((kabs (w.heap.size+2)).x t.1).q).length xc)) w.heap.size (.slice (some ⟨p.aa,0,none⟩) n n) (.slice oa' t.2.length oc') (.slice xa (KSt.state ((kabs (w.heap.size+2)).x t.1).q).length xc) (.bool (decide (0<cnt ((kabs (w.heap.size+2)).x t.1).live n)))).at d=V at hne2 hsz3 ⊢
  have hty:∀(b:Nat) (c:Array Value) (e:TypeId) (z:Nat×Nat),u.heap[b]? =some (.cells c e z)→e≠31→V.heap[b]? =u.heap[b]?:=fun b cc e z hb he=>by
   have hbl:=(alt hb)
   rw[hne2 b (fun h=>by rw[h,hrb2]at hb;cases hb;exact he rfl) (by omega),hlw b hbl]
  refine⟨by omega,fun r cc e z hr=>?_,⟨ca,?_,?_,fun i hi=>?_⟩,?_,?_⟩
  ·have hlt:=(alt hr)
   rw[hne2 r (by omega) (by omega),hlw r (by omega)]
   exact hkeep _ _ _ _ ((hold1 r hlt).trans hr) fun h=>by have:=hNr _ h;omega
  ·rw[hty _ _ _ _ (hpa ▸ hca) (by decide)]
   exact hpa ▸ hca
  ·rw[hcs,hpn']
  ·have hi':i<p'.n:=by rw[hpn'];exact hi
   have ht:=hU.thr i hi'
   have e0:(((kabs (w.heap.size+2)).x t.1).th i).ans=(t.1.th i).ans:=List.map_id _
   refine⟨_,hci i hi',?_,?_⟩
   ·simp only[e0]
    have h1:=ht.al
    have h2:=ht.kl
    rw[hpo',hI.hlen i hi]at h2
    exact Nat.le_trans (Nat.le_of_eq h1) (Nat.le_trans h2 (by omega))
   ·simp only[e0]
    have hr:u.ownsRow 0 44 3 (t.1.th i).row (t.1.th i).ans.length (ansC (t.1.th i).ans):=ht.row
    exact own_off hr fun b cc hb _=>hty b cc _ _ hb (by decide)
  ·exact ownsRow_mono_base (by omega) (own_off hord fun b cc hb _=>hty b cc _ _ hb (by decide))
  ·have e2:V.ownsRow 0 2 1 (.slice xa (KSt.state ((kabs (w.heap.size+2)).x t.1).q).length xc) (KSt.state ((kabs (w.heap.size+2)).x t.1).q).length ((KSt.state ((kabs (w.heap.size+2)).x t.1).q).map fun v=>.int .i64 v):=by
    refine ownsRow_same2 k1 fun b hb _=>?_
    have:=hV.new b hb
    exact hne2 b (by omega) (by omega)
   refine⟨e2.1,?_⟩
   rcases e2.2 with h|⟨b,cap,cur,h1,h2,h3⟩
   ·exact .inl h
   ·refine .inr ⟨b,cap,cur,h1,?_,h3⟩
    have:=hV.new b (by rw[h1];rfl)
    omega
 ·subst ha
  exact hK _ _ _ _ _ _ hu2
end
section
def Chn(nx:List Int):Int→List Nat→Prop
 | h,[]=>h= -1
 | h,i::l=>h=i∧i<nx.length∧Chn nx (nx.getD i 0) l
theorem Chn.set{nx:List Int}{i:Nat}{v:Int}:∀{l:List Nat} {h:Int},Chn nx h l→i ∉ l→Chn (nx.set i v) h l
 | [],h,c,_=>c
 | j::l,h,⟨c1,c2,c3⟩,hi=>by
   have hne:j≠i:=fun e=>hi (by simp[e])
   refine⟨c1,by simpa using c2,?_⟩
   have e:(nx.set i v).getD j 0=nx.getD j 0:=by simp[List.getD,List.getElem?_set,hne.symm]
   rw[e]
   exact c3.set fun h=>hi (by simp[h])
theorem Chn.pos{nx:List Int}{h:Int}{l:List Nat}(c:Chn nx h l)(hn:0≤h):∃i m,l=i::m∧h=(i:Int)∧i<nx.length∧Chn nx (nx.getD i 0) m:=by
 cases l with
 | nil=>have c:h= -1:=c;omega
 | cons i l=>exact⟨i,l,rfl,c⟩
theorem Chn.lt{nx:List Int}:∀{l:List Nat} {h:Int},Chn nx h l→∀i,i∈l→i<nx.length
 | [],h,_,i,hi=>by simp at hi
 | j::l,h,⟨_,c2,c3⟩,i,hi=>by
   rcases List.mem_cons.1 hi with rfl|hi
   ·exact c2
   ·exact c3.lt i hi
def KCl.own(c:KCl):Option Nat:=if(13≤c.pc∧c.pc≤16)∨(23≤c.pc∧c.pc≤26)then some c.n4.toNat else none
def KCl.hand(q:KSt)(c:KCl):List Int:=if c.pc=23 then[q.val c.n4]else if 24≤c.pc∧c.pc≤26 then[c.n3]else[]
def ownT(t:GT KPl):Option Nat:=match t.call with
 | some c=>KCl.own c
 | none=>none
def handT(q:KSt)(t:GT KPl):List Int:=match t.call with
 | some c=>KCl.hand q c
 | none=>[]
def Kno(q:KSt)(c:KCl):Prop:=
 (c.pc=10∨c.pc=20∨c.pc=30∨c.pc=40)∨
 (c.pc=11∧0≤c.n0∧c.n1≤q.fr.2∧(c.n1=q.fr.2→q.fr.1=c.n0))∨
 (c.pc=12∧0≤c.n0∧c.n1≤q.fr.2∧(c.n1=q.fr.2→q.fr.1=c.n0∧q.nxt c.n0=c.n2))∨
 (c.pc=13∧0≤c.n4)∨
 ((c.pc=14∨c.pc=15)∧0≤c.n4∧q.val c.n4=c.a)∨
 (c.pc=16∧0≤c.n4∧q.val c.n4=c.a∧q.nxt c.n4=c.n0)∨
 (c.pc=21∧0≤c.n0∧c.n1≤q.hd.2∧(c.n1=q.hd.2→q.hd.1=c.n0))∨
 (c.pc=22∧0≤c.n0∧c.n1≤q.hd.2∧(c.n1=q.hd.2→q.hd.1=c.n0∧q.nxt c.n0=c.n2))∨
 ((c.pc=23∨c.pc=24∨c.pc=25)∧0≤c.n4)∨
 (c.pc=26∧0≤c.n4∧q.nxt c.n4=c.n0)∨
 (c.pc=31∧0≤c.n0∧c.n1≤q.hd.2∧(c.n1=q.hd.2→q.hd.1=c.n0))∨
 (c.pc=32∧0≤c.n0∧c.n1≤q.hd.2∧(c.n1=q.hd.2→q.hd.1=c.n0∧q.val c.n0=c.n3))
def psh:List Op4→List (Bool×Int)→List Int
 | o::l,a::m=>if o.kd=1∧a.1=true then o.a::psh l m else psh l m
 | _,_=>[]
def gps:List Op4→List (Bool×Int)→List Int
 | o::l,a::m=>if o.kd=2∧a.1=true then a.2::gps l m else gps l m
 | _,_=>[]
def pvl:List Op4→List Int
 | o::l=>if o.kd=1 then o.a::pvl l else pvl l
 | []=>[]
theorem psh_snoc:∀(l:List Op4) (m:List (Bool×Int)) (a:Bool×Int) (o:Op4),l[m.length]? =some o→psh l (m++[a])=psh l m++if o.kd=1∧a.1=true then[o.a]else[]
 | [],m,a,o,h=>by simp at h
 | p::l,[],a,o,h=>by
   simp at h
   subst h
   simp only[List.nil_append,psh]
 | p::l,b::m,a,o,h=>by
   simp only[List.length_cons,List.getElem?_cons_succ]at h
   simp only[List.cons_append,psh,psh_snoc l m a o h]
   split<;>simp
theorem gps_snoc:∀(l:List Op4) (m:List (Bool×Int)) (a:Bool×Int) (o:Op4),l[m.length]? =some o→gps l (m++[a])=gps l m++if o.kd=2∧a.1=true then[a.2]else[]
 | [],m,a,o,h=>by simp at h
 | p::l,[],a,o,h=>by
   simp at h
   subst h
   simp only[List.nil_append,gps]
 | p::l,b::m,a,o,h=>by
   simp only[List.length_cons,List.getElem?_cons_succ]at h
   simp only[List.cons_append,gps,gps_snoc l m a o h]
   split<;>simp
theorem psh_le(v:Int):∀(l:List Op4) (m:List (Bool×Int)),(psh l m).count v≤(pvl l).count v
 | [],m=>by simp[psh]
 | o::l,[]=>by simp[psh]
 | o::l,a::m=>by
   have:=psh_le v l m
   simp only[psh,pvl]
   by_cases h1:o.kd=1
   ·by_cases h2:a.1=true
    ·rw[if_pos ⟨h1,h2⟩,if_pos h1,List.count_cons,List.count_cons];omega
    ·rw[if_neg (fun h=>h2 h.2),if_pos h1,List.count_cons];omega
   ·rw[if_neg (fun h=>h1 h.1),if_neg h1];exact this
def sm:Nat→(Nat→Nat)→Nat
 | 0,_=>0
 | n+1,f=>sm n f+f n
theorem sm_same{n:Nat}{f g:Nat→Nat}(h:∀k,k<n→f k=g k):sm n f=sm n g:=by
 induction n with
 | zero=>rfl
 | succ n ih=>simp only[sm];rw[ih fun k hk=>h k (by omega),h n (by omega)]
theorem sm_put{n j:Nat}{f g:Nat→Nat}(hj:j<n)(h:∀k,k≠j→g k=f k):sm n g+f j=sm n f+g j:=by
 induction n with
 | zero=>omega
 | succ n ih=>
   simp only[sm]
   by_cases e:j=n
   ·subst e
    rw[sm_same fun k hk=>h k (by omega)]
    omega
   ·have:=ih (by omega)
    rw[h n (by omega)]
    omega
theorem sm_le{n:Nat}{f g:Nat→Nat}(h:∀k,k<n→f k≤g k):sm n f≤sm n g:=by
 induction n with
 | zero=>exact Nat.le_refl _
 | succ n ih=>simp only[sm];have:=ih fun k hk=>h k (by omega);have:=h n (by omega);omega
theorem sm_one{n j:Nat}{f:Nat→Nat}(hj:j<n):f j≤sm n f:=by
 induction n with
 | zero=>omega
 | succ n ih=>
   simp only[sm]
   by_cases e:j=n
   ·subst e;omega
   ·have:=ih (by omega);omega
def bgv(n:Nat)(ops:Nat→List Op4)(v:Int):Nat:=sm n fun j=>(pvl (ops j)).count v
structure TI4(n:Nat)(ops:Nat→List Op4)(q:KSt)(l:List Op4)(t:GT KPl):Prop where
 k:t.k=t.ans.length
 le:t.k≤l.length
 call:∀c:KCl,t.call=some c→Kno q c∧∃o:Op4,l[t.k]? =some o∧(c.pc / 10:Nat)=o.kd∧(o.kd=1→c.a=o.a)
 ans:∀(i:Nat) (o:Op4) (a:Bool×Int),l[i]? =some o→t.ans[i]? =some a→o.kd=2∨o.kd=3→(a.1=true→0<bgv n ops a.2)∧(a.1=false→a.2=0)
structure RI(N n:Nat)(ops:Nat→List Op4)(ch fl:List Nat)(q:KSt)(th:Nat→GT KPl)(m:Nat):Prop where
 tg:q.tg=true
 nx:q.nx.length=N
 vl:q.vl.length=N
 ht:0≤q.hd.2∧q.hd.2≤m
 ft:0≤q.fr.2∧q.fr.2≤m
 hc:Chn q.nx q.hd.1 ch
 fc:Chn q.nx q.fr.1 fl
 nd:(ch++fl).Nodup
 own:∀j i,ownT (th j)=some i→i<N∧i ∉ ch∧i ∉ fl
 one:∀j j' i,ownT (th j)=some i→ownT (th j')=some i→j=j'
 ti:∀j,j<n→TI4 n ops q (ops j) (th j)
 no:∀j,n≤j→(th j).call=none
 bal:∀v,sm n (fun j=>(psh (ops j) (th j).ans).count v)=(ch.map fun i:Nat=>q.val i).count v+sm n (fun j=>(handT q (th j)).count v)+sm n (fun j=>(gps (ops j) (th j).ans).count v)
end
section
section
variable{q:KSt}{c:KCl}
theorem val_set{i:Nat}{v x:Int}(hx:0≤x)(hi:x.toNat≠i):({q with vl:=q.vl.set i v}:KSt).val x=q.val x:=by
 unfold KSt.val
 simp[List.getD,List.getElem?_set,Ne.symm hi]
theorem nxt_set{i:Nat}{v x:Int}(hx:0≤x)(hi:x.toNat≠i):({q with nx:=q.nx.set i v}:KSt).nxt x=q.nxt x:=by
 unfold KSt.nxt
 simp[List.getD,List.getElem?_set,Ne.symm hi]
theorem kown_ne{i:Nat}(ho:KCl.own c≠some i)(hp:(13≤c.pc∧c.pc≤16)∨(23≤c.pc∧c.pc≤26)):c.n4.toNat≠i:=fun e=>ho (by unfold KCl.own;rw[if_pos hp,e])
theorem Kno.vl{i:Nat}{v:Int}(h:Kno q c)(ho:KCl.own c≠some i)(hh:q.hd.1≠(i:Int)):Kno {q with vl:=q.vl.set i v} c:=by
 unfold Kno at h ⊢
 have hw:(13≤c.pc∧c.pc≤16)∨(23≤c.pc∧c.pc≤26)→c.n4.toNat≠i:=kown_ne ho
 rcases h with h|h|h|h|h|h|h|h|h|h|h|h
 ·exact .inl h
 ·exact .inr (.inl h)
 ·exact .inr (.inr (.inl h))
 ·exact .inr (.inr (.inr (.inl h)))
 ·obtain⟨p,a,b⟩:=h
  exact .inr (.inr (.inr (.inr (.inl ⟨p,a,by rw[val_set a (hw (by omega))];exact b⟩))))
 ·obtain⟨p,a,b,e⟩:=h
  exact .inr (.inr (.inr (.inr (.inr (.inl ⟨p,a,by rw[val_set a (hw (by omega))];exact b,e⟩)))))
 ·exact .inr (.inr (.inr (.inr (.inr (.inr (.inl h))))))
 ·exact .inr (.inr (.inr (.inr (.inr (.inr (.inr (.inl h)))))))
 ·exact .inr (.inr (.inr (.inr (.inr (.inr (.inr (.inr (.inl h))))))))
 ·exact .inr (.inr (.inr (.inr (.inr (.inr (.inr (.inr (.inr (.inl h)))))))))
 ·exact .inr (.inr (.inr (.inr (.inr (.inr (.inr (.inr (.inr (.inr (.inl h))))))))))
 ·obtain⟨p,a,b,e⟩:=h
  refine .inr (.inr (.inr (.inr (.inr (.inr (.inr (.inr (.inr (.inr (.inr ⟨p,a,b,fun x=>⟨(e x).1,?_⟩⟩))))))))))
  have:=(e x).1
  rw[val_set a (by omega)]
  exact(e x).2
theorem Kno.nx{i:Nat}{v:Int}(h:Kno q c)(ho:KCl.own c≠some i)(hh:q.hd.1≠(i:Int))(hf:q.fr.1≠(i:Int)):Kno {q with nx:=q.nx.set i v} c:=by
 unfold Kno at h ⊢
 have hw:(13≤c.pc∧c.pc≤16)∨(23≤c.pc∧c.pc≤26)→c.n4.toNat≠i:=kown_ne ho
 rcases h with h|h|h|h|h|h|h|h|h|h|h|h
 ·exact .inl h
 ·exact .inr (.inl h)
 ·obtain⟨p,a,b,e⟩:=h
  refine .inr (.inr (.inl ⟨p,a,b,fun x=>⟨(e x).1,?_⟩⟩))
  have:=(e x).1
  rw[nxt_set a (by omega)]
  exact(e x).2
 ·exact .inr (.inr (.inr (.inl h)))
 ·exact .inr (.inr (.inr (.inr (.inl h))))
 ·obtain⟨p,a,b,e⟩:=h
  exact .inr (.inr (.inr (.inr (.inr (.inl ⟨p,a,b,by rw[nxt_set a (hw (by omega))];exact e⟩)))))
 ·exact .inr (.inr (.inr (.inr (.inr (.inr (.inl h))))))
 ·obtain⟨p,a,b,e⟩:=h
  refine .inr (.inr (.inr (.inr (.inr (.inr (.inr (.inl ⟨p,a,b,fun x=>⟨(e x).1,?_⟩⟩)))))))
  have:=(e x).1
  rw[nxt_set a (by omega)]
  exact(e x).2
 ·exact .inr (.inr (.inr (.inr (.inr (.inr (.inr (.inr (.inl h))))))))
 ·obtain⟨p,a,e⟩:=h
  exact .inr (.inr (.inr (.inr (.inr (.inr (.inr (.inr (.inr (.inl ⟨p,a,by rw[nxt_set a (hw (by omega))];exact e⟩)))))))))
 ·exact .inr (.inr (.inr (.inr (.inr (.inr (.inr (.inr (.inr (.inr (.inl h))))))))))
 ·exact .inr (.inr (.inr (.inr (.inr (.inr (.inr (.inr (.inr (.inr (.inr h))))))))))
theorem Kno.fr{x y:Int}(h:Kno q c)(hy:q.fr.2<y):Kno {q with fr:=(x,y)} c:=by
 unfold Kno at h ⊢
 rcases h with h|h|h|h|h|h|h|h|h|h|h|h
 ·exact .inl h
 ·exact .inr (.inl ⟨h.1,h.2.1,by simp only;omega,fun e=>by simp only at e;omega⟩)
 ·exact .inr (.inr (.inl ⟨h.1,h.2.1,by simp only;omega,fun e=>by simp only at e;omega⟩))
 ·exact .inr (.inr (.inr (.inl h)))
 ·exact .inr (.inr (.inr (.inr (.inl h))))
 ·exact .inr (.inr (.inr (.inr (.inr (.inl h)))))
 ·exact .inr (.inr (.inr (.inr (.inr (.inr (.inl h))))))
 ·exact .inr (.inr (.inr (.inr (.inr (.inr (.inr (.inl h)))))))
 ·exact .inr (.inr (.inr (.inr (.inr (.inr (.inr (.inr (.inl h))))))))
 ·exact .inr (.inr (.inr (.inr (.inr (.inr (.inr (.inr (.inr (.inl h)))))))))
 ·exact .inr (.inr (.inr (.inr (.inr (.inr (.inr (.inr (.inr (.inr (.inl h))))))))))
 ·exact .inr (.inr (.inr (.inr (.inr (.inr (.inr (.inr (.inr (.inr (.inr h))))))))))
theorem Kno.hd{x y:Int}(h:Kno q c)(hy:q.hd.2<y):Kno {q with hd:=(x,y)} c:=by
 unfold Kno at h ⊢
 rcases h with h|h|h|h|h|h|h|h|h|h|h|h
 ·exact .inl h
 ·exact .inr (.inl h)
 ·exact .inr (.inr (.inl h))
 ·exact .inr (.inr (.inr (.inl h)))
 ·exact .inr (.inr (.inr (.inr (.inl h))))
 ·exact .inr (.inr (.inr (.inr (.inr (.inl h)))))
 ·exact .inr (.inr (.inr (.inr (.inr (.inr (.inl ⟨h.1,h.2.1,by simp only;omega,fun e=>by simp only at e;omega⟩))))))
 ·exact .inr (.inr (.inr (.inr (.inr (.inr (.inr (.inl ⟨h.1,h.2.1,by simp only;omega,fun e=>by simp only at e;omega⟩)))))))
 ·exact .inr (.inr (.inr (.inr (.inr (.inr (.inr (.inr (.inl h))))))))
 ·exact .inr (.inr (.inr (.inr (.inr (.inr (.inr (.inr (.inr (.inl h)))))))))
 ·exact .inr (.inr (.inr (.inr (.inr (.inr (.inr (.inr (.inr (.inr (.inl ⟨h.1,h.2.1,by simp only;omega,fun e=>by simp only at e;omega⟩))))))))))
 ·exact .inr (.inr (.inr (.inr (.inr (.inr (.inr (.inr (.inr (.inr (.inr ⟨h.1,h.2.1,by simp only;omega,fun e=>by simp only at e;omega⟩))))))))))
end
def ptT(th:Nat→GT KPl)(j:Nat)(t:GT KPl):Nat→GT KPl:=fun k=>if k=j then t else th k
section
variable{N n:Nat}{ops:Nat→List Op4}{ch fl ch' fl':List Nat}{th:Nat→GT KPl}{m j:Nat}{q q':KSt}{t':GT KPl}
theorem RI.upd(h:RI N n ops ch fl q th m)(hj:j<n)(tg:q'.tg=true)(nx:q'.nx.length=N)(vl:q'.vl.length=N)(ht:0≤q'.hd.2∧q'.hd.2≤(m+1:Nat))(ft:0≤q'.fr.2∧q'.fr.2≤(m+1:Nat))
 (hc:Chn q'.nx q'.hd.1 ch') (fc:Chn q'.nx q'.fr.1 fl') (nd:(ch'++fl').Nodup)
 (sub:∀i,i∈ch'∨i∈fl'→(i∈ch∨i∈fl)∨ownT (th j)=some i)
 (own:∀i,ownT t'=some i→(i<N∧i ∉ ch'∧i ∉ fl')∧((i∈ch∨i∈fl)∨ownT (th j)=some i))
 (kn:∀k c,k≠j→(th k).call=some c→Kno q c→Kno q' c) (hn:∀k,k≠j→handT q' (th k)=handT q (th k)) (ti:TI4 n ops q' (ops j) t')
 (bal:∀v,(psh (ops j) t'.ans).count v+(ch.map fun i:Nat=>q.val i).count v+(handT q (th j)).count v+(gps (ops j) (th j).ans).count v=(psh (ops j) (th j).ans).count v+(ch'.map fun i:Nat=>q'.val i).count v+(handT q' t').count v+(gps (ops j) t'.ans).count v):
 RI N n ops ch' fl' q' (ptT th j t') (m+1):=by
 have e1:ptT th j t' j=t':=by simp[ptT]
 have e2:∀k,k≠j→ptT th j t' k=th k:=fun k hk=>by simp[ptT,hk]
 refine⟨tg,nx,vl,ht,ft,hc,fc,nd,fun k i hi=>?_,fun k k' i hi hi'=>?_,fun k hk=>?_,fun k hk=>?_,fun v=>?_⟩
 ·by_cases e:k=j
  ·subst e
   rw[e1]at hi
   exact(own i hi).1
  ·rw[e2 k e]at hi
   obtain⟨a,b,c⟩:=h.own k i hi
   have no:∀{x:Prop},(i∈ch'∨i∈fl')→x:=fun hm=>by
    rcases sub i hm with(hm|hm)|hm
    ·exact absurd hm b
    ·exact absurd hm c
    ·exact absurd (h.one k j i hi hm) e
   exact⟨a,fun hm=>no (.inl hm),fun hm=>no (.inr hm)⟩
 ·have key:∀k,k≠j→ownT (th k)=some i→ownT t'=some i→False:=fun k hk a b=>by
   rcases(own i b).2 with(hm|hm)|hm
   ·exact(h.own k i a).2.1 hm
   ·exact(h.own k i a).2.2 hm
   ·exact hk (h.one k j i a hm)
  by_cases e:k=j
  ·by_cases e':k'=j
   ·rw[e,e']
   ·rw[e,e1]at hi
    rw[e2 k' e']at hi'
    exact(key k' e' hi' hi).elim
  ·by_cases e':k'=j
   ·rw[e',e1]at hi'
    rw[e2 k e]at hi
    exact(key k e hi hi').elim
   ·rw[e2 k e]at hi
    rw[e2 k' e']at hi'
    exact h.one k k' i hi hi'
 ·by_cases e:k=j
  ·subst e
   rw[e1]
   exact ti
  ·rw[e2 k e]
   obtain⟨a,b,c,d⟩:=h.ti k hk
   exact⟨a,b,fun x hx=>⟨kn k x e hx (c x hx).1,(c x hx).2⟩,d⟩
 ·rw[e2 k (by omega)]
  exact h.no k hk
 ·have b:=h.bal v
  have p1:=sm_put (n:=n) (j:=j) (f:=fun j=>(psh (ops j) (th j).ans).count v) (g:=fun k=>(psh (ops k) (ptT th j t' k).ans).count v) hj fun k hk=>by simp only[e2 k hk]
  have p2:=sm_put (n:=n) (j:=j) (f:=fun j=>(handT q (th j)).count v) (g:=fun k=>(handT q' (ptT th j t' k)).count v) hj fun k hk=>by simp only[e2 k hk,hn k hk]
  have p3:=sm_put (n:=n) (j:=j) (f:=fun j=>(gps (ops j) (th j).ans).count v) (g:=fun k=>(gps (ops k) (ptT th j t' k).ans).count v) hj fun k hk=>by simp only[e2 k hk]
  have b2:=bal v
  simp only[e1]at p1 p2 p3
  show sm n (fun k=>(psh (ops k) (ptT th j t' k).ans).count v)=(ch'.map fun i:Nat=>q'.val i).count v+sm n (fun k=>(handT q' (ptT th j t' k)).count v)+sm n (fun k=>(gps (ops k) (ptT th j t' k).ans).count v)
  omega
end
end
section
def frs(o:Op4):KCl:=if o.kd=1 then⟨10,0,0,0,0,0,o.a⟩else if o.kd=2 then⟨20,0,0,0,0,0,0⟩else if o.kd=3 then⟨30,0,0,0,0,0,0⟩else⟨40,0,0,0,0,0,0⟩
def Kd4(l:List Op4):Prop:=∀o,o∈l→1≤o.kd∧o.kd≤4
def nxtT(l:List Op4)(k:Nat)(an:List KPl.A):GT KPl:=⟨k,(l[k]?).map frs,an⟩
theorem advG_new{q:KSt}{l:List Op4}(hl:Kd4 l)(k:Nat)(an:List KPl.A):advG KPl (l.drop k) q ⟨k,none,an⟩=(q,nxtT l k an):=by
 unfold nxtT
 cases e:l[k]? with
 | none=>
   rw[List.drop_eq_nil_of_le (by simpa using e)]
   rfl
 | some o=>
   obtain⟨hlt,e2⟩:=List.getElem?_eq_some_iff.1 e
   rw[List.drop_eq_getElem_cons hlt,e2]
   have hk:=hl o (by rw[← e2];exact List.getElem_mem hlt)
   have hb:KSt.begin q o=(q,.inl (frs o)):=by
    unfold KSt.begin frs
    by_cases h1:o.kd=1
    ·rw[if_pos h1,if_pos h1]
    ·rw[if_neg h1,if_neg h1]
     by_cases h2:o.kd=2
     ·rw[if_pos h2,if_pos h2]
     ·rw[if_neg h2,if_neg h2]
      by_cases h3:o.kd=3
      ·rw[if_pos h3,if_pos h3]
      ·rw[if_neg h3,if_neg h3,if_pos (by omega)]
   have hb:KPl.beg q o=(q,.inl (frs o)):=hb
   simp only[advG,hb]
   rfl
theorem frs_pc(o:Op4)(h:1≤o.kd∧o.kd≤4):((frs o).pc=10∨(frs o).pc=20∨(frs o).pc=30∨(frs o).pc=40)∧(((frs o).pc / 10:Nat):Int)=o.kd∧(o.kd=1→(frs o).a=o.a):=by
 unfold frs
 by_cases h1:o.kd=1
 ·rw[if_pos h1]
  exact⟨.inl rfl,by rw[h1];show((10 / 10:Nat):Int)=1;decide,fun _=>rfl⟩
 ·rw[if_neg h1]
  by_cases h2:o.kd=2
  ·rw[if_pos h2]
   exact⟨.inr (.inl rfl),by rw[h2];show((20 / 10:Nat):Int)=2;decide,fun h=>absurd h h1⟩
  ·rw[if_neg h2]
   by_cases h3:o.kd=3
   ·rw[if_pos h3]
    exact⟨.inr (.inr (.inl rfl)),by rw[h3];show((30 / 10:Nat):Int)=3;decide,fun h=>absurd h h1⟩
   ·rw[if_neg h3]
    exact⟨.inr (.inr (.inr rfl)),by rw[show o.kd=4 by omega];show((40 / 10:Nat):Int)=4;decide,fun h=>absurd h h1⟩
theorem nxtT_own{l:List Op4}(hl:Kd4 l)(k:Nat)(an:List KPl.A)(q:KSt):ownT (nxtT l k an)=none∧handT q (nxtT l k an)=[]:=by
 cases e:l[k]? with
 | none=>
   have e1:nxtT l k an=⟨k,none,an⟩:=by unfold nxtT;rw[e];rfl
   rw[e1]
   exact⟨rfl,rfl⟩
 | some o=>
   have hk:=(frs_pc o (hl o (List.mem_of_getElem? e))).1
   have e1:nxtT l k an=⟨k,some (frs o),an⟩:=by unfold nxtT;rw[e];rfl
   rw[e1]
   show KCl.own (frs o)=none∧KCl.hand q (frs o)=[]
   unfold KCl.own KCl.hand
   refine⟨if_neg (by omega),?_⟩
   rw[if_neg (by omega),if_neg (by omega)]
section
variable{N n:Nat}{ops:Nat→List Op4}{ch fl ch' fl':List Nat}{th:Nat→GT KPl}{m j:Nat}{q q':KSt}{c c':KCl}{o:Op4}
theorem TI4.next{l:List Op4}{t:GT KPl}(h:TI4 n ops q l t)(hl:Kd4 l)(ho:l[t.k]? =some o){a:Bool×Int}(ha:o.kd=2∨o.kd=3→(a.1=true→0<bgv n ops a.2)∧(a.1=false→a.2=0)):TI4 n ops q' l (nxtT l (t.k+1) (List.append t.ans [a])):=by
 have hlt:=(List.getElem?_eq_some_iff.1 ho).1
 have key:∀an:List (Bool×Int),t.k=an.length→(∀(i:Nat) (o:Op4) (a:Bool×Int),l[i]? =some o→an[i]? =some a→o.kd=2∨o.kd=3→(a.1=true→0<bgv n ops a.2)∧(a.1=false→a.2=0))→TI4 n ops q' l (nxtT l (t.k+1) (an++[a])):=fun an hk han=>by
  refine⟨?_,by simp only[nxtT];omega,fun c hc=>?_,fun i o' a' h1 h2 h3=>?_⟩
  ·show t.k+1=(an++[a]).length
   simp[hk]
  ·unfold nxtT at hc
   obtain⟨p,hp,rfl⟩:=Option.map_eq_some_iff.1 hc
   obtain⟨e1,e2,e3⟩:=frs_pc p (hl p (List.mem_of_getElem? hp))
   exact⟨.inl e1,p,hp,e2,e3⟩
  ·have h2:(an++[a])[i]? =some a':=h2
   rw[List.getElem?_append]at h2
   split at h2
   ·exact han i o' a' h1 h2 h3
   ·rename_i hi
    have hi0:i - an.length=0:=by
     have:=(List.getElem?_eq_some_iff.1 h2).1
     simp at this
     omega
    rw[hi0]at h2
    simp at h2
    subst h2
    have:i=t.k:=by omega
    subst this
    rw[ho]at h1
    cases h1
    exact ha h3
 exact key t.ans h.k h.ans
theorem TI4.go{l:List Op4}{t:GT KPl}(h:TI4 n ops q l t)(hc:t.call=some c)(k':Kno q' c')(hp:c'.pc / 10=c.pc / 10)(ha:c'.a=c.a):TI4 n ops q' l {t with call:=some c'}:=
 ⟨h.k,h.le,fun x hx=>by
  cases hx
  obtain⟨_,o,h1,h2,h3⟩:=h.call c hc
  exact⟨k',o,h1,by rw[hp];exact h2,by rw[ha];exact h3⟩,h.ans⟩
theorem RI.go(h:RI N n ops ch fl q th m)(hj:j<n)(hc:(th j).call=some c)(k':Kno q c')(ow:KCl.own c'=KCl.own c)(ha:KCl.hand q c'=KCl.hand q c)(hp:c'.pc / 10=c.pc / 10)(hca:c'.a=c.a):
 RI N n ops ch fl q (ptT th j {th j with call:=some c'}) (m+1):=by
 have o1:ownT (th j)=KCl.own c:=by unfold ownT;rw[hc]
 have a1:handT q (th j)=KCl.hand q c:=by unfold handT;rw[hc]
 refine h.upd hj h.tg h.nx h.vl ⟨h.ht.1,by have:=h.ht.2;omega⟩ ⟨h.ft.1,by have:=h.ft.2;omega⟩ h.hc h.fc h.nd (fun i hi=>.inl hi) (fun i hi=>?_) (fun _ _ _ _ x=>x) (fun _ _=>rfl) ((h.ti j hj).go hc k' hp hca) fun v=>?_
 ·have hi:KCl.own c'=some i:=hi
  rw[ow,← o1]at hi
  exact⟨h.own j i hi,.inr hi⟩
 ·show _=_+(KCl.hand q c').count v+_
  rw[a1,ha]
theorem RI.fin(h:RI N n ops ch fl q th m)(hj:j<n)(hl:Kd4 (ops j))(hc:(th j).call=some c)(ho:(ops j)[(th j).k]? =some o){a:Bool×Int}(ha:o.kd=2∨o.kd=3→(a.1=true→0<bgv n ops a.2)∧(a.1=false→a.2=0))
 (tg:q'.tg=true) (nx:q'.nx.length=N) (vl:q'.vl.length=N) (ht:0≤q'.hd.2∧q'.hd.2≤(m+1:Nat)) (ft:0≤q'.fr.2∧q'.fr.2≤(m+1:Nat))
 (hc':Chn q'.nx q'.hd.1 ch') (fc':Chn q'.nx q'.fr.1 fl') (nd:(ch'++fl').Nodup)
 (sub:∀i,i∈ch'∨i∈fl'→(i∈ch∨i∈fl)∨KCl.own c=some i)
 (kn:∀k c,k≠j→(th k).call=some c→Kno q c→Kno q' c) (hn:∀k,k≠j→handT q' (th k)=handT q (th k))
 (bal:∀v,(if o.kd=1∧a.1=true then[o.a]else[]).count v+(ch.map fun i:Nat=>q.val i).count v+(KCl.hand q c).count v=(ch'.map fun i:Nat=>q'.val i).count v+(if o.kd=2∧a.1=true then[a.2]else[]).count v):
 RI N n ops ch' fl' q' (ptT th j (nxtT (ops j) ((th j).k+1) (List.append (th j).ans [a]))) (m+1):=by
 have o1:ownT (th j)=KCl.own c:=by unfold ownT;rw[hc]
 have a1:handT q (th j)=KCl.hand q c:=by unfold handT;rw[hc]
 obtain⟨e1,e2⟩:=nxtT_own (l:=ops j) hl ((th j).k+1) (List.append (th j).ans [a]) q'
 refine h.upd hj tg nx vl ht ft hc' fc' nd (by rw[o1];exact sub) (fun i hi=>by rw[e1]at hi;cases hi) kn hn ((h.ti j hj).next hl ho ha) fun v=>?_
 have hk:=(h.ti j hj).k
 rw[hk]at ho
 have b:=bal v
 rw[a1,e2]
 have key:∀an:List (Bool×Int),(ops j)[an.length]? =some o→(psh (ops j) (an++[a])).count v+(ch.map fun i:Nat=>q.val i).count v+(KCl.hand q c).count v+(gps (ops j) an).count v=(psh (ops j) an).count v+(ch'.map fun i:Nat=>q'.val i).count v+([]:List Int).count v+(gps (ops j) (an++[a])).count v:=fun an ho=>by
  rw[psh_snoc _ _ _ _ ho,gps_snoc _ _ _ _ ho,List.count_append,List.count_append,List.count_nil]
  omega
 exact key (th j).ans ho
theorem RI.fin0(h:RI N n ops ch fl q th m)(hj:j<n)(hl:Kd4 (ops j))(hc:(th j).call=some c)(ho:(ops j)[(th j).k]? =some o){a:Bool×Int}(ha:o.kd=2∨o.kd=3→(a.1=true→0<bgv n ops a.2)∧(a.1=false→a.2=0))(h0:o.kd=1∨o.kd=2→a.1=false)(hh:KCl.hand q c=[]):
 RI N n ops ch fl q (ptT th j (nxtT (ops j) ((th j).k+1) (List.append (th j).ans [a]))) (m+1):=by
 refine h.fin hj hl hc ho ha h.tg h.nx h.vl ⟨h.ht.1,by have:=h.ht.2;omega⟩ ⟨h.ft.1,by have:=h.ft.2;omega⟩ h.hc h.fc h.nd (fun i hi=>.inl hi) (fun _ _ _ _ x=>x) (fun _ _=>rfl) fun v=>?_
 have n1:¬(o.kd=1∧a.1=true):=fun x=>by rw[h0 (.inl x.1)]at x;cases x.2
 have n2:¬(o.kd=2∧a.1=true):=fun x=>by rw[h0 (.inr x.1)]at x;cases x.2
 rw[if_neg n1,if_neg n2,hh]
 simp
theorem RI.bg(h:RI N n ops ch fl q th m){v:Int}(hv:0<(ch.map fun i:Nat=>q.val i).count v+sm n (fun j=>(handT q (th j)).count v)):0<bgv n ops v:=by
 have b:=h.bal v
 have h2:sm n (fun j=>(psh (ops j) (th j).ans).count v)≤bgv n ops v:=sm_le fun k _=>psh_le v _ _
 omega
end
end
section
section
variable{N n:Nat}{ops:Nat→List Op4}{ch fl:List Nat}{th:Nat→GT KPl}{m j:Nat}{q q':KSt}{c c':KCl}{o:Op4}
theorem stp_inl{l:List Op4}{t:GT KPl}(hc:t.call=some c)(e:KSt.step q c=(q',.inl c')):stpG KPl l q t=(q',{t with call:=some c'}):=by
 have e:KPl.stp q c=(q',.inl c'):=e
 unfold stpG
 simp only[hc,e]
 rfl
theorem stp_inr{l:List Op4}(hl:Kd4 l){t:GT KPl}{a:Bool×Int}(hc:t.call=some c)(e:KSt.step q c=(q',.inr a)):stpG KPl l q t=(q',nxtT l (t.k+1) (List.append t.ans [a])):=by
 have e:KPl.stp q c=(q',.inr a):=e
 unfold stpG
 simp only[hc,e]
 exact advG_new hl _ _
def Kept4(N n:Nat)(ops:Nat→List Op4)(q:KSt)(th:Nat→GT KPl)(m j:Nat):Prop:=∃ch' fl' q' t',stpG KPl (ops j) q (th j)=(q',t')∧RI N n ops ch' fl' q' (ptT th j t') (m+1)
theorem RI.kgo(h:RI N n ops ch fl q th m)(hj:j<n)(hc:(th j).call=some c)(e:KSt.step q c=(q,.inl c'))(k':Kno q c')(ow:KCl.own c'=KCl.own c)(ha:KCl.hand q c'=KCl.hand q c)(hp:c'.pc / 10=c.pc / 10)(hca:c'.a=c.a):Kept4 N n ops q th m j:=
 ⟨ch,fl,_,_,stp_inl hc e,h.go hj hc k' ow ha hp hca⟩
theorem RI.kfin0(h:RI N n ops ch fl q th m)(hj:j<n)(hl:Kd4 (ops j))(hc:(th j).call=some c){a:Bool×Int}(e:KSt.step q c=(q,.inr a))(ho:(ops j)[(th j).k]? =some o)(ha:o.kd=2∨o.kd=3→(a.1=true→0<bgv n ops a.2)∧(a.1=false→a.2=0))(h0:o.kd=1∨o.kd=2→a.1=false)(hh:KCl.hand q c=[]):Kept4 N n ops q th m j:=
 ⟨ch,fl,_,_,stp_inr hl hc e,h.fin0 hj hl hc ho ha h0 hh⟩
theorem own_is{p:Nat}(hp:c.pc=p):KCl.own c=if(13≤p∧p≤16)∨(23≤p∧p≤26)then some c.n4.toNat else none:=by unfold KCl.own;rw[hp]
theorem hand_is{p:Nat}(hp:c.pc=p):KCl.hand q c=if p=23 then[q.val c.n4]else if 24≤p∧p≤26 then[c.n3]else[]:=by unfold KCl.hand;rw[hp]
theorem ownT_is(hc:(th j).call=some c):ownT (th j)=KCl.own c:=by unfold ownT;rw[hc]
theorem handT_is(hc:(th j).call=some c):handT q (th j)=KCl.hand q c:=by unfold handT;rw[hc]
theorem RI.hd_ne(h:RI N n ops ch fl q th m){i:Nat}(ho:ownT (th j)=some i):q.hd.1≠(i:Int)∧q.fr.1≠(i:Int):=by
 obtain⟨a,b,c⟩:=h.own j i ho
 refine⟨fun e=>?_,fun e=>?_⟩
 ·obtain⟨x,y,rfl,e2,_⟩:=h.hc.pos (by omega)
  have:x=i:=by omega
  exact b (by simp[this])
 ·obtain⟨x,y,rfl,e2,_⟩:=h.fc.pos (by omega)
  have:x=i:=by omega
  exact c (by simp[this])
theorem turn_some{h:Int×Int}{node tag to:Int}(e:h=(node,tag))(tg:q.tg=true)(hb:0≤tag∧tag<2147483647):q.turn h node tag to=some (to,tag+1):=by
 unfold KSt.turn
 rw[if_pos e,if_pos tg]
 have:(tag+1) % 2147483648=tag+1:=by omega
 rw[this]
theorem turn_none{h:Int×Int}{node tag to:Int}(e:¬h=(node,tag)):q.turn h node tag to=none:=if_neg e
theorem RI.s10(h:RI N n ops ch fl q th m)(hj:j<n)(hl:Kd4 (ops j))(hc:(th j).call=some c)(ho:(ops j)[(th j).k]? =some o)(hk:(c.pc / 10:Nat)=o.kd)(hp:c.pc=10):Kept4 N n ops q th m j:=by
 have hh:KCl.hand q c=[]:=by rw[hand_is hp];rfl
 rw[hp]at hk
 have hk:o.kd=1:=by omega
 by_cases hn:q.fr.1<0
 ·have e:KSt.step q c=(q,.inr (false,0)):=by simp only[KSt.step,hp];rw[if_pos hn]
  exact h.kfin0 hj hl hc e ho (fun x=>by omega) (fun _=>rfl) hh
 ·have e:KSt.step q c=(q,.inl {c with n0:=q.fr.1,n1:=q.fr.2,pc:=11}):=by simp only[KSt.step,hp];rw[if_neg hn]
  exact h.kgo hj hc e (.inr (.inl ⟨rfl,by simp only;omega,Int.le_refl _,fun _=>rfl⟩)) (by rw[own_is hp];rfl) (by rw[hh];rfl) (by simp[hp]) rfl
theorem RI.s20(h:RI N n ops ch fl q th m)(hj:j<n)(hl:Kd4 (ops j))(hc:(th j).call=some c)(ho:(ops j)[(th j).k]? =some o)(hk:(c.pc / 10:Nat)=o.kd)(hp:c.pc=20):Kept4 N n ops q th m j:=by
 have hh:KCl.hand q c=[]:=by rw[hand_is hp];rfl
 rw[hp]at hk
 have hk:o.kd=2:=by omega
 by_cases hn:q.hd.1<0
 ·have e:KSt.step q c=(q,.inr (false,0)):=by simp only[KSt.step,hp];rw[if_pos hn]
  exact h.kfin0 hj hl hc e ho (fun x=>⟨fun h=>(by cases h),fun _=>rfl⟩) (fun _=>rfl) hh
 ·have e:KSt.step q c=(q,.inl {c with n0:=q.hd.1,n1:=q.hd.2,pc:=21}):=by simp only[KSt.step,hp];rw[if_neg hn]
  exact h.kgo hj hc e (.inr (.inr (.inr (.inr (.inr (.inr (.inl ⟨rfl,by simp only;omega,Int.le_refl _,fun _=>rfl⟩))))))) (by rw[own_is hp];rfl) (by rw[hh];rfl) (by simp[hp]) rfl
theorem RI.s30(h:RI N n ops ch fl q th m)(hj:j<n)(hl:Kd4 (ops j))(hc:(th j).call=some c)(ho:(ops j)[(th j).k]? =some o)(hk:(c.pc / 10:Nat)=o.kd)(hp:c.pc=30):Kept4 N n ops q th m j:=by
 have hh:KCl.hand q c=[]:=by rw[hand_is hp];rfl
 rw[hp]at hk
 have hk:o.kd=3:=by omega
 by_cases hn:q.hd.1<0
 ·have e:KSt.step q c=(q,.inr (false,0)):=by simp only[KSt.step,hp];rw[if_pos hn]
  exact h.kfin0 hj hl hc e ho (fun x=>⟨fun h=>(by cases h),fun _=>rfl⟩) (fun _=>rfl) hh
 ·have e:KSt.step q c=(q,.inl {c with n0:=q.hd.1,n1:=q.hd.2,pc:=31}):=by simp only[KSt.step,hp];rw[if_neg hn]
  exact h.kgo hj hc e (.inr (.inr (.inr (.inr (.inr (.inr (.inr (.inr (.inr (.inr (.inl ⟨rfl,by simp only;omega,Int.le_refl _,fun _=>rfl⟩))))))))))) (by rw[own_is hp];rfl) (by rw[hh];rfl) (by simp[hp]) rfl
theorem RI.s40(h:RI N n ops ch fl q th m)(hj:j<n)(hl:Kd4 (ops j))(hc:(th j).call=some c)(ho:(ops j)[(th j).k]? =some o)(hk:(c.pc / 10:Nat)=o.kd)(hp:c.pc=40):Kept4 N n ops q th m j:=by
 have hh:KCl.hand q c=[]:=by rw[hand_is hp];rfl
 rw[hp]at hk
 have hk:o.kd=4:=by omega
 have e:KSt.step q c=(q,.inr (decide (q.hd.1<0),0)):=by simp only[KSt.step,hp]
 exact h.kfin0 hj hl hc e ho (fun x=>by omega) (fun x=>by omega) hh
theorem RI.s11(h:RI N n ops ch fl q th m)(hj:j<n)(hc:(th j).call=some c)(hp:c.pc=11)(k:0≤c.n0∧c.n1≤q.fr.2∧(c.n1=q.fr.2→q.fr.1=c.n0)):Kept4 N n ops q th m j:=by
 have e:KSt.step q c=(q,.inl {c with n2:=q.nxt c.n0,pc:=12}):=by simp only[KSt.step,hp]
 exact h.kgo hj hc e (.inr (.inr (.inl ⟨rfl,k.1,k.2.1,fun x=>⟨k.2.2 x,rfl⟩⟩))) (by rw[own_is hp];rfl) (by rw[hand_is hp];rfl) (by simp[hp]) rfl
theorem RI.s21(h:RI N n ops ch fl q th m)(hj:j<n)(hc:(th j).call=some c)(hp:c.pc=21)(k:0≤c.n0∧c.n1≤q.hd.2∧(c.n1=q.hd.2→q.hd.1=c.n0)):Kept4 N n ops q th m j:=by
 have e:KSt.step q c=(q,.inl {c with n2:=q.nxt c.n0,pc:=22}):=by simp only[KSt.step,hp]
 exact h.kgo hj hc e (.inr (.inr (.inr (.inr (.inr (.inr (.inr (.inl ⟨rfl,k.1,k.2.1,fun x=>⟨k.2.2 x,rfl⟩⟩)))))))) (by rw[own_is hp];rfl) (by rw[hand_is hp];rfl) (by simp[hp]) rfl
theorem RI.s31(h:RI N n ops ch fl q th m)(hj:j<n)(hc:(th j).call=some c)(hp:c.pc=31)(k:0≤c.n0∧c.n1≤q.hd.2∧(c.n1=q.hd.2→q.hd.1=c.n0)):Kept4 N n ops q th m j:=by
 have e:KSt.step q c=(q,.inl {c with n3:=q.val c.n0,pc:=32}):=by simp only[KSt.step,hp]
 exact h.kgo hj hc e (.inr (.inr (.inr (.inr (.inr (.inr (.inr (.inr (.inr (.inr (.inr ⟨rfl,k.1,k.2.1,fun x=>⟨k.2.2 x,rfl⟩⟩))))))))))) (by rw[own_is hp];rfl) (by rw[hand_is hp];rfl) (by simp[hp]) rfl
theorem RI.s14(h:RI N n ops ch fl q th m)(hj:j<n)(hc:(th j).call=some c)(hp:c.pc=14)(k:0≤c.n4∧q.val c.n4=c.a):Kept4 N n ops q th m j:=by
 have e:KSt.step q c=(q,.inl {c with n0:=q.hd.1,n1:=q.hd.2,pc:=15}):=by simp only[KSt.step,hp]
 exact h.kgo hj hc e (.inr (.inr (.inr (.inr (.inl ⟨.inr rfl,k⟩))))) (by rw[own_is hp];rfl) (by rw[hand_is hp];rfl) (by simp[hp]) rfl
theorem RI.s24(h:RI N n ops ch fl q th m)(hj:j<n)(hc:(th j).call=some c)(hp:c.pc=24)(k:0≤c.n4):Kept4 N n ops q th m j:=by
 have e:KSt.step q c=(q,.inl {c with n0:=q.fr.1,n1:=q.fr.2,pc:=25}):=by simp only[KSt.step,hp]
 exact h.kgo hj hc e (.inr (.inr (.inr (.inr (.inr (.inr (.inr (.inr (.inl ⟨.inr (.inr rfl),k⟩))))))))) (by rw[own_is hp];rfl) (by rw[hand_is hp];rfl) (by simp[hp]) rfl
theorem RI.s23(h:RI N n ops ch fl q th m)(hj:j<n)(hc:(th j).call=some c)(hp:c.pc=23)(k:0≤c.n4):Kept4 N n ops q th m j:=by
 have e:KSt.step q c=(q,.inl {c with n3:=q.val c.n4,pc:=24}):=by simp only[KSt.step,hp]
 exact h.kgo hj hc e (.inr (.inr (.inr (.inr (.inr (.inr (.inr (.inr (.inl ⟨.inr (.inl rfl),k⟩))))))))) (by rw[own_is hp];rfl) (by rw[hand_is hp];rfl) (by simp[hp]) rfl
theorem RI.s32(h:RI N n ops ch fl q th m)(hj:j<n)(hl:Kd4 (ops j))(hc:(th j).call=some c)(ho:(ops j)[(th j).k]? =some o)(hk:(c.pc / 10:Nat)=o.kd)(hp:c.pc=32)(k:0≤c.n0∧c.n1≤q.hd.2∧(c.n1=q.hd.2→q.hd.1=c.n0∧q.val c.n0=c.n3)):Kept4 N n ops q th m j:=by
 have hh:KCl.hand q c=[]:=by rw[hand_is hp];rfl
 rw[hp]at hk
 have hk:o.kd=3:=by omega
 by_cases h1:q.hd=(c.n0,c.n1)
 ·have e:KSt.step q c=(q,.inr (true,c.n3)):=by simp only[KSt.step,hp];rw[if_pos h1]
  have e1:q.hd.2=c.n1:=by rw[h1]
  obtain⟨k1,k2⟩:=k.2.2 e1.symm
  obtain⟨i,l,rfl,e2,_⟩:=h.hc.pos (by omega)
  refine h.kfin0 hj hl hc e ho (fun _=>⟨fun _=>h.bg ?_,fun x=>(by cases x)⟩) (fun x=>by omega) hh
  have e3:c.n3=q.val i:=by rw[← k2,← k1,e2]
  show 0<List.count c.n3 _+_
  rw[e3]
  simp only[List.map_cons,List.count_cons_self]
  omega
 ·by_cases hn:q.hd.1<0
  ·have e:KSt.step q c=(q,.inr (false,0)):=by simp only[KSt.step,hp];rw[if_neg h1,if_pos hn]
   exact h.kfin0 hj hl hc e ho (fun x=>⟨fun h=>(by cases h),fun _=>rfl⟩) (fun _=>rfl) hh
  ·have e:KSt.step q c=(q,.inl {c with n0:=q.hd.1,n1:=q.hd.2,pc:=31}):=by simp only[KSt.step,hp];rw[if_neg h1,if_neg hn]
   exact h.kgo hj hc e (.inr (.inr (.inr (.inr (.inr (.inr (.inr (.inr (.inr (.inr (.inl ⟨rfl,by simp only;omega,Int.le_refl _,fun _=>rfl⟩))))))))))) (by rw[own_is hp];rfl) (by rw[hh];rfl) (by simp[hp]) rfl
theorem map_val_vl{i:Nat}{v:Int}(hi:i ∉ ch):(ch.map fun x:Nat=>({q with vl:=q.vl.set i v}:KSt).val x)=ch.map fun x:Nat=>q.val x:=
 List.map_congr_left fun x hx=>val_set (Int.natCast_nonneg _) (by rw[Int.toNat_natCast];intro e;exact hi (by rw[← e];exact hx))
theorem RI.s13(h:RI N n ops ch fl q th m)(hj:j<n)(hc:(th j).call=some c)(hp:c.pc=13)(k:0≤c.n4):Kept4 N n ops q th m j:=by
 have e:KSt.step q c=({q with vl:=q.vl.set c.n4.toNat c.a},.inl {c with pc:=14}):=by simp only[KSt.step,hp]
 have ow:ownT (th j)=some c.n4.toNat:=by rw[ownT_is hc,own_is hp];rfl
 obtain⟨a1,a2,a3⟩:=h.own j _ ow
 obtain⟨b1,b2⟩:=h.hd_ne ow
 have no:∀k,k≠j→ownT (th k)≠some c.n4.toNat:=fun k hk e=>hk (h.one k j _ e ow)
 refine⟨ch,fl,_,_,stp_inl hc e,?_⟩
 refine h.upd hj h.tg h.nx (by simp[h.vl]) ⟨h.ht.1,by have:=h.ht.2;simp only;omega⟩ ⟨h.ft.1,by have:=h.ft.2;simp only;omega⟩ h.hc h.fc h.nd (fun i hi=>.inl hi) (fun i hi=>?_) (fun k x hk hx hn=>hn.vl (by have:=no k hk;rw[ownT_is hx]at this;exact this) b1) (fun k hk=>?_) ((h.ti j hj).go hc (.inr (.inr (.inr (.inr (.inl ⟨.inl rfl,k,?_⟩))))) (by simp[hp]) rfl) fun v=>?_
 ·have hi:some c.n4.toNat=some i:=hi
  rw[← ow]at hi
  exact⟨h.own j i hi,.inr hi⟩
 ·have:=no k hk
  unfold handT
  cases hx:(th k).call with
  | none=>rfl
  | some x=>
    rw[ownT_is hx]at this
    show KCl.hand _ x=KCl.hand _ x
    have hkn:=fun hlt=>((h.ti k hlt).call x hx).1
    unfold KCl.hand
    by_cases e23:x.pc=23
    ·rw[if_pos e23,if_pos e23]
     have hlt:k<n:=by
      rcases Nat.lt_or_ge k n with h1|h1
      ·exact h1
      ·rw[h.no k h1]at hx;cases hx
     have hx4:0≤x.n4:=by
      have:=hkn hlt
      unfold Kno at this
      omega
     rw[val_set hx4 (kown_ne this (by omega))]
    ·rw[if_neg e23,if_neg e23]
 ·show(({q with vl:=q.vl.set c.n4.toNat c.a}:KSt).val c.n4)=c.a
  unfold KSt.val
  simp[List.getD,List.getElem?_set,h.vl,a1]
 ·have mv:=map_val_vl (q:=q) (v:=c.a) a2
  rw[handT_is hc,hand_is hp,mv]
  rfl
theorem RI.nxw(h:RI N n ops ch fl q th m)(hj:j<n)(hc:(th j).call=some c)(ow:KCl.own c=some c.n4.toNat)(h4:0≤c.n4)(e:KSt.step q c=({q with nx:=q.nx.set c.n4.toNat c.n0},.inl c'))(e4:c'.n4=c.n4)(ow':KCl.own c'=KCl.own c)(ha:KCl.hand q c'=KCl.hand q c)
 (k':({q with nx:=q.nx.set c.n4.toNat c.n0}:KSt).nxt c.n4=c.n0→Kno {q with nx:=q.nx.set c.n4.toNat c.n0} c') (hp:c'.pc / 10=c.pc / 10) (hca:c'.a=c.a):Kept4 N n ops q th m j:=by
 have ow:ownT (th j)=some c.n4.toNat:=by rw[ownT_is hc,ow]
 obtain⟨a1,a2,a3⟩:=h.own j _ ow
 obtain⟨b1,b2⟩:=h.hd_ne ow
 have no:∀k,k≠j→ownT (th k)≠some c.n4.toNat:=fun k hk e=>hk (h.one k j _ e ow)
 refine⟨ch,fl,_,_,stp_inl hc e,?_⟩
 refine h.upd hj h.tg (by simp[h.nx]) h.vl ⟨h.ht.1,by have:=h.ht.2;simp only;omega⟩ ⟨h.ft.1,by have:=h.ft.2;simp only;omega⟩ (h.hc.set a2) (h.fc.set a3) h.nd (fun i hi=>.inl hi) (fun i hi=>?_) (fun k x hk hx hn=>hn.nx (by have:=no k hk;rw[ownT_is hx]at this;exact this) b1 b2) (fun k hk=>rfl) ((h.ti j hj).go hc (k' ?_) hp hca) fun v=>?_
 ·have hi:KCl.own c'=some i:=hi
  rw[ow',← ownT_is hc]at hi
  exact⟨h.own j i hi,.inr hi⟩
 ·unfold KSt.nxt
  simp[List.getD,List.getElem?_set,h.nx,a1]
 ·rw[handT_is hc]
  show _=_+_+(KCl.hand q c').count v+_
  rw[ha]
  rfl
theorem RI.s15(h:RI N n ops ch fl q th m)(hj:j<n)(hc:(th j).call=some c)(hp:c.pc=15)(k:0≤c.n4∧q.val c.n4=c.a):Kept4 N n ops q th m j:=by
 have e:KSt.step q c=({q with nx:=q.nx.set c.n4.toNat c.n0},.inl {c with pc:=16}):=by simp only[KSt.step,hp]
 exact h.nxw hj hc (by rw[own_is hp];rfl) k.1 e rfl (by rw[own_is hp];rfl) (by rw[hand_is hp];rfl) (fun x=>.inr (.inr (.inr (.inr (.inr (.inl ⟨rfl,k.1,k.2,x⟩)))))) (by simp[hp]) rfl
theorem RI.s25(h:RI N n ops ch fl q th m)(hj:j<n)(hc:(th j).call=some c)(hp:c.pc=25)(k:0≤c.n4):Kept4 N n ops q th m j:=by
 have e:KSt.step q c=({q with nx:=q.nx.set c.n4.toNat c.n0},.inl {c with pc:=26}):=by simp only[KSt.step,hp]
 exact h.nxw hj hc (by rw[own_is hp];rfl) k e rfl (by rw[own_is hp];rfl) (by rw[hand_is hp];rfl) (fun x=>.inr (.inr (.inr (.inr (.inr (.inr (.inr (.inr (.inr (.inl ⟨rfl,k,x⟩)))))))))) (by simp[hp]) rfl
theorem RI.s12(h:RI N n ops ch fl q th m)(hj:j<n)(hm:m+1<2147483648)(hc:(th j).call=some c)(hp:c.pc=12)(k:0≤c.n0∧c.n1≤q.fr.2∧(c.n1=q.fr.2→q.fr.1=c.n0∧q.nxt c.n0=c.n2)):Kept4 N n ops q th m j:=by
 have hh:KCl.hand q c=[]:=by rw[hand_is hp];rfl
 have ft:=h.ft
 by_cases h1:q.fr=(c.n0,c.n1)
 ·have e1:q.fr.2=c.n1:=by rw[h1]
  have e:KSt.step q c=({q with fr:=(c.n2,c.n1+1)},.inl {c with n4:=c.n0,pc:=13}):=by
   simp only[KSt.step,hp]
   rw[turn_some h1 h.tg (by omega)]
  obtain⟨k1,k2⟩:=k.2.2 e1.symm
  obtain⟨i,l,rfl,e2,e3,e4⟩:=h.fc.pos (by omega)
  have e5:c.n0.toNat=i:=by omega
  have hnx:q.nx.getD i 0=c.n2:=by
   rw[← k2];unfold KSt.nxt;rw[e5]
  rw[hnx]at e4
  have hnd:=h.nd
  rw[List.nodup_append]at hnd
  obtain⟨d1,d2,d3⟩:=hnd
  have hil:i ∉ l:=(List.nodup_cons.1 d2).1
  have hic:i ∉ ch:=fun hi=>d3 i hi i (by simp) rfl
  refine⟨ch,l,_,_,stp_inl hc e,?_⟩
  refine h.upd hj h.tg h.nx h.vl ⟨h.ht.1,by have:=h.ht.2;simp only;omega⟩ ⟨by simp only;omega,by simp only;omega⟩ h.hc e4 ?_ (fun x hx=>.inl (hx.imp id fun y=>by simp[y])) (fun x hx=>?_) (fun k x hk hx hn=>hn.fr (by omega)) (fun k hk=>rfl) ((h.ti j hj).go hc (.inr (.inr (.inr (.inl ⟨rfl,k.1⟩)))) (by simp[hp]) rfl) fun v=>?_
  ·exact List.nodup_append.2 ⟨d1,(List.nodup_cons.1 d2).2,fun a ha b hb=>d3 a ha b (by simp[hb])⟩
  ·have hx:some c.n0.toNat=some x:=hx
   rw[e5]at hx
   cases hx
   exact⟨⟨by rw[← h.nx];exact e3,hic,hil⟩,.inl (.inr (by simp))⟩
  ·rw[handT_is hc,hh]
   rfl
 ·have e:KSt.step q c=(q,.inl {c with pc:=10}):=by
   simp only[KSt.step,hp]
   rw[turn_none h1]
  exact h.kgo hj hc e (.inl (.inl rfl)) (by rw[own_is hp];rfl) (by rw[hh];rfl) (by simp[hp]) rfl
theorem RI.s22(h:RI N n ops ch fl q th m)(hj:j<n)(hm:m+1<2147483648)(hc:(th j).call=some c)(hp:c.pc=22)(k:0≤c.n0∧c.n1≤q.hd.2∧(c.n1=q.hd.2→q.hd.1=c.n0∧q.nxt c.n0=c.n2)):Kept4 N n ops q th m j:=by
 have hh:KCl.hand q c=[]:=by rw[hand_is hp];rfl
 have ft:=h.ht
 by_cases h1:q.hd=(c.n0,c.n1)
 ·have e1:q.hd.2=c.n1:=by rw[h1]
  have e:KSt.step q c=({q with hd:=(c.n2,c.n1+1)},.inl {c with n4:=c.n0,pc:=23}):=by
   simp only[KSt.step,hp]
   rw[turn_some h1 h.tg (by omega)]
  obtain⟨k1,k2⟩:=k.2.2 e1.symm
  obtain⟨i,l,rfl,e2,e3,e4⟩:=h.hc.pos (by omega)
  have e5:c.n0.toNat=i:=by omega
  have hnx:q.nx.getD i 0=c.n2:=by
   rw[← k2];unfold KSt.nxt;rw[e5]
  rw[hnx]at e4
  have hnd:=h.nd
  rw[List.nodup_append]at hnd
  obtain⟨d1,d2,d3⟩:=hnd
  have hil:i ∉ l:=(List.nodup_cons.1 d1).1
  have hic:i ∉ fl:=fun hi=>d3 i (by simp) i hi rfl
  refine⟨l,fl,_,_,stp_inl hc e,?_⟩
  refine h.upd hj h.tg h.nx h.vl ⟨by simp only;omega,by simp only;omega⟩ ⟨h.ft.1,by have:=h.ft.2;simp only;omega⟩ e4 h.fc ?_ (fun x hx=>.inl (hx.imp (fun y=>by simp[y]) id)) (fun x hx=>?_) (fun k x hk hx hn=>hn.hd (by omega)) (fun k hk=>rfl) ((h.ti j hj).go hc (.inr (.inr (.inr (.inr (.inr (.inr (.inr (.inr (.inl ⟨.inl rfl,k.1⟩))))))))) (by simp[hp]) rfl) fun v=>?_
  ·exact List.nodup_append.2 ⟨(List.nodup_cons.1 d1).2,d2,fun a ha b hb=>d3 a (by simp[ha]) b hb⟩
  ·have hx:some c.n0.toNat=some x:=hx
   rw[e5]at hx
   cases hx
   exact⟨⟨by rw[← h.nx];exact e3,hil,hic⟩,.inl (.inl (by simp))⟩
  ·rw[handT_is hc,hh]
   show(psh (ops j) (th j).ans).count v+_+_+(gps (ops j) (th j).ans).count v=(psh (ops j) (th j).ans).count v+(l.map fun i:Nat=>q.val i).count v+[q.val c.n0].count v+(gps (ops j) (th j).ans).count v
   have:c.n0=(i:Int):=by omega
   rw[this,List.map_cons,List.count_cons,List.count_cons,List.count_nil]
   omega
 ·have e:KSt.step q c=(q,.inl {c with pc:=20}):=by
   simp only[KSt.step,hp]
   rw[turn_none h1]
  exact h.kgo hj hc e (.inl (.inr (.inl rfl))) (by rw[own_is hp];rfl) (by rw[hh];rfl) (by simp[hp]) rfl
theorem RI.s16(h:RI N n ops ch fl q th m)(hj:j<n)(hm:m+1<2147483648)(hl:Kd4 (ops j))(hc:(th j).call=some c)(ho:(ops j)[(th j).k]? =some o)(hk:(c.pc / 10:Nat)=o.kd)(hca:o.kd=1→c.a=o.a)(hp:c.pc=16)(k:0≤c.n4∧q.val c.n4=c.a∧q.nxt c.n4=c.n0):Kept4 N n ops q th m j:=by
 have hh:KCl.hand q c=[]:=by rw[hand_is hp];rfl
 have ft:=h.ht
 have oc:KCl.own c=some c.n4.toNat:=by rw[own_is hp];rfl
 have ow:ownT (th j)=some c.n4.toNat:=by rw[ownT_is hc,oc]
 obtain⟨a1,a2,a3⟩:=h.own j _ ow
 have hk1:o.kd=1:=by rw[hp]at hk;omega
 by_cases h1:q.hd=(c.n0,c.n1)
 ·have e0:q.hd.1=c.n0:=by rw[h1]
  have e1:q.hd.2=c.n1:=by rw[h1]
  have e:KSt.step q c=({q with hd:=(c.n4,c.n1+1)},.inr (true,0)):=by
   simp only[KSt.step,hp]
   rw[turn_some h1 h.tg (by omega)]
  refine⟨c.n4.toNat::ch,fl,_,_,stp_inr hl hc e,?_⟩
  refine h.fin hj hl hc ho (fun x=>by omega) h.tg h.nx h.vl ⟨by simp only;omega,by simp only;omega⟩ ⟨h.ft.1,by have:=h.ft.2;simp only;omega⟩ ⟨by simp only;omega,by simp only[h.nx];exact a1,?_⟩ h.fc ?_ (fun x hx=>?_) (fun k x hk hx hn=>hn.hd (by omega)) (fun k hk=>rfl) fun v=>?_
  ·have:q.nx.getD c.n4.toNat 0=q.hd.1:=by rw[e0,← k.2.2];rfl
   rw[this]
   exact h.hc
  ·rw[List.cons_append,List.nodup_cons]
   exact⟨fun hm=>(List.mem_append.1 hm).elim a2 a3,h.nd⟩
  ·rcases hx with hx|hx
   ·rcases List.mem_cons.1 hx with rfl|hx
    ·exact .inr oc
    ·exact .inl (.inl hx)
   ·exact .inl (.inr hx)
  ·rw[if_pos ⟨hk1,rfl⟩,if_neg (fun x=>by omega),hh]
   show _=(q.val (c.n4.toNat:Int)::ch.map fun i:Nat=>q.val i).count v+_
   rw[Int.toNat_of_nonneg k.1,k.2.1,hca hk1,List.count_cons,List.count_cons,List.count_nil]
   omega
 ·have e:KSt.step q c=(q,.inl {c with pc:=14}):=by
   simp only[KSt.step,hp]
   rw[turn_none h1]
  exact h.kgo hj hc e (.inr (.inr (.inr (.inr (.inl ⟨.inl rfl,k.1,k.2.1⟩))))) (by rw[own_is hp];rfl) (by rw[hh];rfl) (by simp[hp]) rfl
theorem RI.s26(h:RI N n ops ch fl q th m)(hj:j<n)(hm:m+1<2147483648)(hl:Kd4 (ops j))(hc:(th j).call=some c)(ho:(ops j)[(th j).k]? =some o)(hk:(c.pc / 10:Nat)=o.kd)(hp:c.pc=26)(k:0≤c.n4∧q.nxt c.n4=c.n0):Kept4 N n ops q th m j:=by
 have hh:KCl.hand q c=[c.n3]:=by rw[hand_is hp];rfl
 have ft:=h.ft
 have oc:KCl.own c=some c.n4.toNat:=by rw[own_is hp];rfl
 have ow:ownT (th j)=some c.n4.toNat:=by rw[ownT_is hc,oc]
 obtain⟨a1,a2,a3⟩:=h.own j _ ow
 have hk1:o.kd=2:=by rw[hp]at hk;omega
 by_cases h1:q.fr=(c.n0,c.n1)
 ·have e0:q.fr.1=c.n0:=by rw[h1]
  have e1:q.fr.2=c.n1:=by rw[h1]
  have e:KSt.step q c=({q with fr:=(c.n4,c.n1+1)},.inr (true,c.n3)):=by
   simp only[KSt.step,hp]
   rw[turn_some h1 h.tg (by omega)]
  refine⟨ch,c.n4.toNat::fl,_,_,stp_inr hl hc e,?_⟩
  refine h.fin hj hl hc ho (fun x=>⟨fun _=>h.bg ?_,fun x=>(by cases x)⟩) h.tg h.nx h.vl ⟨h.ht.1,by have:=h.ht.2;simp only;omega⟩ ⟨by simp only;omega,by simp only;omega⟩ h.hc ⟨by simp only;omega,by simp only[h.nx];exact a1,?_⟩ ?_ (fun x hx=>?_) (fun k x hk hx hn=>hn.fr (by omega)) (fun k hk=>rfl) fun v=>?_
  ·have:=sm_one (f:=fun j=>(handT q (th j)).count c.n3) hj
   simp only[handT_is hc,hh,List.count_singleton_self]at this
   show 0<_+sm n (fun j=>(handT q (th j)).count c.n3)
   omega
  ·have:q.nx.getD c.n4.toNat 0=q.fr.1:=by rw[e0,← k.2];rfl
   rw[this]
   exact h.fc
  ·have hnd:=h.nd
   rw[List.nodup_append]at hnd ⊢
   obtain⟨d1,d2,d3⟩:=hnd
   refine⟨d1,List.nodup_cons.2 ⟨a3,d2⟩,fun x hx y hy=>?_⟩
   rcases List.mem_cons.1 hy with rfl|hy
   ·intro e
    exact a2 (e ▸ hx)
   ·exact d3 x hx y hy
  ·rcases hx with hx|hx
   ·exact .inl (.inl hx)
   ·rcases List.mem_cons.1 hx with rfl|hx
    ·exact .inr oc
    ·exact .inl (.inr hx)
  ·rw[if_neg (fun x=>by omega),if_pos ⟨hk1,rfl⟩,hh]
   simp only[List.count_nil,Nat.zero_add]
   rfl
 ·have e:KSt.step q c=(q,.inl {c with pc:=24}):=by
   simp only[KSt.step,hp]
   rw[turn_none h1]
  exact h.kgo hj hc e (.inr (.inr (.inr (.inr (.inr (.inr (.inr (.inr (.inl ⟨.inr (.inl rfl),k.1⟩))))))))) (by rw[own_is hp];rfl) (by rw[hh,hand_is (p:=24) rfl];rfl) (by simp[hp]) rfl
theorem RI.step(h:RI N n ops ch fl q th m)(hj:j<n)(hm:m+1<2147483648)(hl:Kd4 (ops j))(hc:(th j).call=some c):Kept4 N n ops q th m j:=by
 obtain⟨kn,o,ho,hk,hca⟩:=(h.ti j hj).call c hc
 rcases kn with p|p|p|p|p|p|p|p|p|p|p|p
 ·rcases p with p|p|p|p
  ·exact h.s10 hj hl hc ho hk p
  ·exact h.s20 hj hl hc ho hk p
  ·exact h.s30 hj hl hc ho hk p
  ·exact h.s40 hj hl hc ho hk p
 ·exact h.s11 hj hc p.1 p.2
 ·exact h.s12 hj hm hc p.1 p.2
 ·exact h.s13 hj hc p.1 p.2
 ·rcases p.1 with e|e
  ·exact h.s14 hj hc e p.2
  ·exact h.s15 hj hc e p.2
 ·exact h.s16 hj hm hl hc ho hk hca p.1 p.2
 ·exact h.s21 hj hc p.1 p.2
 ·exact h.s22 hj hm hc p.1 p.2
 ·rcases p.1 with e|e|e
  ·exact h.s23 hj hc e p.2
  ·exact h.s24 hj hc e p.2
  ·exact h.s25 hj hc e p.2
 ·exact h.s26 hj hm hl hc ho hk p.1 p.2
 ·exact h.s31 hj hc p.1 p.2
 ·exact h.s32 hj hl hc ho hk p.1 p.2
end
end
section
theorem psh_nil(l:List Op4):psh l []=[]:=by cases l<;>rfl
theorem gps_nil(l:List Op4):gps l []=[]:=by cases l<;>rfl
theorem sm_zero(n:Nat){f:Nat→Nat}(h:∀k,f k=0):sm n f=0:=by
 induction n with
 | zero=>rfl
 | succ n ih=>simp only[sm,h n,ih]
theorem chn_all(N:Nat)(tg:Bool):∀(d k:Nat),d+k=N→Chn (knew N tg).nx (if k=N then -1 else(k:Int)) (List.range' k d)
 | 0,k,h=>by
   have:k=N:=by omega
   rw[if_pos this]
   exact rfl
 | d+1,k,h=>by
   have hk:k<N:=by omega
   rw[if_neg (by omega)]
   refine⟨rfl,by simp[knew];exact hk,?_⟩
   have e:(knew N tg).nx.getD k 0=if k+1=N then -1 else((k+1:Nat):Int):=by
    simp[knew,List.getD,List.getElem?_map,List.getElem?_range hk]
   rw[e]
   exact chn_all N tg d (k+1) (by omega)
section
variable{N n M:Nat}{ops:Nat→List Op4}
theorem RI.init(hN:0<N):RI N n ops [] (List.range' 0 N) (knew N true) (fun _=>⟨0,none,[]⟩) 0:=by
 have h0:=chn_all N true N 0 (by omega)
 rw[if_neg (by omega)]at h0
 refine⟨rfl,by simp[knew],by simp[knew],⟨Int.le_refl _,Int.le_refl _⟩,⟨Int.le_refl _,Int.le_refl _⟩,rfl,h0,List.nodup_range',fun j i h=>(by cases h),fun j j' i h=>(by cases h),fun j hj=>?_,fun j hj=>rfl,fun v=>?_⟩
 ·exact⟨rfl,Nat.zero_le _,fun c h=>(by cases h),fun i o a h1 h2=>(by simp at h2)⟩
 ·rw[sm_zero,sm_zero,sm_zero]
  ·simp
  ·intro k;show(gps (ops k) []).count v=0;rw[gps_nil];rfl
  ·intro k;rfl
  ·intro k;show(psh (ops k) []).count v=0;rw[psh_nil];rfl
theorem RI.born{ch fl:List Nat}{q:KSt}{th:Nat→GT KPl}{m j:Nat}(h:RI N n ops ch fl q th m)(hj:j<n)(hl:Kd4 (ops j))(h0:th j=⟨0,none,[]⟩):RI N n ops ch fl q (ptT th j (nxtT (ops j) 0 [])) (m+1):=by
 obtain⟨e1,e2⟩:=nxtT_own (l:=ops j) hl 0 [] q
 refine h.upd hj h.tg h.nx h.vl ⟨h.ht.1,by have:=h.ht.2;omega⟩ ⟨h.ft.1,by have:=h.ft.2;omega⟩ h.hc h.fc h.nd (fun i hi=>.inl hi) (fun i hi=>by rw[e1]at hi;cases hi) (fun _ _ _ _ x=>x) (fun _ _=>rfl) ⟨rfl,Nat.zero_le _,fun c hc=>?_,fun i o a h1 h2=>?_⟩ fun v=>?_
 ·unfold nxtT at hc
  obtain⟨p,hp,rfl⟩:=Option.map_eq_some_iff.1 hc
  obtain⟨a1,a2,a3⟩:=frs_pc p (hl p (List.mem_of_getElem? hp))
  exact⟨.inl a1,p,hp,a2,a3⟩
 ·have h2:([]:List (Bool×Int))[i]? =some a:=h2
  simp at h2
 ·rw[h0,e2]
  show(psh (ops j) []).count v+_+([]:List Int).count v+(gps (ops j) []).count v=(psh (ops j) []).count v+_+_+(gps (ops j) []).count v
  rfl
theorem RI.borns(hN:0<N)(hl:∀j,j<n→Kd4 (ops j)):∀i,i≤n→RI N n ops [] (List.range' 0 N) (gBorns KPl ops i (ks0 N true)).q (gBorns KPl ops i (ks0 N true)).th i∧∀k,i≤k→(gBorns KPl ops i (ks0 N true)).th k=⟨0,none,[]⟩
 | 0,_=>⟨RI.init hN,fun k _=>rfl⟩
 | i+1,hi=>by
   obtain⟨h1,h2⟩:=RI.borns hN hl i (by omega)
   have e:advG KPl (ops i) (gBorns KPl ops i (ks0 N true)).q ((gBorns KPl ops i (ks0 N true)).th i)=((gBorns KPl ops i (ks0 N true)).q,nxtT (ops i) 0 []):=by
    rw[h2 i (Nat.le_refl _)]
    have:=advG_new (q:=(gBorns KPl ops i (ks0 N true)).q) (hl i (by omega)) 0 []
    rw[List.drop_zero]at this
    exact this
   have e2:gBorns KPl ops (i+1) (ks0 N true)=(gBorns KPl ops i (ks0 N true)).put i ((gBorns KPl ops i (ks0 N true)).q,nxtT (ops i) 0 []):=by
    show(gBorns KPl ops i (ks0 N true)).put i _=_
    rw[e]
   rw[e2]
   refine⟨h1.born (by omega) (hl i (by omega)) (h2 i (Nat.le_refl _)),fun k hk=>?_⟩
   show(if k=i then _ else(gBorns KPl ops i (ks0 N true)).th k)=_
   rw[if_neg (by omega)]
   exact h2 k (by omega)
def KI4(N n M:Nat)(ops:Nat→List Op4)(s:GS KPl×List Nat):Prop:=s.2.length≤M∧∃ch fl,RI N n ops ch fl s.1.q s.1.th (n+s.2.length)
theorem KI4.turn(hM:n+M<2147483647)(hl:∀j,j<n→Kd4 (ops j)){s:GS KPl×List Nat}(h:KI4 N n M ops s)(i:Int):KI4 N n M ops (gTurn ops n M s i):=by
 unfold gTurn
 split
 ·rename_i hc
  obtain⟨h0,h1,h2,h3⟩:=hc
  obtain⟨hle,ch,fl,hr⟩:=h
  obtain⟨c,hcc⟩:=Option.isSome_iff_exists.1 h2
  obtain⟨ch',fl',q',t',e1,e2⟩:=hr.step (j:=i.toNat) (by omega) (by omega) (hl _ (by omega)) hcc
  have e1:stpG KPl (ops i.toNat) s.1.q (s.1.th i.toNat)=(q',t'):=e1
  rw[e1]
  refine⟨by simp;omega,ch',fl',?_⟩
  have el:n+(s.2++[i.toNat]).length=n+s.2.length+1:=by simp;omega
  rw[el]
  exact e2
 ·exact h
theorem KI4.turns(hM:n+M<2147483647)(hl:∀j,j<n→Kd4 (ops j)):∀(l:List Int) {s:GS KPl×List Nat},KI4 N n M ops s→KI4 N n M ops (gTurns ops n M l s)
 | [],_,h=>h
 | i::l,_,h=>KI4.turns hM hl l (h.turn hM hl i)
theorem KI4.rounds(hM:n+M<2147483647)(hl:∀j,j<n→Kd4 (ops j)):∀(f:Nat) {s:GS KPl×List Nat},KI4 N n M ops s→KI4 N n M ops (gRounds ops n M f s)
 | 0,_,h=>h
 | f+1,_,h=>by
   unfold gRounds
   split
   ·exact h
   ·exact KI4.rounds hM hl f (h.turns hM hl _)
theorem run_kept4(hN:0<N)(hM:n+M<2147483647)(hl:∀j,j<n→Kd4 (ops j)){S:List Int}{f:Nat}{s:GS KPl}{order:List Nat}(h:gOver ops n M S f (ks0 N true)=(s,order)):∃ch fl m,RI N n ops ch fl s.q s.th m:=by
 have hb:=(RI.borns hN hl n (Nat.le_refl _)).1
 have h0:KI4 N n M ops (gBorns KPl ops n (ks0 N true),[]):=⟨Nat.zero_le _,_,_,hb⟩
 have h1:=KI4.rounds hM hl f (KI4.turns hM hl S h0)
 unfold gOver at h
 rw[h]at h1
 obtain⟨_,ch,fl,hr⟩:=h1
 exact⟨ch,fl,_,hr⟩
theorem walk_chn{q:KSt}:∀(l:List Nat) (f:Nat) (h:Int),Chn q.nx h l→l.length≤f→q.walk f h=l.map fun i:Nat=>q.val i
 | [],f,h,c,_=>by
   have c:h= -1:=c
   cases f with
   | zero=>rfl
   | succ f=>rw[walk_succ,if_pos (by omega)];rfl
 | i::l,0,h,c,hf=>by simp at hf
 | i::l,f+1,h,⟨c1,c2,c3⟩,hf=>by
   subst c1
   rw[walk_succ,if_neg (by omega)]
   have e:q.nxt (i:Int)=q.nx.getD i 0:=by unfold KSt.nxt;rw[Int.toNat_natCast]
   rw[e,walk_chn l f _ c3 (by simpa using hf)]
   rfl
variable{ch fl:List Nat}{q:KSt}{th:Nat→GT KPl}{m:Nat}
theorem RI.vals(h:RI N n ops ch fl q th m):q.vals=(ch.map fun i:Nat=>q.val i)∧q.vals.length≤N:=by
 have h1:ch.length≤N:=by
  have:=List.Nodup.length_le_of_subset (l₁:=ch) (l₂:=List.range N) (List.nodup_append.1 h.nd).1 fun k hk=>List.mem_range.2 (by rw[← h.nx];exact h.hc.lt k hk)
  simpa using this
 have h2:=walk_chn ch q.nx.length q.hd.1 h.hc (by rw[h.nx];exact h1)
 exact⟨h2,by unfold KSt.vals;rw[h2];simpa using h1⟩
def hands(q:KSt)(th:Nat→GT KPl):Nat→List Int
 | 0=>[]
 | n+1=>hands q th n++handT q (th n)
theorem hands_count(v:Int):∀n,(hands q th n).count v=sm n fun j=>(handT q (th j)).count v
 | 0=>rfl
 | n+1=>by simp only[hands,sm,List.count_append,hands_count v n]
theorem handT_len(t:GT KPl):(handT q t).length≤1∧(t.call.isSome=false→handT q t=[]):=by
 unfold handT
 split
 ·rename_i c hc
  refine⟨?_,fun h=>by rw[hc]at h;cases h⟩
  unfold KCl.hand
  split
  ·exact Nat.le_refl _
  ·split
   ·exact Nat.le_refl _
   ·exact Nat.zero_le _
 ·exact⟨Nat.zero_le _,fun _=>rfl⟩
theorem hands_len:∀n,(hands q th n).length≤n∧((∀j,j<n→(th j).call.isSome=false)→hands q th n=[])
 | 0=>⟨Nat.le_refl _,fun _=>rfl⟩
 | n+1=>by
   obtain⟨h1,h2⟩:=hands_len n
   obtain⟨h3,h4⟩:=handT_len (q:=q) (th n)
   simp only[hands,List.length_append]
   exact⟨by omega,fun h=>by rw[h2 fun j hj=>h j (by omega),h4 (h n (by omega))];rfl⟩
def pdv(n:Nat)(ops:Nat→List Op4)(an:Nat→List (Bool×Int))(v:Int):Nat:=sm n fun j=>(psh (ops j) (an j)).count v
def ppv(n:Nat)(ops:Nat→List Op4)(an:Nat→List (Bool×Int))(v:Int):Nat:=sm n fun j=>(gps (ops j) (an j)).count v
structure Right4(N n:Nat)(ops:Nat→List Op4)(an:Nat→List (Bool×Int))(vs:List Int)(live:Bool):Prop where
 len:∀j,j<n→(an j).length≤(ops j).length
 ans:∀j,j<n→∀(i:Nat) (o:Op4) (a:Bool×Int),(ops j)[i]? =some o→(an j)[i]? =some a→o.kd=2∨o.kd=3→(a.1=true→0<bgv n ops a.2)∧(a.1=false→a.2=0)
 vl:vs.length≤N
 pp:∀v,ppv n ops an v≤1∧(0<ppv n ops an v→0<bgv n ops v∧vs.count v=0)
 tr:∀v,vs.count v≤1∧(0<vs.count v→0<bgv n ops v)
 hd:∀D:List Int,D.Nodup→(∀v,v∈D→0<pdv n ops an v∧ppv n ops an v+vs.count v=0)→D.length≤n∧(live=false→D=[])
theorem RI.right(h:RI N n ops ch fl q th m)(hd:∀v,bgv n ops v≤1):Right4 N n ops (fun j=>(th j).ans) q.vals (decide (0<cnt (fun j=>(th j).call.isSome) n)):=by
 obtain⟨hv,hvl⟩:=h.vals
 have bal:=h.bal
 have hps:∀v,sm n (fun j=>(psh (ops j) (th j).ans).count v)≤bgv n ops v:=fun v=>sm_le fun k _=>psh_le v _ _
 refine⟨fun j hj=>?_,fun j hj=>(h.ti j hj).ans,hvl,fun v=>?_,fun v=>?_,fun D hD hDv=>?_⟩
 ·have:=h.ti j hj
  have h1:=this.k
  have h2:=this.le
  show List.length (th j).ans≤_
  omega
 ·have b:=bal v
  have p:=hps v
  have d:=hd v
  rw[hv]
  show sm n (fun j=>(gps (ops j) (th j).ans).count v)≤1∧(0<sm n (fun j=>(gps (ops j) (th j).ans).count v)→_)
  exact⟨by omega,fun x=>⟨by omega,by omega⟩⟩
 ·have b:=bal v
  have p:=hps v
  have d:=hd v
  rw[hv]
  exact⟨by omega,fun x=>by omega⟩
 ·have hsub:D ⊆ hands q th n:=fun v hv2=>by
   obtain⟨h1,h2⟩:=hDv v hv2
   have b:=bal v
   rw[hv]at h2
   have h1:0<sm n (fun j=>(psh (ops j) (th j).ans).count v):=h1
   have h2:sm n (fun j=>(gps (ops j) (th j).ans).count v)+(ch.map fun i:Nat=>q.val i).count v=0:=h2
   refine List.count_pos_iff.1 ?_
   rw[hands_count]
   omega
  have hl:=List.Nodup.length_le_of_subset hD hsub
  obtain⟨a1,a2⟩:=hands_len (q:=q) (th:=th) n
  refine⟨by omega,fun e=>?_⟩
  have e0:cnt (fun j=>(th j).call.isSome) n=0:=by simpa using e
  have:hands q th n=[]:=a2 (cnt_zero.1 e0)
  rw[this]at hl
  exact List.eq_nil_of_length_eq_zero (by simpa using hl)
end
end
section
variable{w w':World}{kb:Nat}
def KSt.push1(s:KSt)(v:Int):KSt:=
 if s.fr.1<0 then s else
  {s with fr:=(s.nxt s.fr.1,tagOf s.tg s.fr.2),vl:=s.vl.set s.fr.1.toNat v,nx:=s.nx.set s.fr.1.toNat s.hd.1,hd:=(s.fr.1,tagOf s.tg s.hd.2)}
def KSt.pop1(s:KSt):KSt:=
 if s.hd.1<0 then s else
  {s with hd:=(s.nxt s.hd.1,tagOf s.tg s.hd.2),nx:=s.nx.set s.hd.1.toNat s.fr.1,fr:=(s.hd.1,tagOf s.tg s.fr.2)}
structure Stepr(sv:Value)(main:Bool)(sb:Nat)(X:Nat→World→Prop):Prop where
 tick:∀(m:Nat) (w:World) (c:Frame) (cs:List Frame) (Stop:Goroutine→World→Prop),X m w→m<4611686018427387904→(∀w',X (m+1) w'→w'.heap.size=w.heap.size→(∀r,r≠sb→w'.heap[r]? =w.heap[r]?)→Own Try.prog main F0 Stop (G (c.finish (.tuple #[])) cs) w')→
  Own Try.prog main F0 Stop (G (Frame.enter Try.prog 79 #[sv] .normal) (c::cs)) w
 keep:∀(m:Nat) (w w':World),X m w→w'.heap[sb]? =w.heap[sb]?→X m w'
structure AlK(kb sb:Nat)(X:Nat→World→Prop)(w0:World)(s0 s:KS)(m:Nat)(w:World):Prop where
 u:KU kb s w
 nb:s.nb=s0.nb
 x:X m w
 sz:w.heap.size=w0.heap.size
 o:∀r,r≠sb→¬KR kb s0 r→w.heap[r]? =w0.heap[r]?
section
variable{sv:Value}{main:Bool}{sb m:Nat}{X:Nat→World→Prop}{w0:World}{s0 s s':KS}
theorem AlK.tick(h:AlK kb sb X w0 s0 s m w)(hsb:¬KR kb s0 sb)(hx:X (m+1) w')(hs:w'.heap.size=w.heap.size)(ho:∀r,r≠sb→w'.heap[r]? =w.heap[r]?):AlK kb sb X w0 s0 s (m+1) w':=
 ⟨h.u.same fun r hr=>ho r fun e=>hsb (by subst e;rcases hr with hr|hr;exact .inl hr;exact .inr (hr.trans h.nb)),h.nb,hx,hs.trans h.sz,fun r hr hk=>(ho r hr).trans (h.o r hr hk)⟩
theorem AlK.set(S:Stepr sv main sb X)(h:AlK kb sb X w0 s0 s m w)(hsb:¬KR kb s0 sb){ad:Addr}{v:Value}(hu:KU kb s' (w.setCell ad v))(hn:s'.nb=s0.nb)(ha:ad.block=kb∨ad.block=s.nb):AlK kb sb X w0 s0 s' m (w.setCell ad v):=by
 have hk:KR kb s0 ad.block:=by
  rcases ha with h1|h1
  ·exact .inl h1
  ·exact .inr (h1.trans h.nb)
 exact⟨hu,hn,S.keep m _ _ h.x (heap_setCell_ne _ _ _ fun e=>hsb (by rw[e];exact hk)),by rw[World.size_setCell];exact h.sz,fun r hr hkr=>(heap_setCell_ne _ _ _ fun e=>hkr (by rw[e];exact hk)).trans (h.o r hr hkr)⟩
theorem notF0(a:Addr):¬held F0 a:=fun h=>by obtain⟨z,hz,_⟩:=h;cases hz
theorem own_push{v:Int}(S:Stepr sv main sb X)(hU:KU kb s w)(hX:X m w)(hm:m+7<4611686018427387904)(hsb:¬KR kb s sb){c:Frame}{cs:List Frame}{Stop:Goroutine→World→Prop}
 (K:∀w',AlK kb sb X w s ⟨s.k.push1 v,s.nb⟩ (m+if s.k.fr.1<0 then 1 else 7) w'→Own Try.prog main F0 Stop (G (c.finish (.bool (decide (¬s.k.fr.1<0)))) cs) w'):
 Own Try.prog main F0 Stop (G (Frame.enter Try.prog 45 #[.pointer (some ⟨kb,0,none⟩),sv,.int .i64 v] .normal) (c::cs)) w:=by
 have a0:AlK kb sb X w s s m w:=⟨hU,rfl,hX,rfl,fun _ _ _=>rfl⟩
 refine pu_0 fun A1 hA1=>tk_0 fun A hA=>S.tick _ _ _ _ _ a0.x (by omega) fun w1 hx hz ho=>?_
 have a1:=a0.tick hsb hx hz ho
 clear hx hz ho
 obtain⟨h1,h2,h3,h4⟩:=hU.wf.fr
 have hmx:=hU.wf.n3
 have hmm:s.m=s.k.nx.length:=rfl
 by_cases hneg:s.k.fr.1<0
 ·refine tk_1a (hx:=1) (n:=s.k.fr.1) (t:=s.k.fr.2) ⟨h1,by omega⟩ ⟨h3,h4⟩ hneg a1.u.c1 hA ?_
  refine pu_1a (sv:=sv) hA1 ?_
  have k:=K w1 (by simp only[KSt.push1,if_pos hneg];exact a1)
  simpa [hneg]using k
 obtain⟨i,ei⟩:∃i:Nat,s.k.fr.1=i:=⟨s.k.fr.1.toNat,by omega⟩
 have hi:i<s.m:=by omega
 refine tk_1b (hx:=1) (n:=s.k.fr.1) (t:=s.k.fr.2) ⟨h1,by omega⟩ ⟨h3,h4⟩ hneg a1.u.c1 hA fun A hA=>S.tick _ _ _ _ _ a1.x (by omega) fun w2 hx hz ho=>?_
 have a2:=a1.tick hsb hx hz ho
 clear hx hz ho
 rw[ei]at hA
 refine tk_2 (hx:=1) (i:=i) (t:=s.k.fr.2) (to:=s.k.nx.getD i 0) hi a2.u.c2 (a2.u.nc hi).1 hA fun A hA=>S.tick _ _ _ _ _ a2.x (by omega) fun w3 hx hz ho=>?_
 have a3:=a2.tick hsb hx hz ho
 clear hx hz ho
 obtain⟨n1,n2⟩:=hU.wf.nxt_ok i
 obtain⟨t1,t2⟩:=tag_ok s.k.tg s.k.fr.2
 have ex:s.k.fr=((i:Int),s.k.fr.2):=Prod.ext ei rfl
 have hcx:=a3.u.c1
 rw[ex]at hcx
 refine tk_3a (hx:=1) (tg:=s.k.tg) (n:=(i:Nat)) (t:=s.k.fr.2) (to:=s.k.nx.getD i 0) (cv:=pk ((i:Int),s.k.fr.2)) (by simp) a3.u.c3 ⟨by omega,by omega⟩ ⟨h3,h4⟩ ⟨n1,by omega⟩ hcx (a3.u.z 1) (notF0 _) hA ?_
 have a4:=a3.set S hsb (s':=⟨{s.k with fr:=(s.k.nx.getD i 0,tagOf s.k.tg s.k.fr.2)},s.nb⟩) (a3.u.setFr ⟨n1,n2,t1.1,t1.2⟩ t2) rfl (.inl rfl)
 refine pu_1b (sv:=sv) (i:=i) hA1 fun A1 hA1=>S.tick _ _ _ _ _ a4.x (by omega) fun w5 hx hz ho=>?_
 have a5:=a4.tick hsb hx hz ho
 clear hx hz ho
 refine pu_2 (v:=v) (i:=i) hi a5.u.c2 (a5.u.nc hi).2.1 ((a5.u.nc hi).2.2 _) (notF0 _) hA1 fun A1 hA1=>?_
 have a6:=a5.set S hsb (s':=⟨{s.k with fr:=(s.k.nx.getD i 0,tagOf s.k.tg s.k.fr.2),vl:=s.k.vl.set i v},s.nb⟩) (a5.u.setVl hi) rfl (.inr rfl)
 refine gv_0 (hx:=0) (i:=i) fun A hA=>S.tick _ _ _ _ _ a6.x (by omega) fun w7 hx hz ho=>?_
 have a7:=a6.tick hsb hx hz ho
 clear hx hz ho
 obtain⟨g1,g2,g3,g4⟩:=hU.wf.hd
 refine gv_1 (hx:=0) (i:=i) (n:=s.k.hd.1) (t:=s.k.hd.2) a7.u.c0 hA fun A hA=>S.tick _ _ _ _ _ a7.x (by omega) fun w8 hx hz ho=>?_
 have a8:=a7.tick hsb hx hz ho
 clear hx hz ho
 refine gv_2 (hx:=0) (i:=i) (n:=s.k.hd.1) (t:=s.k.hd.2) ⟨g1,by omega⟩ ⟨g3,g4⟩ hi a8.u.c2 (a8.u.nc hi).1 ((a8.u.nc hi).2.2 _) (notF0 _) hA fun A hA=>?_
 have a9:=a8.set S hsb (s':=⟨{s.k with fr:=(s.k.nx.getD i 0,tagOf s.k.tg s.k.fr.2),vl:=s.k.vl.set i v,nx:=s.k.nx.set i s.k.hd.1},s.nb⟩) (a8.u.setNx hi ⟨g1,g2⟩) rfl (.inr rfl)
 refine S.tick _ _ _ _ _ a9.x (by omega) fun w9 hx hz ho=>?_
 have b1:=a9.tick hsb hx hz ho
 clear hx hz ho
 obtain⟨u1,u2⟩:=tag_ok s.k.tg s.k.hd.2
 refine gv_3a (hx:=0) (tg:=s.k.tg) (i:=i) (n:=s.k.hd.1) (t:=s.k.hd.2) (cv:=pk s.k.hd) (by simp) b1.u.c3 ⟨g1,by omega⟩ ⟨g3,g4⟩ ⟨by omega,by omega⟩ b1.u.c0 (b1.u.z 0) (notF0 _) hA ?_
 have hsm:((i:Nat):Int)<(KS.m ⟨{s.k with fr:=(s.k.nx.getD i 0,tagOf s.k.tg s.k.fr.2),vl:=s.k.vl.set i v,nx:=s.k.nx.set i s.k.hd.1},s.nb⟩:Nat):=by simp[KS.m];omega
 have b2:=b1.set S hsb (s':=⟨{s.k with fr:=(s.k.nx.getD i 0,tagOf s.k.tg s.k.fr.2),vl:=s.k.vl.set i v,nx:=s.k.nx.set i s.k.hd.1,hd:=((i:Int),tagOf s.k.tg s.k.hd.2)},s.nb⟩) (b1.u.setHd ⟨by omega,hsm,u1.1,u1.2⟩ u2) rfl (.inl rfl)
 refine pu_3 (sv:=sv) hA1 ?_
 have k:=K _ (by
  simp only[KSt.push1,if_neg hneg,KSt.nxt,ei,Int.toNat_natCast]
  exact b2)
 have hni:¬((i:Nat):Int)<0:=by omega
 simpa [hneg,KSt.val,ei,hni]using k
theorem own_pop(S:Stepr sv main sb X)(hU:KU kb s w)(hX:X m w)(hm:m+7<4611686018427387904)(hsb:¬KR kb s sb){c:Frame}{cs:List Frame}{Stop:Goroutine→World→Prop}
 (K:∀w',AlK kb sb X w s ⟨s.k.pop1,s.nb⟩ (m+if s.k.hd.1<0 then 1 else 7) w'→Own Try.prog main F0 Stop (G (c.finish (.tuple #[.int .i64 (if s.k.hd.1<0 then 0 else s.k.val s.k.hd.1),.bool (decide (¬s.k.hd.1<0))])) cs) w'):
 Own Try.prog main F0 Stop (G (Frame.enter Try.prog 43 #[.pointer (some ⟨kb,0,none⟩),sv] .normal) (c::cs)) w:=by
 have a0:AlK kb sb X w s s m w:=⟨hU,rfl,hX,rfl,fun _ _ _=>rfl⟩
 refine po_0 fun A1 hA1=>tk_0 fun A hA=>S.tick _ _ _ _ _ a0.x (by omega) fun w1 hx hz ho=>?_
 have a1:=a0.tick hsb hx hz ho
 clear hx hz ho
 obtain⟨h1,h2,h3,h4⟩:=hU.wf.hd
 have hmx:=hU.wf.n3
 have hmm:s.m=s.k.nx.length:=rfl
 by_cases hneg:s.k.hd.1<0
 ·refine tk_1a (hx:=0) (n:=s.k.hd.1) (t:=s.k.hd.2) ⟨h1,by omega⟩ ⟨h3,h4⟩ hneg a1.u.c0 hA ?_
  refine po_1a (sv:=sv) hA1 ?_
  have k:=K w1 (by simp only[KSt.pop1,if_pos hneg];exact a1)
  simpa [hneg]using k
 obtain⟨i,ei⟩:∃i:Nat,s.k.hd.1=i:=⟨s.k.hd.1.toNat,by omega⟩
 have hi:i<s.m:=by omega
 refine tk_1b (hx:=0) (n:=s.k.hd.1) (t:=s.k.hd.2) ⟨h1,by omega⟩ ⟨h3,h4⟩ hneg a1.u.c0 hA fun A hA=>S.tick _ _ _ _ _ a1.x (by omega) fun w2 hx hz ho=>?_
 have a2:=a1.tick hsb hx hz ho
 clear hx hz ho
 rw[ei]at hA
 refine tk_2 (hx:=0) (i:=i) (t:=s.k.hd.2) (to:=s.k.nx.getD i 0) hi a2.u.c2 (a2.u.nc hi).1 hA fun A hA=>S.tick _ _ _ _ _ a2.x (by omega) fun w3 hx hz ho=>?_
 have a3:=a2.tick hsb hx hz ho
 clear hx hz ho
 obtain⟨n1,n2⟩:=hU.wf.nxt_ok i
 obtain⟨t1,t2⟩:=tag_ok s.k.tg s.k.hd.2
 have ex:s.k.hd=((i:Int),s.k.hd.2):=Prod.ext ei rfl
 have hcx:=a3.u.c0
 rw[ex]at hcx
 refine tk_3a (hx:=0) (tg:=s.k.tg) (n:=(i:Nat)) (t:=s.k.hd.2) (to:=s.k.nx.getD i 0) (cv:=pk ((i:Int),s.k.hd.2)) (by simp) a3.u.c3 ⟨by omega,by omega⟩ ⟨h3,h4⟩ ⟨n1,by omega⟩ hcx (a3.u.z 0) (notF0 _) hA ?_
 have a4:=a3.set S hsb (s':=⟨{s.k with hd:=(s.k.nx.getD i 0,tagOf s.k.tg s.k.hd.2)},s.nb⟩) (a3.u.setHd ⟨n1,n2,t1.1,t1.2⟩ t2) rfl (.inl rfl)
 refine po_1b (sv:=sv) (i:=i) hA1 fun A1 hA1=>S.tick _ _ _ _ _ a4.x (by omega) fun w5 hx hz ho=>?_
 have a5:=a4.tick hsb hx hz ho
 clear hx hz ho
 refine po_2 (v:=s.k.vl.getD i 0) (i:=i) hi a5.u.c2 (a5.u.nc hi).2.1 hA1 fun A1 hA1=>?_
 have a6:=a5
 refine gv_0 (hx:=1) (i:=i) fun A hA=>S.tick _ _ _ _ _ a6.x (by omega) fun w7 hx hz ho=>?_
 have a7:=a6.tick hsb hx hz ho
 clear hx hz ho
 obtain⟨g1,g2,g3,g4⟩:=hU.wf.fr
 refine gv_1 (hx:=1) (i:=i) (n:=s.k.fr.1) (t:=s.k.fr.2) a7.u.c1 hA fun A hA=>S.tick _ _ _ _ _ a7.x (by omega) fun w8 hx hz ho=>?_
 have a8:=a7.tick hsb hx hz ho
 clear hx hz ho
 refine gv_2 (hx:=1) (i:=i) (n:=s.k.fr.1) (t:=s.k.fr.2) ⟨g1,by omega⟩ ⟨g3,g4⟩ hi a8.u.c2 (a8.u.nc hi).1 ((a8.u.nc hi).2.2 _) (notF0 _) hA fun A hA=>?_
 have a9:=a8.set S hsb (s':=⟨{s.k with hd:=(s.k.nx.getD i 0,tagOf s.k.tg s.k.hd.2),nx:=s.k.nx.set i s.k.fr.1},s.nb⟩) (a8.u.setNx hi ⟨g1,g2⟩) rfl (.inr rfl)
 refine S.tick _ _ _ _ _ a9.x (by omega) fun w9 hx hz ho=>?_
 have b1:=a9.tick hsb hx hz ho
 clear hx hz ho
 obtain⟨u1,u2⟩:=tag_ok s.k.tg s.k.fr.2
 refine gv_3a (hx:=1) (tg:=s.k.tg) (i:=i) (n:=s.k.fr.1) (t:=s.k.fr.2) (cv:=pk s.k.fr) (by simp) b1.u.c3 ⟨g1,by omega⟩ ⟨g3,g4⟩ ⟨by omega,by omega⟩ b1.u.c1 (b1.u.z 1) (notF0 _) hA ?_
 have hsm:((i:Nat):Int)<(KS.m ⟨{s.k with hd:=(s.k.nx.getD i 0,tagOf s.k.tg s.k.hd.2),nx:=s.k.nx.set i s.k.fr.1},s.nb⟩:Nat):=by simp[KS.m];omega
 have b2:=b1.set S hsb (s':=⟨{s.k with hd:=(s.k.nx.getD i 0,tagOf s.k.tg s.k.hd.2),nx:=s.k.nx.set i s.k.fr.1,fr:=((i:Int),tagOf s.k.tg s.k.fr.2)},s.nb⟩) (b1.u.setFr ⟨by omega,hsm,u1.1,u1.2⟩ u2) rfl (.inl rfl)
 refine po_3 (sv:=sv) hA1 ?_
 have k:=K _ (by
  simp only[KSt.pop1,if_neg hneg,KSt.nxt,ei,Int.toNat_natCast]
  exact b2)
 have hni:¬((i:Nat):Int)<0:=by omega
 simpa [hneg,KSt.val,ei,hni]using k
end
end
noncomputable section
variable{F:Fz}{w:World}
@[go_sem] theorem neq_nn(w:World):(binOp .neq 105 .nilIface .nilIface).run Try.prog w= .ok (.bool false) w:=by kernel_rfl
@[go_sem] theorem neq_nnE(w:World)(es:Array Event):(binOp .neq 105 .nilIface .nilIface).events Try.prog w es=es:=by kernel_rfl
theorem own_step_nil{c:Frame}{cs:List Frame}{main:Bool}{Stop:Goroutine→World→Prop}(h:Own Try.prog main F Stop (G (c.finish (.tuple #[])) cs) w):
 Own Try.prog main F Stop (G (Frame.enter Try.prog 79 #[.nilIface] .normal) (c::cs)) w:=by
 rw[enter_qst]
 walk_nrm
 refine ogSR qsts0' qstr0' ?_
 simp only[qstr0,qstBody,Try.f79,zz,Nat.reduceAdd]
 iterate 2 (refine oW fun dd K hK=>?_;go_simp;refine qT hK ?_;clear hK K)
 refine ogE ?_
 rw[qstc3']
 refine ogF ?_
 simp only[Bool.false_eq_true,if_false]
 refine ogK ?_
 refine own_go rfl (fun d=>stepG_end) ?_
 refine own_go rfl (fun d=>stepG_leave (fn:=Try.f79) (v:=.tuple #[]) rfl rfl Try.func79 (by simp[results,Try.f79]) (by simp[results,Try.f79,go_sem])) ?_
 exact h
theorem nilS(main:Bool)(sb:Nat):Stepr .nilIface main sb fun _ _=>True:=
 ⟨fun m w c cs Stop _ _ K=>own_step_nil (K w trivial rfl fun _ _=>rfl),fun _ _ _ _ _=>trivial⟩
def CntAt(sb m:Nat)(w:World):Prop:=w.heap[sb]? =some (.cells #[.int .i64 m] 78 (0,0))
def kszBody:Code:=Try.f40.body.getD .skip
def kszs0:=pC [] kszBody
def kszr0:=pC [zt] kszBody
def kszs1:=pC [zf] kszBody
def kszs2:=pC [zf,zt] kszBody
def kszr1:=pC [zf,zt,zt] kszBody
def kszc4:=pC [zf,zt,zf] kszBody
def kszs3:=pC [zf,zt,zf,zt] kszBody
def kszs4:=pC [zf,zf] kszBody
def kszr3:=pC [zf,zf,zt] kszBody
theorem kszs0':kszs0= .seq kszr0 kszs1:=by kernel_rfl
theorem kszr0':kszr0= .region 0 (oC kszr0) false:=by kernel_rfl
theorem kszs1':kszs1= .seq kszs2 kszs4:=by kernel_rfl
theorem kszs2':kszs2= .seq kszr1 kszc4:=by kernel_rfl
theorem kszr1':kszr1= .region 1 (oC kszr1) false:=by kernel_rfl
theorem kszc4':kszc4= .cond (.tmp 4) kszs3 .skip:=by kernel_rfl
theorem kszs4':kszs4= .seq kszr3 .ret:=by kernel_rfl
theorem kszr3':kszr3= .region 3 (oC kszr3) false:=by kernel_rfl
theorem enter_ksz(args:Array Value):Frame.enter Try.prog 40 args .normal=(Go.Conc.base 40).at {tmps:=args++Array.replicate (10 - args.size) undef,defers:=[]} [.code kszs0]:=enter_at args Try.func40 rfl
theorem callable40:Callable 40:=callable Try.func40 rfl rfl
theorem own_size{kb:Nat}{s:KS}(hU:KU kb s w){v:Int}(hv:((s.m:Nat):Int)=v){c:Frame}{cs:List Frame}{main:Bool}{Stop:Goroutine→World→Prop}(h:Own Try.prog main F Stop (G (c.finish (.int .i64 v)) cs) w):
 Own Try.prog main F Stop (G (Frame.enter Try.prog 40 #[.pointer (some ⟨kb,0,none⟩)] .normal) (c::cs)) w:=by
 have c2:=hU.c2.c2
 clear hU
 subst hv
 rw[enter_ksz]
 walk_nrm
 refine ogSR kszs0' kszr0' ?_
 simp only[kszr0,kszBody,Try.f40,zz,Nat.reduceAdd]
 (refine oW fun dd K hK=>?_;go_simp;refine qT hK ?_;clear hK K)
 refine ogE ?_
 refine ogSE kszs1' ?_
 refine ogSR kszs2' kszr1' ?_
 simp only[kszr1,kszBody,Try.f40,zz,Nat.reduceAdd]
 iterate 2 (refine oW fun dd K hK=>?_;go_simp;refine qT hK ?_;clear hK K)
 refine ogE ?_
 rw[kszc4']
 refine ogF ?_
 simp only[Bool.false_eq_true,if_false]
 refine ogK ?_
 refine ogSR kszs4' kszr3' ?_
 simp only[kszr3,kszBody,Try.f40,zz,Nat.reduceAdd]
 iterate 3 (refine oW fun dd K hK=>?_;go_simp;refine qT hK ?_;clear hK K)
 (refine oW fun dd K hK=>?_;go_simp;refine qL hK ?_;clear hK K)
 iterate 2 (refine oW fun dd K hK=>?_;go_simp;refine qT hK ?_;clear hK K)
 refine ogE ?_
 refine ogX ?_
 refine own_go rfl (fun d=>stepG_leave (fn:=Try.f40) (v:=.int .i64 (s.m:Nat)) rfl rfl Try.func40 (by simp[results,Try.f40]) (by simp[results,Try.f40,go_sem])) ?_
 exact h
end
section
variable{w w':World}{kb:Nat}
@[go_sem] theorem method_kt (a : Addr) (w : World) : (method 309 76 (.pointer (some a)) "Step").run Try.prog w = .ok (131, .pointer (some a)) w := by kernel_rfl
end
section
variable{w w':World}{kb:Nat}
section
variable{sv:Value}{sb m:Nat}{X:Nat→World→Prop}{w0:World}{s0 s s':KS}
end
end
section
variable{w w':World}{kb:Nat}
section
variable{sv:Value}{sb m:Nat}{X:Nat→World→Prop}{w0:World}{s0 s s':KS}
end
end
section

end
section
variable{w w':World}
theorem own_row_ty{w:World}{e:TypeId}{sz n:Nat}{v:Value}{xs:List Value}{g:Nat}(h:w.ownsRow 0 e sz v n xs)(hg:v.ownBlock=some g):∃c,w.heap[g]? =some (.cells c e (0,0)):=by
 rcases h.2 with⟨rfl,_⟩|⟨b,cap,cur,rfl,_,h3,_⟩
 ·cases hg
 ·cases hg
  exact⟨_,h3⟩
theorem heap_ty{w:World}{a b:Nat}{c d:Array Value}{e f:TypeId}{y z:Nat×Nat}(h:w.heap[a]? =some (.cells c e y))(k:w.heap[b]? =some (.cells d f z))(he:e≠f):a≠b:=by
 rintro rfl
 rw[h]at k
 simp only[Option.some.injEq,Obj.cells.injEq]at k
 exact he k.2.1
theorem heap_set_eq{b k:Nat}{c:Array Value}{e:TypeId}{z:Nat×Nat}{v:Value}(h:w.heap[b]? =some (.cells c e z)):(w.setCell ⟨b,k,none⟩ v).heap[b]? =some (.cells (c.setIfInBounds k v) e z):=by
 rw[heap_setCell_eq h]
structure RTh where
 k:Nat
 pc:Nat
 n0:Int
 n1:Int
 n2:Int
 n3:Int
 n4:Int
 ans:List (Bool×Int)
def RTh.fin(t:RTh)(a:Bool×Int):RTh:={t with k:=t.k+1,pc:=0,ans:=t.ans++[a]}
def thC(op:Value)(t:RTh)(ov:Value)(en:Bool):Array Value:= #[op,.int .i64 t.k,.int .i64 t.pc,.int .i64 t.n0,.int .i64 t.n1,.int .i64 t.n2,.int .i64 t.n3,.int .i64 t.n4,.int .i64 0,.int .i64 0,.int .i64 0,.slice none 0 0,ov,.bool en]
structure TAt(w:World)(tb:Nat)(op:Value)(t:RTh)(ov:Value)(en:Bool):Prop where
 o:w.heap[tb]? =some (.cells (thC op t ov en) 158 (0,0))
 row:w.ownsRow 0 44 3 ov t.ans.length (ansC t.ans)
theorem TAt.lt{tb:Nat}{op ov:Value}{t:RTh}{en:Bool}(h:TAt w tb op t ov en):tb<w.heap.size:=(Array.getElem?_eq_some_iff.1 h.o).1
theorem TAt.same{tb:Nat}{op ov:Value}{t:RTh}{en:Bool}(h:TAt w tb op t ov en)(h1:w'.heap[tb]? =w.heap[tb]?)(h2:∀r,some r=ov.ownBlock→w'.heap[r]? =w.heap[r]?):TAt w' tb op t ov en:=
 ⟨h1.trans h.o,ownsRow_same2 h.row fun b hb _=>h2 b hb.symm⟩
theorem TAt.heap{tb:Nat}{op ov:Value}{t:RTh}{en:Bool}(h:TAt w tb op t ov en)(e:w'.heap=w.heap):TAt w' tb op t ov en:=h.same (by rw[e]) fun r _=>by rw[e]
theorem TAt.ne{tb:Nat}{op ov:Value}{t:RTh}{en:Bool}(h:TAt w tb op t ov en):some tb≠ov.ownBlock:=own_type h.row h.o (by decide)
structure Kpt(w w':World)(tb:Nat)(ov ov':Value):Prop where
 size:w.heap.size≤w'.heap.size
 old:∀r,r<w.heap.size→r≠tb→some r≠ov.ownBlock→w'.heap[r]? =w.heap[r]?
 fo:ov'.ownBlock=ov.ownBlock∨∃g,ov'.ownBlock=some g∧w.heap.size≤g
theorem Kpt.refl(w:World)(tb:Nat)(ov:Value):Kpt w w tb ov ov:=⟨Nat.le_refl _,fun _ _ _ _=>rfl,.inl rfl⟩
theorem Kpt.trans{u v:World}{tb:Nat}{ov ov1 ov2:Value}(h:Kpt w u tb ov ov1)(k:Kpt u v tb ov1 ov2):Kpt w v tb ov ov2:=by
 have hs:=h.size
 refine⟨Nat.le_trans hs k.size,fun r h1 h2 h3=>(k.old r (by omega) h2 ?_).trans (h.old r h1 h2 h3),?_⟩
 ·rcases h.fo with e|⟨g,e,hg⟩
  ·rw[e];exact h3
  ·rw[e];intro e2;cases e2;omega
 ·rcases k.fo with e|⟨g,e,hg⟩
  ·rw[e];exact h.fo
  ·exact .inr ⟨g,e,by omega⟩
theorem Kpt.heap{u:World}{tb:Nat}{ov ov1:Value}(h:Kpt w u tb ov ov1)(e:w'.heap=u.heap):Kpt w w' tb ov ov1:=⟨by rw[e];exact h.size,fun r a b c=>by rw[e];exact h.old r a b c,h.fo⟩
section
variable{tb:Nat}{op ov:Value}{t:RTh}{en:Bool}
end
end
section
variable{w w':World}
structure MK where
 mb:Nat
 nb:Nat
 vb:Nat
 cn:Nat
 cv:Nat
 thr:Value
structure MAt(w:World)(B:MK)(s:KSt):Prop where
 o:w.heap[B.mb]? =some (.cells #[.slice (some ⟨B.nb,0,none⟩) s.nx.length B.cn,.slice (some ⟨B.vb,0,none⟩) s.vl.length B.cv,.int .i64 s.hd.1,.int .i64 s.hd.2,.int .i64 s.fr.1,.int .i64 s.fr.2,.bool s.tg,B.thr] 121 (0,0))
 n:∃c,w.heap[B.nb]? =some (.cells c 2 (0,0))∧∀(i:Nat) (v:Int),s.nx[i]? =some v→c[i]? =some (.int .i64 v)
 v:∃c,w.heap[B.vb]? =some (.cells c 2 (0,0))∧∀(i:Nat) (v:Int),s.vl[i]? =some v→c[i]? =some (.int .i64 v)
 ne:B.nb≠B.vb
variable{B:MK}{s:KSt}{tb:Nat}{op ov:Value}{t:RTh}{en:Bool}
theorem MAt.same(h:MAt w B s)(h1:w'.heap[B.mb]? =w.heap[B.mb]?)(h2:w'.heap[B.nb]? =w.heap[B.nb]?)(h3:w'.heap[B.vb]? =w.heap[B.vb]?):MAt w' B s:=
 ⟨h1.trans h.o,by rw[h2];exact h.n,by rw[h3];exact h.v,h.ne⟩
theorem MAt.heap(h:MAt w B s)(e:w'.heap=w.heap):MAt w' B s:=h.same (by rw[e]) (by rw[e]) (by rw[e])
theorem MAt.mlt(h:MAt w B s):B.mb<w.heap.size:=(Array.getElem?_eq_some_iff.1 h.o).1
theorem MAt.nlt(h:MAt w B s):B.nb<w.heap.size:=by obtain⟨c,h1,_⟩:=h.n;exact(alt h1)
theorem MAt.vlt(h:MAt w B s):B.vb<w.heap.size:=by obtain⟨c,h1,_⟩:=h.v;exact(alt h1)
theorem MAt.mn(h:MAt w B s):B.nb≠B.mb∧B.vb≠B.mb:=by
 obtain⟨c,h1,_⟩:=h.n
 obtain⟨d,h2,_⟩:=h.v
 exact⟨heap_ty h1 h.o (by decide),heap_ty h2 h.o (by decide)⟩
theorem MAt.nc(h:MAt w B s){i:Nat}(hi:i<s.nx.length):w.cell? ⟨B.nb,i,none⟩=some (.int .i64 (s.nx.getD i 0))∧w.frozen? ⟨B.nb,i,none⟩=false:=by
 obtain⟨c,h1,h2⟩:=h.n
 have:=h2 i _ (List.getElem?_eq_getElem hi)
 exact⟨by simp only[World.cell?,h1];simpa [List.getD_eq_getElem?_getD,List.getElem?_eq_getElem hi]using this,by simp[World.frozen?,h1]⟩
theorem MAt.vc(h:MAt w B s){i:Nat}(hi:i<s.vl.length):w.cell? ⟨B.vb,i,none⟩=some (.int .i64 (s.vl.getD i 0))∧w.frozen? ⟨B.vb,i,none⟩=false:=by
 obtain⟨c,h1,h2⟩:=h.v
 have:=h2 i _ (List.getElem?_eq_getElem hi)
 exact⟨by simp only[World.cell?,h1];simpa [List.getD_eq_getElem?_getD,List.getElem?_eq_getElem hi]using this,by simp[World.frozen?,h1]⟩
theorem row_set{l:List Int}{i:Nat}{x:Int}{c:Array Value}(h:∀(j:Nat) (v:Int),l[j]? =some v→c[j]? =some (.int .i64 v))(hi:i<l.length):∀(j:Nat) (v:Int),(l.set i x)[j]? =some v→(c.setIfInBounds i (.int .i64 x))[j]? =some (.int .i64 v):=by
 intro j v hj
 have hc:=h i _ (List.getElem?_eq_getElem hi)
 have hic:=(alt hc)
 rw[List.getElem?_set]at hj
 by_cases e:i=j
 ·subst e
  rw[if_pos rfl,if_pos hi]at hj
  cases hj
  rw[Array.getElem?_setIfInBounds_self_of_lt hic]
 ·rw[if_neg e]at hj
  rw[Array.getElem?_setIfInBounds_ne e]
  exact h j v hj
structure Mid(w:World)(B:MK)(tb:Nat)(ov:Value)(xs:List (Bool×Int))(U:World)(s:KSt)(a:Array Value):Prop where
 m:MAt U B s
 t:U.heap[tb]? =some (.cells a 158 (0,0))
 r:U.ownsRow 0 44 3 ov xs.length (ansC xs)
 s:w.heap.size≤U.heap.size
 o:∀r,r<w.heap.size→r≠B.mb→r≠B.nb→r≠B.vb→r≠tb→U.heap[r]? =w.heap[r]?
section
variable{xs:List (Bool×Int)}{U:World}{a:Array Value}
theorem Mid.start(hM:MAt w B s)(hT:TAt w tb op t ov en):Mid w B tb ov t.ans w s (thC op t ov en):=⟨hM,hT.o,hT.row,Nat.le_refl _,fun _ _ _ _ _ _=>rfl⟩
theorem Mid.tm(h:Mid w B tb ov xs U s a):tb≠B.mb∧tb≠B.nb∧tb≠B.vb:=by
 obtain⟨c,h1,_⟩:=h.m.n
 obtain⟨d,h2,_⟩:=h.m.v
 exact⟨heap_ty h.t h.m.o (by decide),heap_ty h.t h1 (by decide),heap_ty h.t h2 (by decide)⟩
theorem Mid.st(h:Mid w B tb ov xs U s a)(j:Nat)(v:Value):Mid w B tb ov xs (U.setCell ⟨tb,j,none⟩ v) s (a.setIfInBounds j v):=by
 obtain⟨n1,n2,n3⟩:=h.tm
 exact⟨h.m.same (heap_setCell_ne _ _ _ n1.symm) (heap_setCell_ne _ _ _ n2.symm) (heap_setCell_ne _ _ _ n3.symm),heap_set_eq h.t,ownsRow_same2 h.r fun b hb _=>heap_setCell_ne _ _ _ fun e=>own_type h.r h.t (by decide) (by have e:=e;simp only at e;rw[← e];exact hb.symm),by rw[World.size_setCell];exact h.s,fun r h1 h2 h3 h4 h5=>(heap_setCell_ne _ _ _ h5).trans (h.o r h1 h2 h3 h4 h5)⟩
theorem Mid.nx(h:Mid w B tb ov xs U s a){i:Nat}(hi:i<s.nx.length)(x:Int):Mid w B tb ov xs (U.setCell ⟨B.nb,i,none⟩ (.int .i64 x)) {s with nx:=s.nx.set i x} a:=by
 obtain⟨n1,n2,n3⟩:=h.tm
 obtain⟨k1,k2⟩:=h.m.mn
 obtain⟨c,h1,h2⟩:=h.m.n
 refine⟨⟨?_,⟨_,heap_set_eq h1,row_set h2 hi⟩,?_,h.m.ne⟩,(heap_setCell_ne _ _ _ n2).trans h.t,ownsRow_same2 h.r fun b hb _=>heap_setCell_ne _ _ _ fun e=>own_type h.r h1 (by decide) (by have e:=e;simp only at e;rw[← e];exact hb.symm),by rw[World.size_setCell];exact h.s,fun r g1 g2 g3 g4 g5=>(heap_setCell_ne _ _ _ g3).trans (h.o r g1 g2 g3 g4 g5)⟩
 ·rw[heap_setCell_ne _ _ _ k1.symm]
  simpa using h.m.o
 ·rw[heap_setCell_ne _ _ _ h.m.ne.symm];exact h.m.v
theorem Mid.vl(h:Mid w B tb ov xs U s a){i:Nat}(hi:i<s.vl.length)(x:Int):Mid w B tb ov xs (U.setCell ⟨B.vb,i,none⟩ (.int .i64 x)) {s with vl:=s.vl.set i x} a:=by
 obtain⟨n1,n2,n3⟩:=h.tm
 obtain⟨k1,k2⟩:=h.m.mn
 obtain⟨c,h1,h2⟩:=h.m.v
 refine⟨⟨?_,?_,⟨_,heap_set_eq h1,row_set h2 hi⟩,h.m.ne⟩,(heap_setCell_ne _ _ _ n3).trans h.t,ownsRow_same2 h.r fun b hb _=>heap_setCell_ne _ _ _ fun e=>own_type h.r h1 (by decide) (by have e:=e;simp only at e;rw[← e];exact hb.symm),by rw[World.size_setCell];exact h.s,fun r g1 g2 g3 g4 g5=>(heap_setCell_ne _ _ _ g4).trans (h.o r g1 g2 g3 g4 g5)⟩
 ·rw[heap_setCell_ne _ _ _ k2.symm]
  simpa using h.m.o
 ·rw[heap_setCell_ne _ _ _ h.m.ne];exact h.m.n
theorem Mid.heap(h:Mid w B tb ov xs U s a)(e:w'.heap=U.heap):Mid w B tb ov xs w' s a:=
 ⟨h.m.heap e,by rw[e];exact h.t,ownsRow_same2 h.r fun _ _ _=>by rw[e],by rw[e];exact h.s,fun r h1 h2 h3 h4 h5=>by rw[e];exact h.o r h1 h2 h3 h4 h5⟩
theorem Mid.more(h:Mid w B tb ov xs U s a)(hs:U.heap.size≤w'.heap.size)(e:∀r,r<U.heap.size→w'.heap[r]? =U.heap[r]?):Mid w B tb ov xs w' s a:=by
 have h1:=h.s
 refine⟨h.m.same (e _ h.m.mlt) (e _ h.m.nlt) (e _ h.m.vlt),(e _ (Array.getElem?_eq_some_iff.1 h.t).1).trans h.t,ownsRow_same2 h.r fun b hb _=>e b ?_,by omega,fun r a1 a2 a3 a4 a5=>(e r (by omega)).trans (h.o r a1 a2 a3 a4 a5)⟩
 obtain⟨c,hc⟩:=own_row_ty h.r hb
 exact(alt hc)
end
def Out6(w:World)(B:MK)(tb:Nat)(op ov:Value)(en:Bool)(w':World)(r:KSt×RTh):Prop:=
 ∃ov',MAt w' B r.1∧TAt w' tb op r.2 ov' en∧w.heap.size≤w'.heap.size∧(∀r,r<w.heap.size→r≠B.mb→r≠B.nb→r≠B.vb→r≠tb→some r≠ov.ownBlock→w'.heap[r]? =w.heap[r]?)∧(ov'.ownBlock=ov.ownBlock∨∃g,ov'.ownBlock=some g∧w.heap.size≤g)
theorem Mid.out{U:World}{a:Array Value}(h:Mid w B tb ov t.ans U s a)(ha:a=thC op t ov en):Out6 w B tb op ov en U (s,t):=by
 subst ha
 exact⟨ov,h.m,⟨h.t,h.r⟩,h.s,fun r h1 h2 h3 h4 h5 _=>h.o r h1 h2 h3 h4 h5,.inl rfl⟩
theorem Mid.at{U:World}{a:Array Value}(h:Mid w B tb ov t.ans U s a)(ha:a=thC op t ov en):TAt U tb op t ov en:=by
 subst ha
 exact⟨h.t,h.r⟩
theorem Mid.fin{U u:World}{x:Bool×Int}{a:Array Value}{ov':Value}(h:Mid w B tb ov t.ans U s a)(ha:a=thC op t ov en)(hT:TAt u tb op (t.fin x) ov' en)(hk:Kpt U u tb ov ov'):Out6 w B tb op ov en u (s,t.fin x):=by
 subst ha
 obtain⟨n1,n2,n3⟩:=h.tm
 have hs:=h.s
 obtain⟨c,h1,_⟩:=h.m.n
 obtain⟨d,h2,_⟩:=h.m.v
 refine⟨ov',h.m.same (hk.old _ h.m.mlt n1.symm (own_type h.r h.m.o (by decide))) (hk.old _ h.m.nlt n2.symm (own_type h.r h1 (by decide))) (hk.old _ h.m.vlt n3.symm (own_type h.r h2 (by decide))),hT,Nat.le_trans hs hk.size,fun r a1 a2 a3 a4 a5 a6=>(hk.old r (by omega) a5 a6).trans (h.o r a1 a2 a3 a4 a5),hk.fo.imp id fun⟨g,e1,e2⟩=>⟨g,e1,by omega⟩⟩
def opsC(l:List Op4):List Value:=(l.map fun o=>[Value.int .i64 o.kd,.int .i64 o.a,.int .i64 o.b,.int .i64 o.c]).flatten
theorem opsC_app(l m:List Op4):opsC (l++m)=opsC l++opsC m:=by simp[opsC]
end
section
variable{w w':World}{kb:Nat}
section
variable{sv:Value}{sb m:Nat}{X:Nat→World→Prop}{w0:World}{s0 s s':KS}
end
end
section
variable{w w':World}{kb:Nat}
def al1(s:KSt)(o:Op4):(Bool×Int)×KSt×Nat:=
 if o.kd=1 then((decide (¬s.fr.1<0),0),s.push1 o.a,if s.fr.1<0 then 1 else 7)else
 if o.kd=2 then((decide (¬s.hd.1<0),if s.hd.1<0 then 0 else s.val s.hd.1),s.pop1,if s.hd.1<0 then 1 else 7)else
 if o.kd=3 then((decide (¬s.hd.1<0),if s.hd.1<0 then 0 else s.val s.hd.1),s,if s.hd.1<0 then 1 else 3)else
 if o.kd=4 then((decide (s.hd.1<0),0),s,1)else((false,0),s,0)
section
variable{sv:Value}{sb m:Nat}{X:Nat→World→Prop}{w0:World}{s s':KS}
structure Fr37(w u:World):Prop where
 h1:u.heap[w.heap.size+1]? =some (.cells #[.bool false,.int .i64 0,.slice none 0 0] 44 (0,0))
 h2:u.heap[w.heap.size+1+1]? =some (.cells #[.bool false,.int .i64 0,.slice none 0 0] 44 (0,0))
theorem Fr37.c{u:World}(h:Fr37 w u):u.cell? ⟨w.heap.size+1,0,none⟩=some (.bool false)∧u.cell? ⟨w.heap.size+1,1,none⟩=some (.int .i64 0)∧u.cell? ⟨w.heap.size+1,2,none⟩=some (.slice none 0 0)∧u.cell? ⟨w.heap.size+1+1,0,none⟩=some (.bool false)∧u.cell? ⟨w.heap.size+1+1,1,none⟩=some (.int .i64 0)∧u.cell? ⟨w.heap.size+1+1,2,none⟩=some (.slice none 0 0)∧(∀j,u.frozen? ⟨w.heap.size+1,j,none⟩=false)∧(∀j,u.frozen? ⟨w.heap.size+1+1,j,none⟩=false):=by
 simp[World.cell?,World.frozen?,h.h1,h.h2]
end
end
section
section
variable{m:Pl}
end
structure Alk(s u:KSt):Prop where
 nx:u.nx=s.nx
 vl:u.vl=s.vl
 hd:u.hd.1=s.hd.1
 fr:u.fr.1=s.fr.1
theorem Alk.one{s u:KSt}(h:Alk s u)(o:Op4):(al1 u o).1=(al1 s o).1∧Alk (al1 s o).2.1 (al1 u o).2.1:=by
 obtain⟨h1,h2,h3,h4⟩:=h
 obtain⟨kd,x,b,d⟩:=o
 unfold al1 KSt.push1 KSt.pop1 KSt.val KSt.nxt
 simp only
 rw[h1,h2,h3,h4]
 by_cases k1:kd=1
 ·subst k1
  simp only[if_true]
  refine⟨trivial,?_⟩
  split
  ·exact⟨h1,h2,h3,h4⟩
  ·exact⟨rfl,rfl,rfl,rfl⟩
 by_cases k2:kd=2
 ·subst k2
  simp only[k1,if_false,if_true]
  refine⟨trivial,?_⟩
  split
  ·exact⟨h1,h2,h3,h4⟩
  ·exact⟨rfl,rfl,rfl,rfl⟩
 by_cases k3:kd=3
 ·subst k3
  simp only[k1,k2,if_false,if_true]
  exact⟨trivial,h1,h2,h3,h4⟩
 by_cases k4:kd=4
 ·subst k4
  simp only[k1,k2,k3,if_false,if_true]
  exact⟨trivial,h1,h2,h3,h4⟩
 simp only[k1,k2,k3,k4,if_false]
 exact⟨trivial,h1,h2,h3,h4⟩
theorem Alk.vals{s u:KSt}(h:Alk s u):u.vals=s.vals:=by
 have e:∀f i,u.walk f i=s.walk f i:=by
  intro f
  induction f with
  | zero=>intro i;rfl
  | succ f ih=>
    intro i
    simp only[KSt.walk,KSt.val,KSt.nxt,h.nx,h.vl,ih]
 unfold KSt.vals
 rw[h.nx,h.hd,e]
end
section
variable{w w':World}
theorem gRounds_stays{m:Pl}{ops:Nat→List Op4}{n M:Nat}:∀(f:Nat) (s:GS m×List Nat),gDone n M (gRounds ops n M f s)→∀e,f≤e→gRounds ops n M e s=gRounds ops n M f s:=by
 intro f
 induction f with
 | zero=>
   intro s h e _
   exact gRounds_done h e
 | succ f ih=>
   intro s h e he
   by_cases hd:gDone n M s
   ·rw[gRounds_done hd,gRounds_done hd]
   ·obtain⟨e,rfl⟩:∃k,e=k+1:=⟨e - 1,by omega⟩
    simp only[gRounds,if_neg hd]at h ⊢
    exact ih _ h e (by omega)
theorem gOver_is{m:Pl}{ops:Nat→List Op4}{n M:Nat}{S:List Int}{s0:GS m}{F:Nat}(hd:gDone n M (gOver ops n M S F s0)){t:GS m×List Nat}(h:∃k,∀f,k≤f→gOver ops n M S f s0=t):t=gOver ops n M S F s0:=by
 obtain⟨k,hk⟩:=h
 rw[← hk (max k F) (by omega)]
 exact gRounds_stays F _ hd (max k F) (by omega)
structure IntsAt(e:TypeId)(w wr:World)(ov:Value)(xs:List Int):Prop where
 row:wr.ownsRow 0 e 1 ov xs.length (xs.map fun v=>.int .i64 v)
 size:w.heap.size≤wr.heap.size
 old:∀r,r<w.heap.size→wr.heap[r]? =w.heap[r]?
 new:∀g,ov.ownBlock=some g→w.heap.size≤g
theorem IntsAt.nil(e:TypeId)(w:World):IntsAt e w w (.slice none 0 0) []:=⟨⟨rfl,.inl ⟨rfl,rfl⟩⟩,Nat.le_refl _,fun _ _=>rfl,fun g h=>by cases h⟩
theorem IntsAt.more{e:TypeId}{w u w1:World}{ov:Value}{xs ys:List Int}(h:IntsAt e w u ov xs){v':Value}(hown:w1.ownsRow 0 e 1 v' (xs.length+ys.length) ((xs.map fun v=>.int .i64 v)++ys.map fun v=>.int .i64 v))(hg:u.grownBy w1 ov.ownBlock)(hf:v'.ownBlock=ov.ownBlock∨∃g,v'.ownBlock=some g∧u.heap.size≤g):IntsAt e w w1 v' (xs++ys):=by
 refine⟨by simpa using hown,by have:=h.size;have:=hg.size;omega,fun r hr=>?_,fun g hgv=>?_⟩
 ·have hsz:=h.size
  refine(hg.block r (by omega) fun e=>?_).trans (h.old r hr)
  have:=h.new r e.symm
  omega
 ·rcases hf with e|⟨g',e,h2⟩
  ·exact h.new g (e ▸ hgv)
  ·rw[e]at hgv
   cases hgv
   have:=h.size
   omega
theorem IntsAt.alloc{e:TypeId}{w u:World}{ov:Value}{xs:List Int}(h:IntsAt e w u ov xs)(o:Obj):IntsAt e w (u.alloc o) ov xs:=
 ⟨h.row.alloc o,by have:=h.size;simp;omega,fun r hr=>(heap_alloc_lt _ _ (Nat.lt_of_lt_of_le hr h.size)).trans (h.old r hr),h.new⟩
end
section
variable{w w':World}
theorem RRow.drewN{w:World}{a:Option Addr}{xs:List Value}(h:RRow w a xs)(k:Nat):RRow (w.drewN k) a xs:=h.heap rfl
theorem same32{aa ab:Option Addr}{ca cb:Nat}{xs:List Int}(hl:xs.length<100000000)(hA:RRow w aa (xs.map fun v=>.int .i64 v))(hB:RRow w ab (xs.map fun v=>.int .i64 v)):
 Calls Try.prog 32 #[.slice aa xs.length ca,.slice ab xs.length cb] w fun x w'=>x= .returned (.bool true)∧w'.heap=w.heap:=by
 have E:Aside (RRow w aa (xs.map fun v=>.int .i64 v)∧RRow w ab (xs.map fun v=>.int .i64 v)):=⟨hA,hB⟩
 clear hA hB
 go_enter Try.func32,Try.ntmps32
 go_wp2
 go_loopg [5] xs.length (fun g i wr=>∃k:Nat,k≤xs.length∧i= .int .i64 k∧g=xs.length - k∧wr.heap=w.heap)
 case atStart=>exact⟨0,Nat.zero_le _,rfl,rfl,rfl⟩
 case round=>
  obtain⟨k,hk,rfl,rfl,hw⟩:=hrel
  rcases Nat.lt_or_ge k xs.length with hlt|hge
  ·obtain⟨b1,o1,rfl,h1⟩:=(E.out.1.heap hw).c k (.int .i64 xs[k]) (by simp[hlt])
   obtain⟨b2,o2,rfl,h2⟩:=(E.out.2.heap hw).c k (.int .i64 xs[k]) (by simp[hlt])
   have hwr:IntKind.i64.wrap ((k:Int)+1)=(k:Int)+1:=IntWalk.i64_in _ (by omega)
   go_wp2
   go_quiet (fail)
   go_wp2
   go_roundg (xs.length - (k+1))
   case measure=>omega
   case rel=>exact⟨k+1,hlt,rfl,rfl,hw⟩
  ·have:k=xs.length:=by omega
   subst this
   go_wp2
   go_ret
   exact⟨rfl,hw⟩
end
section
variable{w w':World}
theorem RRow.olds{a:Option Addr}{xs:List Value}(h:RRow w a xs)(hk:∀r,r<w.heap.size→w'.heap[r]? =w.heap[r]?):RRow w' a xs:=
 ⟨fun k x hx=>by
  obtain⟨b,o,h1,h2⟩:=h.c k x hx
  obtain⟨c,e,z,ho⟩:=cell_block h2
  have:=hk b (alt ho)
  exact⟨b,o,h1,by rw[← h2];unfold World.cell?;simp only[this]⟩⟩
end
noncomputable section
variable{w:World}
theorem callable31:Callable 31:=callable Try.func31 rfl rfl
theorem callable38:Callable 38:=callable Try.func38 rfl rfl
theorem own_push'{sv:Value}{main:Bool}{sb m:Nat}{X:Nat→World→Prop}{kb:Nat}{s:KS}{v:Int}{b:Bool}(hb:decide (¬s.k.fr.1<0)=b)(S:Stepr sv main sb X)(hU:KU kb s w)(hX:X m w)(hm:m+7<4611686018427387904)(hsb:¬KR kb s sb){c:Frame}{cs:List Frame}{Stop:Goroutine→World→Prop}
 (K:∀w',AlK kb sb X w s ⟨s.k.push1 v,s.nb⟩ (m+if s.k.fr.1<0 then 1 else 7) w'→Own Try.prog main F0 Stop (G (c.finish (.bool b)) cs) w'):
 Own Try.prog main F0 Stop (G (Frame.enter Try.prog 45 #[.pointer (some ⟨kb,0,none⟩),sv,.int .i64 v] .normal) (c::cs)) w:=by
 subst hb
 exact own_push S hU hX hm hsb K
theorem own_pop'{sv:Value}{main:Bool}{sb m:Nat}{X:Nat→World→Prop}{kb:Nat}{s:KS}{v:Int}{b:Bool}(hv:(if s.k.hd.1<0 then 0 else s.k.val s.k.hd.1)=v)(hb:decide (¬s.k.hd.1<0)=b)(S:Stepr sv main sb X)(hU:KU kb s w)(hX:X m w)(hm:m+7<4611686018427387904)(hsb:¬KR kb s sb){c:Frame}{cs:List Frame}{Stop:Goroutine→World→Prop}
 (K:∀w',AlK kb sb X w s ⟨s.k.pop1,s.nb⟩ (m+if s.k.hd.1<0 then 1 else 7) w'→Own Try.prog main F0 Stop (G (c.finish (.tuple #[.int .i64 v,.bool b])) cs) w'):
 Own Try.prog main F0 Stop (G (Frame.enter Try.prog 43 #[.pointer (some ⟨kb,0,none⟩),sv] .normal) (c::cs)) w:=by
 subst hb hv
 exact own_pop S hU hX hm hsb K
theorem own_heads'{kb:Nat}{s:KS}{x1 x2 x3 x4:Int}(hU:KU kb s w)(h1:s.k.hd=(x1,x2))(h2:s.k.fr=(x3,x4)){c:Frame}{cs:List Frame}{main:Bool}{Stop:Goroutine→World→Prop}
 (K:∀w1,w1.heap=w.heap→Own Try.prog main F0 Stop (G (c.finish (.tuple #[.int .i64 x1,.int .i64 x2,.int .i64 x3,.int .i64 x4])) cs) w1):
 Own Try.prog main F0 Stop (G (Frame.enter Try.prog 38 #[.pointer (some ⟨kb,0,none⟩)] .normal) (c::cs)) w:=
 own_heads hU fun w1 e=>by
  rw[h1,h2]
  exact K w1 e
def tu0:KSt:=knew 2 true
def tu1:KSt:=tu0.push1 5
def tu2:KSt:=tu1.push1 6
def tu3:KSt:=tu2.push1 7
def tu4:KSt:=tu3.pop1
theorem tud0:decide (¬tu0.fr.1<0)=true:=by decide
theorem tud1:decide (¬tu1.fr.1<0)=true:=by decide
theorem tud2:decide (¬tu2.fr.1<0)=false:=by decide
theorem tud3:decide (¬tu3.hd.1<0)=true:=by decide
theorem tuv3:(if tu3.hd.1<0 then 0 else tu3.val tu3.hd.1)=6:=by decide
theorem tuh4:tu4.hd=(0,3):=by decide
theorem tuf4:tu4.fr=(1,3):=by decide
def ktuBody:Code:=Try.f30.body.getD .skip
def ktus0:=pC [] ktuBody
def ktur0:=pC [zt] ktuBody
def ktus1:=pC [zf] ktuBody
def ktur1:=pC [zf,zt] ktuBody
def ktus2:=pC [zf,zf] ktuBody
def ktus3:=pC [zf,zf,zt] ktuBody
def ktur2:=pC [zf,zf,zt,zt] ktuBody
def ktuc30:=pC [zf,zf,zt,zf] ktuBody
def ktus4:=pC [zf,zf,zt,zf,zt] ktuBody
def ktus5:=pC [zf,zf,zf] ktuBody
def ktur4:=pC [zf,zf,zf,zt] ktuBody
def ktus6:=pC [zf,zf,zf,zf] ktuBody
def ktur5:=pC [zf,zf,zf,zf,zt] ktuBody
def ktus7:=pC [zf,zf,zf,zf,zf] ktuBody
def ktur6:=pC [zf,zf,zf,zf,zf,zt] ktuBody
def ktus8:=pC [zf,zf,zf,zf,zf,zf] ktuBody
def ktur7:=pC [zf,zf,zf,zf,zf,zf,zt] ktuBody
theorem ktus0':ktus0= .seq ktur0 ktus1:=by kernel_rfl
theorem ktur0':ktur0= .region 0 (oC ktur0) false:=by kernel_rfl
theorem ktus1':ktus1= .seq ktur1 ktus2:=by kernel_rfl
theorem ktur1':ktur1= .region 1 (oC ktur1) false:=by kernel_rfl
theorem ktus2':ktus2= .seq ktus3 ktus5:=by kernel_rfl
theorem ktus3':ktus3= .seq ktur2 ktuc30:=by kernel_rfl
theorem ktur2':ktur2= .region 2 (oC ktur2) false:=by kernel_rfl
theorem ktuc30':ktuc30= .cond (.tmp 30) ktus4 .skip:=by kernel_rfl
theorem ktus5':ktus5= .seq ktur4 ktus6:=by kernel_rfl
theorem ktur4':ktur4= .region 4 (oC ktur4) false:=by kernel_rfl
theorem ktus6':ktus6= .seq ktur5 ktus7:=by kernel_rfl
theorem ktur5':ktur5= .region 5 (oC ktur5) false:=by kernel_rfl
theorem ktus7':ktus7= .seq ktur6 ktus8:=by kernel_rfl
theorem ktur6':ktur6= .region 6 (oC ktur6) false:=by kernel_rfl
theorem ktus8':ktus8= .seq ktur7 .ret:=by kernel_rfl
theorem enter_ktu(args:Array Value):Frame.enter Try.prog 30 args .normal=(Go.Conc.base 30).at {tmps:=args++Array.replicate (76 - args.size) undef,defers:=[]} [.code ktus0]:=enter_at args Try.func30 rfl
theorem callable30:Callable 30:=callable Try.func30 rfl rfl
def ktuT(s:Nat→Value):Array Value:= #[s 0,s 1,s 2,s 3,s 4,s 5,s 6,s 7,s 8,s 9,s 10,s 11,s 12,s 13,s 14,s 15,s 16,s 17,s 18,s 19,s 20,s 21,s 22,s 23,s 24,s 25,s 26,s 27,s 28,s 29,s 30,s 31,s 32,s 33,s 34,s 35,s 36,s 37,s 38,s 39,s 40,s 41,s 42,s 43,s 44,s 45,s 46,s 47,s 48,s 49,s 50,s 51,s 52,s 53,s 54,s 55,s 56,s 57,s 58,s 59,s 60,s 61,s 62,s 63,s 64,s 65,s 66,s 67,s 68,s 69,s 70,s 71,s 72,s 73,s 74,s 75]
theorem ktuT_of{A:Array Value}(h:A.size=76):∃s,A=ktuT s:=by
 obtain⟨s,hs,_⟩:=arr_lit A h
 exact⟨s,hs⟩
theorem tu_0{cs:List Frame}{main:Bool}{Stop:Goroutine→World→Prop}
 (h:∀A w',Slots 76 A [(2,.int .i64 6),(3,.bool true),(4,.int .i64 0),(5,.int .i64 3),(6,.int .i64 1),(7,.int .i64 3)]→w.heap.size≤w'.heap.size→(∀r,r<w.heap.size→w'.heap[r]? =w.heap[r]?)→Own Try.prog main F0 Stop (G (Frame.enter Try.prog 31 #[.bool true] .normal) (((Go.Conc.base 30).at ⟨A,[]⟩ [.inRegion (oC ktur6) [0,1,2],.code ktus8])::cs)) w'):
 Own Try.prog main F0 Stop (G (Frame.enter Try.prog 30 #[] .normal) cs) w:=by
 rw[enter_ktu]
 walk_nrm
 refine ogSR ktus0' ktur0' ?_
 simp only[ktur0,ktuBody,Try.f30,zz,Nat.reduceAdd]
 (refine oW fun dd K hK=>?_;go_simp;refine qT hK ?_;clear hK K)
 refine ogE ?_
 refine ogSR ktus1' ktur1' ?_
 simp only[ktur1,ktuBody,Try.f30,zz,Nat.reduceAdd]
 refine oc callable36 #[.int .i64 2,.bool true] ?_
 refine own_knew (n:=2) rfl fun w1 k1 k2 k3=>?_
 generalize ekb:w.heap.size+1=kb at k1 ⊢
 generalize enb:w.heap.size=nb at k1
 have hsb:¬KR kb ⟨tu0,nb⟩ (w.heap.size+2):=by rintro(h|h)<;>first|omega|(change _=nb at h;omega)
 generalize esb:w.heap.size+2=sb at hsb
 rw[Frame.finish_at]
 walk_nrm
 (refine oW fun dd K hK=>?_;go_simp;refine qT hK ?_;clear hK K)
 refine ogE ?_
 refine ogSE ktus2' ?_
 refine ogSR ktus3' ktur2' ?_
 simp only[ktur2,ktuBody,Try.f30,zz,Nat.reduceAdd]
 iterate 4 (refine oW fun dd K hK=>?_;go_simp;refine qT hK ?_;clear hK K)
 refine oc callable40 #[.pointer (some ⟨kb,0,none⟩)] ?_
 refine own_size k1 (v:=2) rfl ?_
 rw[Frame.finish_at]
 walk_nrm
 iterate 4 (refine oW fun dd K hK=>?_;go_simp;refine qT hK ?_;clear hK K)
 refine oc callable45 #[.pointer (some ⟨kb,0,none⟩),.nilIface,.int .i64 5] ?_
 refine own_push' (m:=0) (s:=⟨tu0,nb⟩) (b:=true) tud0 (nilS main sb) k1 trivial (by decide) hsb fun w2 a1=>?_
 have u1:KU kb ⟨tu1,nb⟩ w2:=a1.u
 rw[Frame.finish_at]
 walk_nrm
 iterate 4 (refine oW fun dd K hK=>?_;go_simp;refine qT hK ?_;clear hK K)
 refine oc callable45 #[.pointer (some ⟨kb,0,none⟩),.nilIface,.int .i64 6] ?_
 refine own_push' (m:=0) (s:=⟨tu1,nb⟩) (b:=true) tud1 (nilS main sb) u1 trivial (by decide) hsb fun w3 a2=>?_
 have u2:KU kb ⟨tu2,nb⟩ w3:=a2.u
 rw[Frame.finish_at]
 walk_nrm
 iterate 4 (refine oW fun dd K hK=>?_;go_simp;refine qT hK ?_;clear hK K)
 refine oc callable45 #[.pointer (some ⟨kb,0,none⟩),.nilIface,.int .i64 7] ?_
 refine own_push' (m:=0) (s:=⟨tu2,nb⟩) (b:=false) tud2 (nilS main sb) u2 trivial (by decide) hsb fun w4 a3=>?_
 have u3:KU kb ⟨tu3,nb⟩ w4:=a3.u
 rw[Frame.finish_at]
 walk_nrm
 (refine oW fun dd K hK=>?_;go_simp;refine qT hK ?_;clear hK K)
 refine ogE ?_
 rw[ktuc30']
 refine ogF ?_
 simp only[Bool.false_eq_true,if_false]
 refine ogK ?_
 refine ogSR ktus5' ktur4' ?_
 simp only[ktur4,ktuBody,Try.f30,zz,Nat.reduceAdd]
 (refine oW fun dd K hK=>?_;go_simp;refine qT hK ?_;clear hK K)
 refine oc callable43 #[.pointer (some ⟨kb,0,none⟩),.nilIface] ?_
 refine own_pop' (m:=0) (s:=⟨tu3,nb⟩) (v:=6) (b:=true) tuv3 tud3 (nilS main sb) u3 trivial (by decide) hsb fun w5 a4=>?_
 have u4:KU kb ⟨tu4,nb⟩ w5:=a4.u
 rw[Frame.finish_at]
 walk_nrm
 iterate 5 (refine oW fun dd K hK=>?_;go_simp;refine qT hK ?_;clear hK K)
 refine ogE ?_
 refine ogSR ktus6' ktur5' ?_
 simp only[ktur5,ktuBody,Try.f30,zz,Nat.reduceAdd]
 (refine oW fun dd K hK=>?_;go_simp;refine qT hK ?_;clear hK K)
 refine oc callable38 #[.pointer (some ⟨kb,0,none⟩)] ?_
 refine own_heads' (s:=⟨tu4,nb⟩) (x1:=0) (x2:=3) (x3:=1) (x4:=3) u4 tuh4 tuf4 fun w6 e6=>?_
 rw[Frame.finish_at]
 walk_nrm
 iterate 9 (refine oW fun dd K hK=>?_;go_simp;refine qT hK ?_;clear hK K)
 refine ogE ?_
 refine ogSR ktus7' ktur6' ?_
 simp only[ktur6,ktuBody,Try.f30,zz,Nat.reduceAdd]
 refine oc callable31 #[.bool true] ?_
 have hs:w6.heap.size=w1.heap.size:=by
  have:=a1.sz;have:=a2.sz;have:=a3.sz;have:=a4.sz
  rw[e6];omega
 refine h _ w6 ⟨rfl,rfl,rfl,rfl,rfl,rfl,rfl,trivial⟩ (by omega) fun r hr=>?_
 have hr1:r≠sb:=by omega
 have hr2:∀x:KSt,¬KR kb ⟨x,nb⟩ r:=fun x=>by rintro(h|h)<;>first|omega|(change _=nb at h;omega)
 rw[e6,a4.o r hr1 (hr2 _),a3.o r hr1 (hr2 _),a2.o r hr1 (hr2 _),a1.o r hr1 (hr2 _),k3 r hr]
end
noncomputable section
variable{F:Fz}{w:World}
theorem callable62:Callable 62:=callable Try.func62 rfl rfl
theorem bOp(k a b c:Int):Try.prog.built 47 [(0,.int .i64 k)]=some #[.int .i64 k,.int .i64 0,.int .i64 0,.int .i64 0]:=by kernel_rfl
theorem bOp2(k a:Int):Try.prog.built 47 [(0,.int .i64 k),(1,.int .i64 a)]=some #[.int .i64 k,.int .i64 a,.int .i64 0,.int .i64 0]:=by kernel_rfl
@[go_sem] theorem run_bOp(k:Int)(w:World):(Instr.build 47 #[(0,.int .i64 k)]).run Try.prog w= .ok (.agg #[.int .i64 k,.int .i64 0,.int .i64 0,.int .i64 0]) w:=run_build w _ _ _ (bOp k 0 0 0)
@[go_sem] theorem ev_bOp(k:Int)(w:World)(es:Array Event):(Instr.build 47 #[(0,.int .i64 k)]).events Try.prog w es=es:=ev_build w es _ _ _ _ Try.underlying47 (bOp k 0 0 0)
@[go_sem] theorem run_bOp2(k a:Int)(w:World):(Instr.build 47 #[(0,.int .i64 k),(1,.int .i64 a)]).run Try.prog w= .ok (.agg #[.int .i64 k,.int .i64 a,.int .i64 0,.int .i64 0]) w:=run_build w _ _ _ (bOp2 k a)
@[go_sem] theorem ev_bOp2(k a:Int)(w:World)(es:Array Event):(Instr.build 47 #[(0,.int .i64 k),(1,.int .i64 a)]).events Try.prog w es=es:=ev_build w es _ _ _ _ Try.underlying47 (bOp2 k a)
def kclBody:Code:=Try.f31.body.getD .skip
def kcls0:=pC [] kclBody
def kclr0:=pC [zt] kclBody
def kcls1:=pC [zf] kclBody
def kclr1:=pC [zf,zt] kclBody
def kcls2:=pC [zf,zf] kclBody
def kclr2:=pC [zf,zf,zt] kclBody
def kcls3:=pC [zf,zf,zf] kclBody
def kclr3:=pC [zf,zf,zf,zt] kclBody
theorem kcls0':kcls0= .seq kclr0 kcls1:=by kernel_rfl
theorem kclr0':kclr0= .region 0 (oC kclr0) false:=by kernel_rfl
theorem kcls1':kcls1= .seq kclr1 kcls2:=by kernel_rfl
theorem kclr1':kclr1= .region 1 (oC kclr1) false:=by kernel_rfl
theorem kcls2':kcls2= .seq kclr2 kcls3:=by kernel_rfl
theorem kclr2':kclr2= .region 2 (oC kclr2) false:=by kernel_rfl
theorem kcls3':kcls3= .seq kclr3 .ret:=by kernel_rfl
theorem kclr3':kclr3= .region 3 (oC kclr3) false:=by kernel_rfl
theorem enter_kcl(args:Array Value):Frame.enter Try.prog 31 args .normal=(Go.Conc.base 31).at {tmps:=args++Array.replicate (27 - args.size) undef,defers:=[]} [.code kcls0]:=enter_at args Try.func31 rfl
def kclT(s:Nat→Value):Array Value:= #[s 0,s 1,s 2,s 3,s 4,s 5,s 6,s 7,s 8,s 9,s 10,s 11,s 12,s 13,s 14,s 15,s 16,s 17,s 18,s 19,s 20,s 21,s 22,s 23,s 24,s 25,s 26]
theorem kclT_of{A:Array Value}(h:A.size=27):∃s,A=kclT s:=by
 obtain⟨s,hs,_⟩:=arr_lit A h
 exact⟨s,hs⟩
def clW(w:World):World:=(((((w.alloc (.cells #[.slice none 0 0,.slice none 0 0,.slice none 0 0,.bool false] 31)).alloc (.cells #[.int .i64 2,.int .i64 0,.int .i64 0,.int .i64 0] 47)).alloc (.cells #[.int .i64 1,.int .i64 8,.int .i64 0,.int .i64 0,.int .i64 1,.int .i64 7,.int .i64 0,.int .i64 0,.int .i64 2,.int .i64 0,.int .i64 0,.int .i64 0,.int .i64 2,.int .i64 0,.int .i64 0,.int .i64 0,.int .i64 1,.int .i64 4,.int .i64 0,.int .i64 0] 47)).alloc (.cells #[.int .i64 1,.int .i64 9,.int .i64 0,.int .i64 0] 47)).alloc (.cells #[.slice (some ⟨w.heap.size+1,0,none⟩) 1 1,.slice (some ⟨w.heap.size+2,0,none⟩) 5 5,.slice (some ⟨w.heap.size+3,0,none⟩) 1 1] 34))
theorem cl_0{n:Nat}(hU:Under F n)(hn:n≤w.heap.size){tg:Bool}{cs:List Frame}{main:Bool}{Stop:Goroutine→World→Prop}
 (h:∀A,Slots 27 A [(0,.bool tg),(2,.pointer (some ⟨w.heap.size,0,none⟩)),(3,.slice (some ⟨w.heap.size+4,0,none⟩) 3 3)]→Own Try.prog main F Stop (G (Frame.enter Try.prog 62 #[.slice none 0 0,.int .i64 1,.int .i64 14] .normal) (((Go.Conc.base 31).at ⟨A,[]⟩ [.inRegion (oC kclr2) [0,1,2,3,4,5,6,7],.code kcls3])::cs)) (clW w)):
 Own Try.prog main F Stop (G (Frame.enter Try.prog 31 #[.bool tg] .normal) cs) w:=by
 rw[enter_kcl]
 walk_nrm
 refine ogSR kcls0' kclr0' ?_
 simp only[kclr0,kclBody,Try.f31,zz,Nat.reduceAdd]
 (refine oW fun dd K hK=>?_;go_simp;refine qA hK hU ?_;clear hK K)
 refine ogE ?_
 refine ogSR kcls1' kclr1' ?_
 simp only[kclr1,kclBody,Try.f31,zz,Nat.reduceAdd]
 (refine oW fun dd K hK=>?_;go_simp;refine qT hK ?_;clear hK K)
 (refine oW fun dd K hK=>?_;go_simp;refine qA hK hU ?_;clear hK K)
 iterate 5 (refine oW fun dd K hK=>?_;go_simp;refine qT hK ?_;clear hK K)
 (refine oW fun dd K hK=>?_;go_simp;refine qA hK hU ?_;clear hK K)
 (refine oW fun dd K hK=>?_;go_simp;refine qT hK ?_;clear hK K)
 iterate 2 (refine oW fun dd K hK=>?_;go_simp;refine qA hK hU ?_;clear hK K)
 (refine oW fun dd K hK=>?_;go_simp;refine qT hK ?_;clear hK K)
 refine ogE ?_
 refine ogSR kcls2' kclr2' ?_
 simp only[kclr2,kclBody,Try.f31,zz,Nat.reduceAdd]
 refine oc callable62 #[.slice none 0 0,.int .i64 1,.int .i64 14] ?_
 refine h _ ?_
 exact⟨rfl,rfl,rfl,rfl,trivial⟩
theorem cl_10{tg:Bool}{rb th:Nat}{v:Value}{A:Array Value}(hA:Slots 27 A [(0,.bool tg),(2,.pointer (some ⟨rb,0,none⟩)),(3,.slice (some ⟨th,0,none⟩) 3 3)]){cs:List Frame}{main:Bool}{Stop:Goroutine→World→Prop}
 (h:∀A,Slots 27 A [(0,.bool tg),(2,.pointer (some ⟨rb,0,none⟩)),(3,.slice (some ⟨th,0,none⟩) 3 3)]→Own Try.prog main F Stop (G (Frame.enter Try.prog 62 #[v,.int .i64 0,.int .i64 2] .normal) (((Go.Conc.base 31).at ⟨A,[]⟩ [.inRegion (oC kclr2) [1,2,3,4,5,6,7],.code kcls3])::cs)) w):
 Own Try.prog main F Stop (G (((Go.Conc.base 31).at ⟨A,[]⟩ [.inRegion (oC kclr2) [0,1,2,3,4,5,6,7],.code kcls3]).finish v) cs) w:=by
 obtain⟨hsz,h0,h2,h3,_⟩:=hA
 obtain⟨s,rfl⟩:=kclT_of hsz
 change s 0=_ at h0
 change s 2=_ at h2
 change s 3=_ at h3
 clear hsz
 simp only[kclT,h0,h2,h3]
 clear h0 h2 h3
 rw[Frame.finish_at]
 simp only[kclr2,kclBody,Try.f31,zz,Nat.reduceAdd]
 walk_nrm
 refine oc callable62 #[v,.int .i64 0,.int .i64 2] ?_
 refine h _ ?_
 exact⟨rfl,rfl,rfl,rfl,trivial⟩
theorem cl_11{tg:Bool}{rb th:Nat}{v:Value}{A:Array Value}(hA:Slots 27 A [(0,.bool tg),(2,.pointer (some ⟨rb,0,none⟩)),(3,.slice (some ⟨th,0,none⟩) 3 3)]){cs:List Frame}{main:Bool}{Stop:Goroutine→World→Prop}
 (h:∀A,Slots 27 A [(0,.bool tg),(2,.pointer (some ⟨rb,0,none⟩)),(3,.slice (some ⟨th,0,none⟩) 3 3)]→Own Try.prog main F Stop (G (Frame.enter Try.prog 62 #[v,.int .i64 1,.int .i64 14] .normal) (((Go.Conc.base 31).at ⟨A,[]⟩ [.inRegion (oC kclr2) [2,3,4,5,6,7],.code kcls3])::cs)) w):
 Own Try.prog main F Stop (G (((Go.Conc.base 31).at ⟨A,[]⟩ [.inRegion (oC kclr2) [1,2,3,4,5,6,7],.code kcls3]).finish v) cs) w:=by
 obtain⟨hsz,h0,h2,h3,_⟩:=hA
 obtain⟨s,rfl⟩:=kclT_of hsz
 change s 0=_ at h0
 change s 2=_ at h2
 change s 3=_ at h3
 clear hsz
 simp only[kclT,h0,h2,h3]
 clear h0 h2 h3
 rw[Frame.finish_at]
 simp only[kclr2,kclBody,Try.f31,zz,Nat.reduceAdd]
 walk_nrm
 refine oc callable62 #[v,.int .i64 1,.int .i64 14] ?_
 refine h _ ?_
 exact⟨rfl,rfl,rfl,rfl,trivial⟩
theorem cl_12{tg:Bool}{rb th:Nat}{v:Value}{A:Array Value}(hA:Slots 27 A [(0,.bool tg),(2,.pointer (some ⟨rb,0,none⟩)),(3,.slice (some ⟨th,0,none⟩) 3 3)]){cs:List Frame}{main:Bool}{Stop:Goroutine→World→Prop}
 (h:∀A,Slots 27 A [(0,.bool tg),(2,.pointer (some ⟨rb,0,none⟩)),(3,.slice (some ⟨th,0,none⟩) 3 3)]→Own Try.prog main F Stop (G (Frame.enter Try.prog 62 #[v,.int .i64 2,.int .i64 3] .normal) (((Go.Conc.base 31).at ⟨A,[]⟩ [.inRegion (oC kclr2) [3,4,5,6,7],.code kcls3])::cs)) w):
 Own Try.prog main F Stop (G (((Go.Conc.base 31).at ⟨A,[]⟩ [.inRegion (oC kclr2) [2,3,4,5,6,7],.code kcls3]).finish v) cs) w:=by
 obtain⟨hsz,h0,h2,h3,_⟩:=hA
 obtain⟨s,rfl⟩:=kclT_of hsz
 change s 0=_ at h0
 change s 2=_ at h2
 change s 3=_ at h3
 clear hsz
 simp only[kclT,h0,h2,h3]
 clear h0 h2 h3
 rw[Frame.finish_at]
 simp only[kclr2,kclBody,Try.f31,zz,Nat.reduceAdd]
 walk_nrm
 refine oc callable62 #[v,.int .i64 2,.int .i64 3] ?_
 refine h _ ?_
 exact⟨rfl,rfl,rfl,rfl,trivial⟩
theorem cl_13{tg:Bool}{rb th:Nat}{v:Value}{A:Array Value}(hA:Slots 27 A [(0,.bool tg),(2,.pointer (some ⟨rb,0,none⟩)),(3,.slice (some ⟨th,0,none⟩) 3 3)]){cs:List Frame}{main:Bool}{Stop:Goroutine→World→Prop}
 (h:∀A,Slots 27 A [(0,.bool tg),(2,.pointer (some ⟨rb,0,none⟩)),(3,.slice (some ⟨th,0,none⟩) 3 3)]→Own Try.prog main F Stop (G (Frame.enter Try.prog 62 #[v,.int .i64 1,.int .i64 7] .normal) (((Go.Conc.base 31).at ⟨A,[]⟩ [.inRegion (oC kclr2) [4,5,6,7],.code kcls3])::cs)) w):
 Own Try.prog main F Stop (G (((Go.Conc.base 31).at ⟨A,[]⟩ [.inRegion (oC kclr2) [3,4,5,6,7],.code kcls3]).finish v) cs) w:=by
 obtain⟨hsz,h0,h2,h3,_⟩:=hA
 obtain⟨s,rfl⟩:=kclT_of hsz
 change s 0=_ at h0
 change s 2=_ at h2
 change s 3=_ at h3
 clear hsz
 simp only[kclT,h0,h2,h3]
 clear h0 h2 h3
 rw[Frame.finish_at]
 simp only[kclr2,kclBody,Try.f31,zz,Nat.reduceAdd]
 walk_nrm
 refine oc callable62 #[v,.int .i64 1,.int .i64 7] ?_
 refine h _ ?_
 exact⟨rfl,rfl,rfl,rfl,trivial⟩
theorem cl_14{tg:Bool}{rb th:Nat}{v:Value}{A:Array Value}(hA:Slots 27 A [(0,.bool tg),(2,.pointer (some ⟨rb,0,none⟩)),(3,.slice (some ⟨th,0,none⟩) 3 3)]){cs:List Frame}{main:Bool}{Stop:Goroutine→World→Prop}
 (h:∀A,Slots 27 A [(0,.bool tg),(2,.pointer (some ⟨rb,0,none⟩)),(3,.slice (some ⟨th,0,none⟩) 3 3)]→Own Try.prog main F Stop (G (Frame.enter Try.prog 62 #[v,.int .i64 0,.int .i64 5] .normal) (((Go.Conc.base 31).at ⟨A,[]⟩ [.inRegion (oC kclr2) [5,6,7],.code kcls3])::cs)) w):
 Own Try.prog main F Stop (G (((Go.Conc.base 31).at ⟨A,[]⟩ [.inRegion (oC kclr2) [4,5,6,7],.code kcls3]).finish v) cs) w:=by
 obtain⟨hsz,h0,h2,h3,_⟩:=hA
 obtain⟨s,rfl⟩:=kclT_of hsz
 change s 0=_ at h0
 change s 2=_ at h2
 change s 3=_ at h3
 clear hsz
 simp only[kclT,h0,h2,h3]
 clear h0 h2 h3
 rw[Frame.finish_at]
 simp only[kclr2,kclBody,Try.f31,zz,Nat.reduceAdd]
 walk_nrm
 refine oc callable62 #[v,.int .i64 0,.int .i64 5] ?_
 refine h _ ?_
 exact⟨rfl,rfl,rfl,rfl,trivial⟩
theorem cl_15{tg:Bool}{rb th:Nat}{v:Value}{A:Array Value}(hA:Slots 27 A [(0,.bool tg),(2,.pointer (some ⟨rb,0,none⟩)),(3,.slice (some ⟨th,0,none⟩) 3 3)]){cs:List Frame}{main:Bool}{Stop:Goroutine→World→Prop}
 (h:∀A,Slots 27 A [(0,.bool tg),(2,.pointer (some ⟨rb,0,none⟩)),(3,.slice (some ⟨th,0,none⟩) 3 3)]→Own Try.prog main F Stop (G (Frame.enter Try.prog 62 #[v,.int .i64 2,.int .i64 4] .normal) (((Go.Conc.base 31).at ⟨A,[]⟩ [.inRegion (oC kclr2) [6,7],.code kcls3])::cs)) w):
 Own Try.prog main F Stop (G (((Go.Conc.base 31).at ⟨A,[]⟩ [.inRegion (oC kclr2) [5,6,7],.code kcls3]).finish v) cs) w:=by
 obtain⟨hsz,h0,h2,h3,_⟩:=hA
 obtain⟨s,rfl⟩:=kclT_of hsz
 change s 0=_ at h0
 change s 2=_ at h2
 change s 3=_ at h3
 clear hsz
 simp only[kclT,h0,h2,h3]
 clear h0 h2 h3
 rw[Frame.finish_at]
 simp only[kclr2,kclBody,Try.f31,zz,Nat.reduceAdd]
 walk_nrm
 refine oc callable62 #[v,.int .i64 2,.int .i64 4] ?_
 refine h _ ?_
 exact⟨rfl,rfl,rfl,rfl,trivial⟩
theorem cl_2{tg:Bool}{rb th:Nat}{v:Value}{A:Array Value}(hA:Slots 27 A [(0,.bool tg),(2,.pointer (some ⟨rb,0,none⟩)),(3,.slice (some ⟨th,0,none⟩) 3 3)]){cs:List Frame}{main:Bool}{Stop:Goroutine→World→Prop}
 (h:∀A,Slots 27 A [(2,.pointer (some ⟨rb,0,none⟩))]→Own Try.prog main F Stop (G (Frame.enter Try.prog 34 #[.int .i64 2,.bool tg,.slice (some ⟨th,0,none⟩) 3 3,v,.int .i64 200] .normal) (((Go.Conc.base 31).at ⟨A,[]⟩ [.inRegion (oC kclr3) [3,4],.code .ret])::cs)) w):
 Own Try.prog main F Stop (G (((Go.Conc.base 31).at ⟨A,[]⟩ [.inRegion (oC kclr2) [6,7],.code kcls3]).finish v) cs) w:=by
 obtain⟨hsz,h0,h2,h3,_⟩:=hA
 obtain⟨s,rfl⟩:=kclT_of hsz
 change s 0=_ at h0
 change s 2=_ at h2
 change s 3=_ at h3
 clear hsz
 simp only[kclT,h0,h2,h3]
 clear h0 h2 h3
 rw[Frame.finish_at]
 simp only[kclr2,kclBody,Try.f31,zz,Nat.reduceAdd]
 walk_nrm
 (refine oW fun dd K hK=>?_;go_simp;refine qT hK ?_;clear hK K)
 refine ogE ?_
 refine ogSR kcls3' kclr3' ?_
 simp only[kclr3,kclBody,Try.f31,zz,Nat.reduceAdd]
 iterate 3 (refine oW fun dd K hK=>?_;go_simp;refine qT hK ?_;clear hK K)
 refine oc callable34 #[.int .i64 2,.bool tg,.slice (some ⟨th,0,none⟩) 3 3,v,.int .i64 200] ?_
 refine h _ ?_
 exact⟨rfl,rfl,trivial⟩
theorem cl_3{rb:Nat}{aa oa xa:Option Addr}{al ac ol oz xl xc:Nat}{st:Bool}{y0 y1 y2 y3:Value}(hR:TrAt w rb y0 y1 y2 y3)(hnr:∀k,¬held F ⟨rb,k,none⟩){A:Array Value}(hA:Slots 27 A [(2,.pointer (some ⟨rb,0,none⟩))]){c:Frame}{cs:List Frame}{main:Bool}{Stop:Goroutine→World→Prop}
 (h:Own Try.prog main F Stop (G (c.finish (.agg #[.slice aa al ac,.slice oa ol oz,.slice xa xl xc,.bool st])) cs) (trW w rb (.slice aa al ac) (.slice oa ol oz) (.slice xa xl xc) (.bool st))):
 Own Try.prog main F Stop (G (((Go.Conc.base 31).at ⟨A,[]⟩ [.inRegion (oC kclr3) [3,4],.code .ret]).finish (.agg #[.slice aa al ac,.slice oa ol oz,.slice xa xl xc,.bool st])) (c::cs)) w:=by
 obtain⟨hsz,h2,_⟩:=hA
 obtain⟨s,rfl⟩:=kclT_of hsz
 change s 2=_ at h2
 clear hsz
 simp only[kclT,h2]
 clear h2
 rw[Frame.finish_at]
 simp only[kclr3,kclBody,Try.f31,zz,Nat.reduceAdd]
 walk_nrm
 (refine oW fun dd K hK=>?_;have hc0:=(hR.at dd).c0;have hc1:=(hR.at dd).c1;have hc2:=(hR.at dd).c2;have hc3:=(hR.at dd).c3;have hz0:=(hR.at dd).z;go_simp;refine hK _ _ ⟨⟨⟨0,grew4 hnr _ _ _ _⟩,fun e he=>by(have hm:=mem_listed he;clear he hK;simp[go_sem,storedEv,hc0,hc1,hc2,hc3,hz0]at hm;rcases hm with rfl|rfl|rfl|rfl<;>exact evT_write _ _ (hnr _))⟩,?_⟩;clear hK K hc0 hc1 hc2 hc3 hz0;simp only[setCell_at'];refine Own.at ?_ dd)
 refine ogE ?_
 refine ogX ?_
 have hT3:=hR.put (.slice aa al ac) (.slice oa ol oz) (.slice xa xl xc) (.bool st)
 change Own _ _ _ _ _ (trW w rb (.slice aa al ac) (.slice oa ol oz) (.slice xa xl xc) (.bool st))
 generalize (trW w rb (.slice aa al ac) (.slice oa ol oz) (.slice xa xl xc) (.bool st))=V at hT3 h ⊢
 have hc0:=hT3.c0
 have hc1:=hT3.c1
 have hc2:=hT3.c2
 have hc3:=hT3.c3
 have hz0:=hT3.z
 refine own_leave (fn:=Try.f31) (v:=.agg #[.slice aa al ac,.slice oa ol oz,.slice xa xl xc,.bool st]) rfl rfl Try.func31 (fun d=>by simp[results,Try.f31,go_sem,hc0,hc1,hc2,hc3,hz0]) (fun d e he=>by simp[results,Try.f31,go_sem,hc0,hc1,hc2,hc3,hz0]at he;rcases he with rfl|rfl|rfl|rfl<;>exact evT_read _ _) ?_
 exact h
end
section
variable{w w' w0:World}
theorem many_callsB{v:Value}{l:List Int}{t:Int}{n:Nat}(hn:l.length+n<1000000)(h:IntsAt 3 w0 w v l):
 CallsB Try.prog Try.f62 #[v,.int .i64 t,.int .i64 n] w fun x w'=>IntsAt 3 w0 w' x (l++List.replicate n t):=by
 obtain⟨i0,z0,hi,hz0,hz1,hz2,hz3⟩:=infoA3
 have H:Aside (IntsAt 3 w0 w v l):=h
 have B:Aside (l.length+n<1000000):=hn
 clear h hn
 refine callsB_of rfl ?_
 simp only[Try.ntmps62,List.size_toArray,List.length_cons,List.length_nil,Nat.reduceAdd,Nat.reduceSub,Array.replicate_succ,Array.replicate_zero,List.push_toArray,List.append_toArray,List.nil_append,List.cons_append]
 go_wp2
 go_loopg [0,8] n (fun g x i wr=>∃k:Nat,k≤n∧i= .int .i64 k∧g=n - k∧IntsAt 3 w0 wr x (l++List.replicate k t))
 case atStart=>exact⟨0,Nat.zero_le _,rfl,rfl,by simpa using H.out⟩
 case round=>
  obtain⟨k,hk,rfl,hg,hI⟩:=hrel
  have I:Aside (IntsAt 3 w0 wr u0 (l++List.replicate k t)∧gk=n - k∧k≤n):=⟨hI,hg,hk⟩
  clear hI hg
  rcases Nat.lt_or_ge k n with hlt|hge
  ·have hlt':(k:Int)<(n:Int):=by omega
   have hwr:IntKind.i64.wrap ((k:Int)+1)=(k:Int)+1:=IntWalk.i64_in _ (by have:=B.out;omega)
   have L:Aside (k<n):=hlt
   clear hk hlt
   go_wp2_with (at_builtin;refine wpList_append_fresh rfl (.tmp 10) (.tmp 12) 24 rfl 3 i0 z0 1 8 Try.underlying24 hi hz0 hz1 hz2 hz3 (by decide) u0 (l++List.replicate k t).length ((l++List.replicate k t).map fun v=>.int .i64 v) rfl (I.out.1.row.alloc _) ⟨wr.heap.size,0,none⟩ 1 1 [.int .i64 t] rfl rfl (new_cells (X:=wr) (l:=[.int .i64 t]) rfl) (by intro u hu;simp at hu;subst hu;rfl) (by have:=B.out;have:=L.out;unfold maxLen;simp;omega) (by have:=B.out;have:=L.out;simp;omega) ?_;intro v' w1 hown hgrow hfr;have Z:Aside (IntsAt 3 w0 w1 v' ((l++List.replicate k t)++[t])):=(I.out.1.alloc _).more hown hgrow (hfr.imp id fun⟨g',h1,h2⟩=>⟨g',h1,h2⟩);clear hown hgrow hfr)
   go_roundg (n - (k+1))
   case measure=>have:=I.out;have:=L.out;omega
   case rel=>exact⟨k+1,L.out,rfl,rfl,by have:=Z.out;rw[List.append_assoc]at this;rw[List.replicate_succ'];exact this⟩
  ·have e:k=n:=by omega
   subst e
   clear hk hge
   go_wp2
   go_ret
   exact⟨_,rfl,I.out.1⟩
end
section
variable{An:Anchor}{w w' w0:World}
theorem closedMany:Closed Try.prog (fun f=>[62].contains f) true:=closed_ofX (x:=[]) (fun f h=>by cases h) (by kernel_rfl)
theorem own_many{v:Value}{l:List Int}{t:Int}{n:Nat}(hn:l.length+n<1000000)(h:IntsAt 3 w0 w v l){c:Frame}{cs:List Frame}{main:Bool}{Stop:Goroutine→World→Prop}
 (K:∀w1 v',IntsAt 3 w0 w1 v' (l++List.replicate n t)→Own Try.prog main F0 Stop (G (c.finish v') cs) w1):
 Own Try.prog main F0 Stop (G (Frame.enter Try.prog 62 #[v,.int .i64 t,.int .i64 n] .normal) (c::cs)) w:=by
 refine own_callB closedMany prog_late Try.func62 rfl (by kernel_rfl) (R:=fun x w'=>IntsAt 3 w0 w' x (l++List.replicate n t)) (fun τ e=>many_callsB hn ⟨ownsRow_same2 h.row fun _ _ _=>rfl,h.size,h.old,h.new⟩) fun x w' τ e hR hg=>?_
 exact K w' x ⟨ownsRow_same2 hR.row fun _ _ _=>rfl,hR.size,hR.old,hR.new⟩
def clOps:Nat→List Op4:=fun i=>if i=0 then[⟨2,0,0,0⟩]else if i=1 then[⟨1,8,0,0⟩,⟨1,7,0,0⟩,⟨2,0,0,0⟩,⟨2,0,0,0⟩,⟨1,4,0,0⟩]else if i=2 then[⟨1,9,0,0⟩]else[]
def clS:List Int:=((((((([]++List.replicate 14 (1:Int))++List.replicate 2 0)++List.replicate 14 1)++List.replicate 3 2)++List.replicate 7 1)++List.replicate 5 0)++List.replicate 4 2)
def clE(tg:Bool):GS KPl×List Nat:=gOver clOps 3 200 clS 10 (ks0 2 tg)
theorem clE_done(tg:Bool):gDone 3 200 (clE tg):=by cases tg<;>decide +kernel
theorem clE_live(tg:Bool):cnt (clE tg).1.live 3=0:=by cases tg<;>decide +kernel
theorem clE_st1:KSt.state (clE true).1.q=[0,7,1,7,9]:=by decide +kernel
theorem clE_st0:KSt.state (clE false).1.q=[0,0,1,0,9,9]:=by decide +kernel
def clSt(tg:Bool):List Int:=if tg=true then[0,7,1,7,9]else[0,0,1,0,9,9]
theorem clE_st(tg:Bool):KSt.state (clE tg).1.q=clSt tg:=by cases tg;exact clE_st0;exact clE_st1
theorem cl_old{r:Nat}(h:r<w.heap.size):(clW w).heap[r]? =w.heap[r]?:=by
 simp only[clW]
 rw[heap_alloc_lt _ _ (by simp;try omega),heap_alloc_lt _ _ (by simp;try omega),heap_alloc_lt _ _ (by simp;try omega),heap_alloc_lt _ _ (by simp;try omega),heap_alloc_lt _ _ h]
theorem cl_size:(clW w).heap.size=w.heap.size+5:=by simp[clW]
theorem cl_b0:(clW w).heap[w.heap.size]? =some (.cells #[.slice none 0 0,.slice none 0 0,.slice none 0 0,.bool false] 31 (0,0)):=by
 simp only[clW]
 rw[heap_alloc_lt _ _ (by simp;try omega),heap_alloc_lt _ _ (by simp;try omega),heap_alloc_lt _ _ (by simp;try omega),heap_alloc_lt _ _ (by simp;try omega)]
 exact heap_alloc_new _ _
theorem cl_b1:(clW w).heap[w.heap.size+1]? =some (.cells #[.int .i64 2,.int .i64 0,.int .i64 0,.int .i64 0] 47 (0,0)):=by
 simp only[clW]
 rw[heap_alloc_lt _ _ (by simp;try omega),heap_alloc_lt _ _ (by simp;try omega),heap_alloc_lt _ _ (by simp;try omega)]
 exact new_at (by simp) _
theorem cl_b2:(clW w).heap[w.heap.size+2]? =some (.cells #[.int .i64 1,.int .i64 8,.int .i64 0,.int .i64 0,.int .i64 1,.int .i64 7,.int .i64 0,.int .i64 0,.int .i64 2,.int .i64 0,.int .i64 0,.int .i64 0,.int .i64 2,.int .i64 0,.int .i64 0,.int .i64 0,.int .i64 1,.int .i64 4,.int .i64 0,.int .i64 0] 47 (0,0)):=by
 simp only[clW]
 rw[heap_alloc_lt _ _ (by simp;try omega),heap_alloc_lt _ _ (by simp;try omega)]
 exact new_at (by simp) _
theorem cl_b3:(clW w).heap[w.heap.size+3]? =some (.cells #[.int .i64 1,.int .i64 9,.int .i64 0,.int .i64 0] 47 (0,0)):=by
 simp only[clW]
 rw[heap_alloc_lt _ _ (by simp;try omega)]
 exact new_at (by simp) _
theorem cl_b4:(clW w).heap[w.heap.size+4]? =some (.cells #[.slice (some ⟨w.heap.size+1,0,none⟩) 1 1,.slice (some ⟨w.heap.size+2,0,none⟩) 5 5,.slice (some ⟨w.heap.size+3,0,none⟩) 1 1] 34 (0,0)):=by
 simp only[clW]
 exact new_at (by simp) _
def clOl:Nat→Nat:=fun i=>if i=1 then 5 else 1
theorem cl_in{u:World}(hu:∀r,r<w.heap.size+5→u.heap[r]? =(clW w).heap[r]?)(hsz:w.heap.size+5≤u.heap.size){sv:Value}(hS:IntsAt 3 (clW w) u sv clS):∃sa sc,sv= .slice sa clS.length sc∧
 OpsIn u (fun _=>False) 3 (w.heap.size+4) 0 3 (some ⟨w.heap.size+4,0,none⟩) (fun i=>some ⟨w.heap.size+1+i,0,none⟩) clOl clOl clOps clS sa:=by
 have h1:u.heap[w.heap.size+1]? =_:=(hu _ (by omega)).trans cl_b1
 have h2:u.heap[w.heap.size+2]? =_:=(hu _ (by omega)).trans cl_b2
 have h3:u.heap[w.heap.size+3]? =_:=(hu _ (by omega)).trans cl_b3
 have h4:u.heap[w.heap.size+4]? =_:=(hu _ (by omega)).trans cl_b4
 have hr:=hS.row
 rcases hr.2 with⟨_,h⟩|⟨sb,sc,cur,h5,_,h6,_,_,_,h7⟩
 ·exact absurd h (by decide)
 refine⟨some ⟨sb,0,none⟩,sc,h5,⟨rfl,fun _=>rfl,fun _=>by omega,fun j hj=>?_,fun j hj=>?_,fun j hj k x hx=>?_,by decide,fun _=>⟨_,_,_,_,_,rfl,id,h6,fun k v hv=>?_⟩⟩⟩
 ·have:j=0∨j=1∨j=2:=by omega
  rcases this with rfl|rfl|rfl
  ·exact⟨(cell_of h4 rfl).c,(cell_of (k:=0) h4 rfl).z,Nat.le_refl _⟩
  ·exact⟨(cell_of h4 rfl).c,(cell_of (k:=1) h4 rfl).z,Nat.le_refl _⟩
  ·exact⟨(cell_of h4 rfl).c,(cell_of (k:=2) h4 rfl).z,Nat.le_refl _⟩
 ·have:j=0∨j=1∨j=2:=by omega
  rcases this with rfl|rfl|rfl<;>rfl
 ·have:j=0∨j=1∨j=2:=by omega
  rcases this with rfl|rfl|rfl
  ·have hk:k=0:=by
    have:=(List.getElem?_eq_some_iff.1 hx).1
    simp[clOps]at this
    omega
   subst hk
   obtain rfl:(⟨2,0,0,0⟩:Op4)=x:=by simpa [clOps]using hx
   exact⟨_,_,rfl,id,(cell_of h1 rfl).c,(cell_of h1 rfl).c,(cell_of h1 rfl).c,(cell_of h1 rfl).c,(cell_of (k:=0) h1 rfl).z,(cell_of (k:=1) h1 rfl).z,(cell_of (k:=2) h1 rfl).z,(cell_of (k:=3) h1 rfl).z⟩
  ·have hk:k=0∨k=1∨k=2∨k=3∨k=4:=by
    have:=(List.getElem?_eq_some_iff.1 hx).1
    simp[clOps]at this
    omega
   rcases hk with rfl|rfl|rfl|rfl|rfl
   ·obtain rfl:(⟨1,8,0,0⟩:Op4)=x:=by simpa [clOps]using hx
    exact⟨_,_,rfl,id,(cell_of h2 rfl).c,(cell_of h2 rfl).c,(cell_of h2 rfl).c,(cell_of h2 rfl).c,(cell_of (k:=0) h2 rfl).z,(cell_of (k:=1) h2 rfl).z,(cell_of (k:=2) h2 rfl).z,(cell_of (k:=3) h2 rfl).z⟩
   ·obtain rfl:(⟨1,7,0,0⟩:Op4)=x:=by simpa [clOps]using hx
    exact⟨_,_,rfl,id,(cell_of h2 rfl).c,(cell_of h2 rfl).c,(cell_of h2 rfl).c,(cell_of h2 rfl).c,(cell_of (k:=4) h2 rfl).z,(cell_of (k:=5) h2 rfl).z,(cell_of (k:=6) h2 rfl).z,(cell_of (k:=7) h2 rfl).z⟩
   ·obtain rfl:(⟨2,0,0,0⟩:Op4)=x:=by simpa [clOps]using hx
    exact⟨_,_,rfl,id,(cell_of h2 rfl).c,(cell_of h2 rfl).c,(cell_of h2 rfl).c,(cell_of h2 rfl).c,(cell_of (k:=8) h2 rfl).z,(cell_of (k:=9) h2 rfl).z,(cell_of (k:=10) h2 rfl).z,(cell_of (k:=11) h2 rfl).z⟩
   ·obtain rfl:(⟨2,0,0,0⟩:Op4)=x:=by simpa [clOps]using hx
    exact⟨_,_,rfl,id,(cell_of h2 rfl).c,(cell_of h2 rfl).c,(cell_of h2 rfl).c,(cell_of h2 rfl).c,(cell_of (k:=12) h2 rfl).z,(cell_of (k:=13) h2 rfl).z,(cell_of (k:=14) h2 rfl).z,(cell_of (k:=15) h2 rfl).z⟩
   ·obtain rfl:(⟨1,4,0,0⟩:Op4)=x:=by simpa [clOps]using hx
    exact⟨_,_,rfl,id,(cell_of h2 rfl).c,(cell_of h2 rfl).c,(cell_of h2 rfl).c,(cell_of h2 rfl).c,(cell_of (k:=16) h2 rfl).z,(cell_of (k:=17) h2 rfl).z,(cell_of (k:=18) h2 rfl).z,(cell_of (k:=19) h2 rfl).z⟩
  ·have hk:k=0:=by
    have:=(List.getElem?_eq_some_iff.1 hx).1
    simp[clOps]at this
    omega
   subst hk
   obtain rfl:(⟨1,9,0,0⟩:Op4)=x:=by simpa [clOps]using hx
   exact⟨_,_,rfl,id,(cell_of h3 rfl).c,(cell_of h3 rfl).c,(cell_of h3 rfl).c,(cell_of h3 rfl).c,(cell_of (k:=0) h3 rfl).z,(cell_of (k:=1) h3 rfl).z,(cell_of (k:=2) h3 rfl).z,(cell_of (k:=3) h3 rfl).z⟩
 ·refine⟨?_,by simp⟩
  rw[Nat.zero_add]
  rw[← h7,List.getElem?_take_of_lt (by have:=(List.getElem?_eq_some_iff.1 hv).1;simp at this;omega)]at hv
  simpa using hv
theorem PlayU.other{w1 u:World}{n:Nat}{ans:Nat→List (Bool×Int)}{state:List Int}{order:List Nat}{aa rb:Nat}{ov sv:Value}(h:PlayU w1 n ans state order aa ov sv w')(hs:w.heap.size≤w1.heap.size)(hold:∀r,r<w.heap.size→w1.heap[r]? =w.heap[r]?)(hu:u.heap.size=w'.heap.size)(hne:∀r,r≠rb→u.heap[r]? =w'.heap[r]?)(hr:∃c z,w'.heap[rb]? =some (.cells c 31 z))(hrb:w.heap.size≤rb):PlayU w n ans state order aa ov sv u:=by
 obtain⟨cr,zr,hr⟩:=hr
 have ty:∀(b:Nat) (c:Array Value) (e:TypeId) (z:Nat×Nat),w'.heap[b]? =some (.cells c e z)→e≠31→u.heap[b]? =w'.heap[b]?:=fun b c e z hb he=>hne b fun e2=>by
  rw[e2,hr]at hb
  cases hb
  exact he rfl
 obtain⟨c,a1,a2,a3⟩:=h.arr
 refine⟨by have:=h.size;omega,fun r cc e z hr2=>?_,⟨c,(ty _ _ _ _ a1 (by decide)).trans a1,a2,fun i hi=>?_⟩,?_,?_⟩
 ·have hlt:=(alt hr2)
  rw[hne r (by omega)]
  exact h.old r cc e z ((hold r hlt).trans hr2)
 ·obtain⟨v,v1,v2,v3⟩:=a3 i hi
  exact⟨v,v1,v2,own_off v3 fun b cc hb _=>ty b cc _ _ hb (by decide)⟩
 ·exact ownsRow_mono_base hs (own_off h.ord fun b cc hb _=>ty b cc _ _ hb (by decide))
 ·exact ownsRow_mono_base hs (own_off h.st fun b cc hb _=>ty b cc _ _ hb (by decide))
theorem bes_classicE{tg:Bool}{E:GS KPl×List Nat}{st:List Int}(hE:∀t,(∃k,∀f,k≤f→gOver clOps 3 200 clS f (ks0 2 tg)=t)→t=E)(hlive:cnt E.1.live 3=0)(hst:KSt.state E.1.q=st){c:Frame}{cs:List Frame}{Stop:Goroutine→World→Prop}
 (K:∀aa oa oc xa xc w',PlayU w 3 (fun i=>(E.1.th i).ans) st E.2 aa (.slice oa E.2.length oc) (.slice xa st.length xc) w'→
   Bes An Try.prog Stop (G (c.finish (.agg #[.slice (some ⟨aa,0,none⟩) 3 3,.slice oa E.2.length oc,.slice xa st.length xc,.bool false])) cs) w'):
 Bes An Try.prog Stop (G (Frame.enter Try.prog 31 #[.bool tg] .normal) (c::cs)) w:=by
 refine bes_own (F:=F0) (Stop:=fun a u=>∃A v,Slots 27 A [(2,.pointer (some ⟨w.heap.size,0,none⟩))]∧IntsAt 3 (clW w) u v clS∧a=G (Frame.enter Try.prog 34 #[.int .i64 2,.bool tg,.slice (some ⟨w.heap.size+4,0,none⟩) 3 3,v,.int .i64 200] .normal) (((Go.Conc.base 31).at ⟨A,[]⟩ [.inRegion (oC kclr3) [3,4],.code .ret])::c::cs))
  (cl_0 under_F0 (Nat.zero_le _) fun A hA=>own_many (w0:=clW w) (l:=[]) (t:=1) (n:=14) (by decide) (IntsAt.nil 3 _) fun w1 v1 i1=>cl_10 hA fun A hA=>
    own_many (w0:=clW w) (t:=0) (n:=2) (by simp) i1 fun w2 v2 i2=>cl_11 hA fun A hA=>
    own_many (w0:=clW w) (t:=1) (n:=14) (by simp) i2 fun w3 v3 i3=>cl_12 hA fun A hA=>
    own_many (w0:=clW w) (t:=2) (n:=3) (by simp) i3 fun w4 v4 i4=>cl_13 hA fun A hA=>
    own_many (w0:=clW w) (t:=1) (n:=7) (by simp) i4 fun w5 v5 i5=>cl_14 hA fun A hA=>
    own_many (w0:=clW w) (t:=0) (n:=5) (by simp) i5 fun w6 v6 i6=>cl_15 hA fun A hA=>
    own_many (w0:=clW w) (t:=2) (n:=4) (by simp) i6 fun w7 v7 i7=>cl_2 hA fun A hA=>.stop fun d=>⟨A,v7,hA,⟨ownsRow_same2 i7.row fun _ _ _=>rfl,i7.size,i7.old,i7.new⟩,rfl⟩) fun a u ⟨A,v,hA,hI,ha⟩=>?_
 subst ha
 have hsz:=hI.size
 rw[cl_size]at hsz
 have hold:∀r,r<w.heap.size+5→u.heap[r]? =(clW w).heap[r]?:=fun r hr=>hI.old r (by rw[cl_size];exact hr)
 obtain⟨sa,sc,rfl,hin⟩:=cl_in hold hsz hI
 refine bes_kplay (m0:=2) rfl hin (M:=200) rfl fun s order hd hov aa oa' oc' xa xc w' hP=>?_
 have he:=hE _ hov
 have e1:s=E.1:=congrArg Prod.fst he
 have e2:order=E.2:=congrArg Prod.snd he
 subst e1
 subst e2
 have hrb:w'.heap[w.heap.size]? =_:=hP.old _ _ _ _ ((hold _ (by omega)).trans cl_b0)
 rw[hlive,hst]
 rw[hst]at hP
 refine bes_own (F:=F0) (Stop:=fun a u2=>a=G (c.finish (.agg #[.slice (some ⟨aa,0,none⟩) 3 3,.slice oa' E.2.length oc',.slice xa st.length xc,.bool false])) cs∧PlayU w 3 (fun i=>(E.1.th i).ans) st E.2 aa (.slice oa' E.2.length oc') (.slice xa st.length xc) u2)
  (cl_3 (rb:=w.heap.size) ⟨hrb⟩ (fun k=>notF0 _) hA (.stop fun d=>⟨rfl,?_⟩)) fun a u2 ⟨ha,hu⟩=>?_
 ·refine hP.other (w:=w) (rb:=w.heap.size) (by omega) (fun r hr=>(hold r (by omega)).trans (cl_old hr)) ?_ (fun r hr=>?_) ⟨_,_,hrb⟩ (Nat.le_refl _)
  ·show(trW _ _ _ _ _ _).heap.size=_
   unfold trW;simp
  ·show(trW _ _ _ _ _ _).heap[r]? =_
   unfold trW
   rw[heap_setCell_ne _ _ _ hr,heap_setCell_ne _ _ _ hr,heap_setCell_ne _ _ _ hr,heap_setCell_ne _ _ _ hr]
 ·subst ha
  exact K _ _ _ _ _ _ hu
theorem clE_is(tg:Bool)(t:GS KPl×List Nat)(h:∃k,∀f,k≤f→gOver clOps 3 200 clS f (ks0 2 tg)=t):t=clE tg:=gOver_is (F:=10) (clE_done tg) h
theorem bes_classic{tg:Bool}{c:Frame}{cs:List Frame}{Stop:Goroutine→World→Prop}
 (K:∀aa oa oc xa xc w',PlayU w 3 (fun i=>((clE tg).1.th i).ans) (clSt tg) (clE tg).2 aa (.slice oa (clE tg).2.length oc) (.slice xa (clSt tg).length xc) w'→
   Bes An Try.prog Stop (G (c.finish (.agg #[.slice (some ⟨aa,0,none⟩) 3 3,.slice oa (clE tg).2.length oc,.slice xa (clSt tg).length xc,.bool false])) cs) w'):
 Bes An Try.prog Stop (G (Frame.enter Try.prog 31 #[.bool tg] .normal) (c::cs)) w:=
 bes_classicE (clE_is tg) (clE_live tg) (clE_st tg) K
end
section
variable{F:Fz}{w:World}
theorem tr_newU(X:World)(x y z u x' y' z' u':Value):((((X.alloc (.cells #[x,y,z,u] 31)).setCell ⟨X.heap.size,0,none⟩ x').setCell ⟨X.heap.size,1,none⟩ y').setCell ⟨X.heap.size,2,none⟩ z').setCell ⟨X.heap.size,3,none⟩ u'=X.alloc (.cells #[x',y',z',u'] 31):=by go_simp
theorem tu_1{n:Nat}(hU:Under F n)(hn:n≤w.heap.size){aa oa xa:Option Addr}{al ac ol oz xl xc:Nat}{st:Bool}{A:Array Value}(hA:Slots 76 A [(2,.int .i64 6),(3,.bool true),(4,.int .i64 0),(5,.int .i64 3),(6,.int .i64 1),(7,.int .i64 3)]){cs:List Frame}{main:Bool}{Stop:Goroutine→World→Prop}
 (h:∀A,Slots 76 A [(2,.int .i64 6),(3,.bool true),(4,.int .i64 0),(5,.int .i64 3),(6,.int .i64 1),(7,.int .i64 3),(8,.pointer (some ⟨w.heap.size,0,none⟩))]→Own Try.prog main F Stop (G ((Go.Conc.base 30).at ⟨A,[]⟩ [.code ktur7,.code .ret]) cs) (w.alloc (.cells #[.slice aa al ac,.slice oa ol oz,.slice xa xl xc,.bool st] 31))):
 Own Try.prog main F Stop (G (((Go.Conc.base 30).at ⟨A,[]⟩ [.inRegion (oC ktur6) [0,1,2],.code ktus8]).finish (.agg #[.slice aa al ac,.slice oa ol oz,.slice xa xl xc,.bool st])) cs) w:=by
 obtain⟨hsz,h2,h3,h4,h5,h6,h7,_⟩:=hA
 obtain⟨s,rfl⟩:=ktuT_of hsz
 change s 2=_ at h2
 change s 3=_ at h3
 change s 4=_ at h4
 change s 5=_ at h5
 change s 6=_ at h6
 change s 7=_ at h7
 clear hsz
 simp only[ktuT,h2,h3,h4,h5,h6,h7]
 clear h2 h3 h4 h5 h6 h7
 rw[Frame.finish_at]
 simp only[ktur6,ktuBody,Try.f30,zz,Nat.reduceAdd]
 walk_nrm
 (refine oW fun dd K hK=>?_;go_simp;refine qA hK hU ?_;clear hK K)
 (refine oW fun dd K hK=>?_;go_simp;refine hK _ _ ⟨⟨⟨0,grew4 (fun k=>not_held hU (show n≤w.heap.size by omega)) _ _ _ _⟩,fun e he=>by(have hm:=mem_listed he;clear he hK;simp[go_sem,storedEv]at hm;rcases hm with rfl|rfl|rfl|rfl<;>exact evT_write _ _ ((fun k=>not_held hU (show n≤w.heap.size by omega)) _))⟩,?_⟩;clear hK K;simp only[setCell_at'];refine Own.at ?_ dd)
 have e1:=tr_newU w (.slice none 0 0) (.slice none 0 0) (.slice none 0 0) (.bool false) (.slice aa al ac) (.slice oa ol oz) (.slice xa xl xc) (.bool st)
 rw[e1]
 clear e1
 refine ogE ?_
 refine ogSE ktus8' ?_
 refine h _ ?_
 exact⟨rfl,rfl,rfl,rfl,rfl,rfl,rfl,rfl,trivial⟩
def tuFns:List Nat:=[32]
theorem closedTu:Closed Try.prog (fun f=>tuFns.contains f) true:=closed_ofX (x:=[]) (fun f h=>by cases h) (by kernel_rfl)
theorem RRow.same{a:Option Addr}{xs:List Value}{w w':World}(h:RRow w a xs)(he:∀b o,a=some ⟨b,o,none⟩→w'.heap[b]? =w.heap[b]?):RRow w' a xs:=
 ⟨fun k x hx=>by
  obtain⟨b,o,h1,h2⟩:=h.c k x hx
  exact⟨b,o,h1,by simpa only[World.cell?,he b o h1]using h2⟩⟩
theorem RRow.alloc{a:Option Addr}{xs:List Value}{w:World}(h:RRow w a xs)(o:Obj):RRow (w.alloc o) a xs:=
 ⟨fun k x hx=>by
  obtain⟨b,o1,h1,h2⟩:=h.c k x hx
  exact⟨b,o1,h1,(cellB_alloc h2 o).1⟩⟩
theorem rrow_new(w:World)(xs:List Value)(e:TypeId):RRow (w.alloc (.cells xs.toArray e)) (some ⟨w.heap.size,0,none⟩) xs:=
 ⟨fun k x hx=>⟨_,_,rfl,by
  have:=heap_alloc_new w (.cells xs.toArray e)
  simp only[World.cell?,this,Nat.zero_add]
  simpa using hx⟩⟩
theorem tu_2{T xc:Nat}{xa:Option Addr}{v0 v1:Value}(hT:w.heap[T]? =some (.cells #[v0,v1,.slice xa 5 xc,.bool false] 31 (0,0)))(hX:RRow w xa (([0,7,1,7,9]:List Int).map fun v=>.int .i64 v)){A:Array Value}(hA:Slots 76 A [(2,.int .i64 6),(3,.bool true),(4,.int .i64 0),(5,.int .i64 3),(6,.int .i64 1),(7,.int .i64 3),(8,.pointer (some ⟨T,0,none⟩))]):
 ktur7.wp Try.prog (nrm fun a u=>a.defers=[]∧(a.tmps.size=76∧a.tmps.getD 0 undef= .bool true∧w.heap.size≤u.heap.size∧∀r,r<w.heap.size→u.heap[r]? =w.heap[r]?)) ⟨A,[]⟩ w:=by
 obtain⟨hsz,h2,h3,h4,h5,h6,h7,h8,_⟩:=hA
 obtain⟨s,rfl⟩:=ktuT_of hsz
 change s 2=_ at h2
 change s 3=_ at h3
 change s 4=_ at h4
 change s 5=_ at h5
 change s 6=_ at h6
 change s 7=_ at h7
 change s 8=_ at h8
 clear hsz
 have c2:w.cell? ⟨T,2,none⟩=some (.slice xa 5 xc):=by simp[World.cell?,hT]
 have c3:w.cell? ⟨T,3,none⟩=some (.bool false):=by simp[World.cell?,hT]
 have z3:w.frozen? ⟨T,3,none⟩=false:=by simp[World.frozen?,hT]
 have hlt:=(alt hT)
 have C:Aside (Calls Try.prog 32 #[.slice xa 5 xc,.slice (some ⟨w.heap.size,0,none⟩) 5 5] (w.alloc (.cells #[.int .i64 0,.int .i64 7,.int .i64 1,.int .i64 7,.int .i64 9] 2)) fun x w'=>x= .returned (.bool true)∧w'.heap=(w.alloc (.cells #[.int .i64 0,.int .i64 7,.int .i64 1,.int .i64 7,.int .i64 9] 2)).heap):=
  same32 (xs:=[0,7,1,7,9]) (by decide) (hX.alloc _) (rrow_new w ([0,7,1,7,9].map fun v=>.int .i64 v) 2)
 have HT:Aside (w.heap[T]? =some (.cells #[v0,v1,.slice xa 5 xc,.bool false] 31 (0,0))∧T<w.heap.size):=⟨hT,hlt⟩
 clear hT hX hlt
 simp only[ktur7,ktuBody,pC,Try.f30,Option.getD_some,ktuT,h2,h3,h4,h5,h6,h7,h8]
 clear h2 h3 h4 h5 h6 h7 h8
 go_wp2_with (go_at_call 32;refine C.out.mono ?_;rintro e w1 ⟨rfl,hw1⟩;have W1:Aside (w1.heap=(w.alloc (.cells #[.int .i64 0,.int .i64 7,.int .i64 1,.int .i64 7,.int .i64 9] 2)).heap):=hw1;have g3:w1.cell? ⟨T,3,none⟩=some (.bool false):=(by simp[World.cell?,W1.out,heap_alloc_lt _ _ HT.out.2,HT.out.1]);clear hw1)
 refine⟨rfl,rfl,rfl,?_,fun r hr=>?_⟩
 ·rw[W1.out];simp
 ·rw[W1.out];exact heap_alloc_lt _ _ hr
variable{An:Anchor}
theorem bes_turns{c:Frame}{cs:List Frame}{Stop:Goroutine→World→Prop}(K:∀w',w.heap.size≤w'.heap.size→(∀(r:Nat) (c:Array Value) (e:TypeId) (z:Nat×Nat),w.heap[r]? =some (.cells c e z)→w'.heap[r]? =some (.cells c e z))→Bes An Try.prog Stop (G (c.finish (.bool true)) cs) w'):
 Bes An Try.prog Stop (G (Frame.enter Try.prog 30 #[] .normal) (c::cs)) w:=by
 refine bes_own (F:=F0) (Stop:=fun a u=>∃A,Slots 76 A [(2,.int .i64 6),(3,.bool true),(4,.int .i64 0),(5,.int .i64 3),(6,.int .i64 1),(7,.int .i64 3)]∧w.heap.size≤u.heap.size∧(∀r,r<w.heap.size→u.heap[r]? =w.heap[r]?)∧a=G (Frame.enter Try.prog 31 #[.bool true] .normal) (((Go.Conc.base 30).at ⟨A,[]⟩ [.inRegion (oC ktur6) [0,1,2],.code ktus8])::c::cs))
  (tu_0 fun A w' hA hs ho=>.stop fun d=>⟨A,hA,hs,ho,rfl⟩) fun a u ⟨A,hA,hs,ho,ha⟩=>?_
 subst ha
 refine bes_classic fun aa oa oc xa xc w' hP=>?_
 have hst:=hP.st
 refine bes_own (F:=F0) (Stop:=fun a u2=>a=G (c.finish (.bool true)) cs∧w'.heap.size≤u2.heap.size∧∀r,r<w'.heap.size→u2.heap[r]? =w'.heap[r]?)
  (tu_1 under_F0 (Nat.zero_le _) hA fun A hA=>?_) fun a u2 ⟨ha,hs2,ho2⟩=>?_
 ·have hn:=heap_alloc_new w' (.cells #[.slice (some ⟨aa,0,none⟩) 3 3,.slice oa (clE true).2.length oc,.slice xa (clSt true).length xc,.bool false] 31)
  have hX:=(rrow_of hst).alloc (.cells #[.slice (some ⟨aa,0,none⟩) 3 3,.slice oa (clE true).2.length oc,.slice xa (clSt true).length xc,.bool false] 31)
  have hz:(w'.alloc (.cells #[.slice (some ⟨aa,0,none⟩) 3 3,.slice oa (clE true).2.length oc,.slice xa (clSt true).length xc,.bool false] 31)).heap.size=w'.heap.size+1:=by simp
  have hl:∀r,r<w'.heap.size→(w'.alloc (.cells #[.slice (some ⟨aa,0,none⟩) 3 3,.slice oa (clE true).2.length oc,.slice xa (clSt true).length xc,.bool false] 31)).heap[r]? =w'.heap[r]?:=fun r hr=>heap_alloc_lt _ _ hr
  generalize w'.alloc (.cells #[.slice (some ⟨aa,0,none⟩) 3 3,.slice oa (clE true).2.length oc,.slice xa (clSt true).length xc,.bool false] 31)=V at hn hX hz hl ⊢
  refine own_piece closedTu prog_late (by kernel_rfl) (R:=fun A u=>A.size=76∧A.getD 0 undef= .bool true∧V.heap.size≤u.heap.size∧∀r,r<V.heap.size→u.heap[r]? =V.heap[r]?) (by decide) (fun τ e=>tu_2 (w:=retape V τ e) hn (hX.heap rfl) hA) fun A2 w2 τ e hR hg=>?_
  obtain⟨r1,r2,r3,r4⟩:=hR
  refine ogX ?_
  refine own_go rfl (fun d=>stepG_leave (fn:=Try.f30) (v:=.bool true) rfl rfl Try.func30 (by simpa [results,Try.f30,Array.getD_eq_getD_getElem?]using r2) (by simp[results,Try.f30,go_sem])) (.stop fun d=>⟨rfl,?_,fun r hr=>?_⟩)
  ·have r3:V.heap.size≤w2.heap.size:=r3
   show _≤w2.heap.size
   omega
  ·have r4:w2.heap[r]? =V.heap[r]?:=r4 r (by omega)
   exact r4.trans (hl r hr)
 ·subst ha
  have h6:=hP.size
  refine K u2 (by omega) fun r cc e z hr=>?_
  have hlt:=(alt hr)
  have h6:=hP.old r cc e z ((ho r hlt).trans hr)
  rw[ho2 r (alt h6)]
  exact h6
end
section
variable{F:Fz}{w:World}
end
section
@[go_sem] theorem run_f47_0(a b c d:Value)(w:World):(Instr.field 47 (.agg #[a,b,c,d]) 0).run Try.prog w= .ok a w:=by kernel_rfl
@[go_sem] theorem run_f47_1(a b c d:Value)(w:World):(Instr.field 47 (.agg #[a,b,c,d]) 1).run Try.prog w= .ok b w:=by kernel_rfl
def rstep(s:KSt)(t:RTh)(a:Int):KSt×RTh:=
 match t.pc with
 | 10=>if s.fr.1<0 then(s,RTh.fin {t with n0:=s.fr.1,n1:=s.fr.2,pc:=11} (false,0))else(s,{t with n0:=s.fr.1,n1:=s.fr.2,pc:=11})
 | 11=>(s,{t with n2:=s.nxt t.n0,pc:=12})
 | 12=>match s.turn s.fr t.n0 t.n1 t.n2 with
   | some f=>({s with fr:=f},{t with n4:=t.n0,pc:=13})
   | none=>(s,{t with pc:=10})
 | 13=>({s with vl:=s.vl.set t.n4.toNat a},{t with pc:=14})
 | 14=>(s,{t with n0:=s.hd.1,n1:=s.hd.2,pc:=15})
 | 15=>({s with nx:=s.nx.set t.n4.toNat t.n0},{t with pc:=16})
 | 16=>match s.turn s.hd t.n0 t.n1 t.n4 with
   | some f=>({s with hd:=f},RTh.fin {t with pc:=14} (true,0))
   | none=>(s,{t with pc:=14})
 | 20=>if s.hd.1<0 then(s,RTh.fin {t with n0:=s.hd.1,n1:=s.hd.2,pc:=21} (false,0))else(s,{t with n0:=s.hd.1,n1:=s.hd.2,pc:=21})
 | 21=>(s,{t with n2:=s.nxt t.n0,pc:=22})
 | 22=>match s.turn s.hd t.n0 t.n1 t.n2 with
   | some f=>({s with hd:=f},{t with n4:=t.n0,pc:=23})
   | none=>(s,{t with pc:=20})
 | 23=>(s,{t with n3:=s.val t.n4,pc:=24})
 | 24=>(s,{t with n0:=s.fr.1,n1:=s.fr.2,pc:=25})
 | 25=>({s with nx:=s.nx.set t.n4.toNat t.n0},{t with pc:=26})
 | 26=>match s.turn s.fr t.n0 t.n1 t.n4 with
   | some f=>({s with fr:=f},RTh.fin {t with pc:=24} (true,t.n3))
   | none=>(s,{t with pc:=24})
 | 30=>if s.hd.1<0 then(s,RTh.fin {t with n0:=s.hd.1,n1:=s.hd.2,pc:=31} (false,0))else(s,{t with n0:=s.hd.1,n1:=s.hd.2,pc:=31})
 | 31=>(s,{t with n3:=s.val t.n0,pc:=32})
 | 32=>if s.hd=(t.n0,t.n1)then(s,RTh.fin t (true,t.n3))else if s.hd.1<0 then(s,RTh.fin {t with n0:=s.hd.1,n1:=s.hd.2,pc:=31} (false,0))else(s,{t with n0:=s.hd.1,n1:=s.hd.2,pc:=31})
 | 40=>(s,RTh.fin t (decide (s.hd.1<0),0))
 | _=>(s,t)
def Liv(c:KCl)(t:RTh):Prop:=t.pc=c.pc∧match c.pc with
 | 11=>t.n0=c.n0∧t.n1=c.n1
 | 21=>t.n0=c.n0∧t.n1=c.n1
 | 12=>t.n0=c.n0∧t.n1=c.n1∧t.n2=c.n2
 | 22=>t.n0=c.n0∧t.n1=c.n1∧t.n2=c.n2
 | 13=>t.n4=c.n4
 | 14=>t.n4=c.n4
 | 15=>t.n0=c.n0∧t.n1=c.n1∧t.n4=c.n4
 | 16=>t.n0=c.n0∧t.n1=c.n1∧t.n4=c.n4
 | 23=>t.n4=c.n4
 | 24=>t.n4=c.n4∧t.n3=c.n3
 | 25=>t.n0=c.n0∧t.n1=c.n1∧t.n4=c.n4∧t.n3=c.n3
 | 26=>t.n0=c.n0∧t.n1=c.n1∧t.n4=c.n4∧t.n3=c.n3
 | 31=>t.n0=c.n0∧t.n1=c.n1
 | 32=>t.n0=c.n0∧t.n1=c.n1∧t.n3=c.n3
 | _=>True
def LivOut(t:RTh)(r:KSt×RTh)(x:KSt×KRs):Prop:=r.1=x.1∧match x.2 with
 | .inl c=>Liv c r.2∧r.2.k=t.k∧r.2.ans=t.ans
 | .inr a=>r.2.pc=0∧r.2.k=t.k+1∧r.2.ans=t.ans++[a]
theorem liv_step{s:KSt}{c:KCl}{t:RTh}(h:Liv c t)(hp:c.pc∈[10,11,12,13,14,15,16,20,21,22,23,24,25,26,30,31,32,40]):LivOut t (rstep s t c.a) (s.step c):=by
 obtain⟨k,pc,n0,n1,n2,n3,n4,ans⟩:=t
 obtain⟨cpc,m0,m1,m2,m3,m4,ca⟩:=c
 obtain⟨h1,h2⟩:=h
 simp only at h1 h2 hp
 subst h1
 simp only[List.mem_cons,List.not_mem_nil,or_false]at hp
 rcases hp with rfl|rfl|rfl|rfl|rfl|rfl|rfl|rfl|rfl|rfl|rfl|rfl|rfl|rfl|rfl|rfl|rfl|rfl<;>simp only at h2<;>simp only[rstep,KSt.step]<;>(repeat' split)<;>simp_all [LivOut,Liv,RTh.fin]
end
section
theorem KWf.nxt{s:KSt}(h:KWf s){i:Int}(hi:0≤i∧i<s.nx.length): -1≤s.nxt i∧s.nxt i<s.nx.length:=by
 unfold KSt.nxt
 have hl:i.toNat<s.nx.length:=by omega
 rw[List.getD_eq_getElem?_getD,List.getElem?_eq_getElem hl]
 exact h.nx _ (List.getElem_mem _)
theorem KWf.setN{s:KSt}(h:KWf s)(i:Nat){v:Int}(hv: -1≤v∧v<s.nx.length):KWf {s with nx:=s.nx.set i v}:=
 ⟨by simpa using h.n1,by simpa using h.n2,by simpa using h.n3,fun x hx=>by
  simp only[List.length_set]
  rcases List.mem_or_eq_of_mem_set hx with g|g
  ·exact h.nx x g
  ·rw[g];exact hv,by simpa using h.hd,by simpa using h.fr,h.tg⟩
theorem KWf.setV{s:KSt}(h:KWf s)(i:Nat)(v:Int):KWf {s with vl:=s.vl.set i v}:=⟨by simpa using h.n1,h.n2,h.n3,h.nx,h.hd,h.fr,h.tg⟩
theorem KWf.turn{s:KSt}(h:KWf s){x:Int×Int}{n t to:Int}(hto: -1≤to∧to<s.nx.length){f:Int×Int}(e:s.turn x n t to=some f):(-1≤f.1∧f.1<s.nx.length∧0≤f.2∧f.2<2147483648)∧(s.tg=false→f.2=0):=by
 unfold KSt.turn at e
 split at e
 ·cases e
  refine⟨⟨hto.1,hto.2,?_,?_⟩,fun h=>by simp[h]⟩<;>simp only<;>split<;>omega
 ·cases e
theorem KWf.setF{s:KSt}(h:KWf s){f:Int×Int}(hf:(-1≤f.1∧f.1<s.nx.length∧0≤f.2∧f.2<2147483648)∧(s.tg=false→f.2=0)):KWf {s with fr:=f}:=⟨h.n1,h.n2,h.n3,h.nx,h.hd,hf.1,fun e=>⟨(h.tg e).1,hf.2 e⟩⟩
theorem KWf.setH{s:KSt}(h:KWf s){f:Int×Int}(hf:(-1≤f.1∧f.1<s.nx.length∧0≤f.2∧f.2<2147483648)∧(s.tg=false→f.2=0)):KWf {s with hd:=f}:=⟨h.n1,h.n2,h.n3,h.nx,hf.1,h.fr,fun e=>⟨hf.2 e,(h.tg e).2⟩⟩
theorem kv_step{s:KSt}{c:KCl}(h:KWf s)(v:KV s.nx.length c):KWf (s.step c).1∧∀c',(s.step c).2= .inl c'→KV (s.step c).1.nx.length c':=by
 rw[step_len]
 obtain⟨pc,n0,n1,n2,n3,n4,a⟩:=c
 obtain⟨hp,g0,g1,g2,g4,gp⟩:=v
 have hnx:= @KWf.nxt s h
 have hhd:=h.hd
 have hfr:=h.fr
 have hN:=fun(i:Nat) (v:Int)=> @KWf.setN s h i v
 have hV:=KWf.setV h
 have hT:=fun(x:Int×Int) (n t to:Int) h2 (f:Int×Int)=> @KWf.turn s h x n t to h2 f
 simp only at hp g0 g1 g2 g4 gp
 simp only[List.mem_cons,List.not_mem_nil,or_false]at hp
 rcases hp with rfl|rfl|rfl|rfl|rfl|rfl|rfl|rfl|rfl|rfl|rfl|rfl|rfl|rfl|rfl|rfl|rfl|rfl<;>simp only[KSt.step]<;>(repeat' split)<;>refine⟨?_,fun c' e=>?_⟩<;>first
  | exact h
  | exact hV _ _
  | exact hN _ _ g0
  | (cases e;done)
  | (rename_i f ef;exact KWf.setF h (hT _ _ _ _ g2 f ef))
  | (rename_i f ef;exact KWf.setH h (hT _ _ _ _ g2 f ef))
  | (rename_i f ef;exact KWf.setF h (hT _ _ _ _ ⟨by omega,g4.2⟩ f ef))
  | (rename_i f ef;exact KWf.setH h (hT _ _ _ _ ⟨by omega,g4.2⟩ f ef))
  | (simp only[Sum.inl.injEq]at e;subst e;refine⟨by simp,?_,?_,?_,?_,?_⟩<;>first|exact⟨gp (by simp),g0.2⟩|exact g0|exact g1|exact g2|exact g4|(have gq:=gp (by simp);exact hnx ⟨gq,g0.2⟩)|(intro hq;simp at hq;done)|(intro _;exact gp (by simp))|(intro _;simp only;omega)|(simp only;omega))
end
section
variable{w w':World}{B:MK}{s:KSt}{tb:Nat}{op ov:Value}{t:RTh}{en:Bool}
def rbegL:List Op4→RTh→RTh
 | [],t=>t
 | o::l,t=>if 1≤o.kd∧o.kd≤4 then{t with pc:=10*o.kd.toNat}else rbegL l (t.fin (false,0))
def rbeg(ops:List Op4)(t:RTh):RTh:=if t.pc=0 then rbegL (ops.drop t.k) t else t
theorem rbeg_live{ops:List Op4}(h:t.pc≠0):rbeg ops t=t:=by
 unfold rbeg
 rw[if_neg h]
end
section
variable{w w' U:World}{B:MK}{s s1:KSt}{tb:Nat}{op ov:Value}{t t1:RTh}{en:Bool}
end
section
variable{w w':World}{B:MK}{s:KSt}{tb:Nat}{ov:Value}{t:RTh}{en:Bool}{a:Int}{ops:List Op4}{oa:Option Addr}{oc:Nat}
section
variable(hM:MAt w B s)(hT:TAt w tb (.slice oa ops.length oc) t ov en)(hr:w.ownsRow 0 47 4 (.slice oa ops.length oc) ops.length (opsC ops))(hol:ops.length≤65536)(hkl:t.k<ops.length)(hal:t.ans.length=t.k)
include hM hT hr hol hkl hal
end
end
section
variable{w w':World}{B:MK}{s:KSt}{tb:Nat}{op ov:Value}{t:RTh}{en:Bool}{a:Int}
section
variable(hM:MAt w B s)(hT:TAt w tb op t ov en)(hW:KWf s)(hl:t.ans.length<100000000)(hk:t.k<100000000)
include hM hT hW hl hk
end
end
section
variable{w w':World}{B:MK}{s:KSt}{tb:Nat}{op ov:Value}{t:RTh}{en:Bool}{a:Int}
section
variable(hM:MAt w B s)(hT:TAt w tb op t ov en)(hW:KWf s)(hl:t.ans.length<100000000)(hk:t.k<100000000)
include hM hT hW hl hk
end
end
section
variable{w w':World}{B:MK}{s:KSt}{tb:Nat}{op ov:Value}{t:RTh}{en:Bool}{a:Int}
section
variable(hM:MAt w B s)(hT:TAt w tb op t ov en)(hW:KWf s)(hl:t.ans.length<100000000)(hk:t.k<100000000)
include hM hT hW hl hk
end
end
section
variable{w w':World}{B:MK}{s:KSt}{tb:Nat}{op ov:Value}{t:RTh}{en:Bool}{a:Int}
section
variable(hM:MAt w B s)(hT:TAt w tb op t ov en)(hW:KWf s)(hl:t.ans.length<100000000)(hk:t.k<100000000)
include hM hT hW hl hk
end
end
section
variable{w w':World}{B:MK}{s:KSt}{tb:Nat}{op ov:Value}{t:RTh}{en:Bool}{a:Int}
section
variable(hM:MAt w B s)(hT:TAt w tb op t ov en)(hW:KWf s)(hl:t.ans.length<100000000)(hk:t.k<100000000)
include hM hT hW hl hk
end
end
section
variable{m:Pl}{ops:Nat→List Op4}{n M:Nat}{S:List Int}
def endedOf{m:Pl}(s:GS m)(j:Nat):Bool:= !s.live j
end
section
structure TRel(n:Nat)(ops:List Op4)(g:GT KPl)(t:RTh):Prop where
 k:t.k=g.k
 ans:t.ans=g.ans
 al:t.ans.length=t.k
 kl:t.k≤ops.length
 none:g.call=none→t.pc=0∧t.k=ops.length
 some:∀c:KCl,g.call=some c→Liv c t∧KV n c∧t.k<ops.length∧(c.pc<20→∀x,ops[t.k]? =some x→x.a=c.a)
theorem kv_0'{m:Nat}(hm:0<m){pc:Nat}(h:pc∈[10,20,30,40])(a:Int):KV m ⟨pc,0,0,0,0,0,a⟩:=by
 simp only[List.mem_cons,List.not_mem_nil,or_false]at h
 have hm':(0:Int)<m:=by omega
 rcases h with rfl|rfl|rfl|rfl<;>exact⟨by simp,⟨by simp,hm'⟩,⟨by simp,by simp⟩,⟨by simp,hm'⟩,⟨by simp,hm'⟩,fun h=>by simp at h⟩
theorem adv_rel{m:Nat}(hm:0<m){ops:List Op4}:∀(l:List Op4) (k:Nat) (t:RTh) (s:KSt),l=ops.drop k→t.pc=0→t.k=k→k≤ops.length→t.ans.length=k→(advG KPl l s ⟨k,none,t.ans⟩).1=s∧TRel m ops (advG KPl l s ⟨k,none,t.ans⟩).2 (rbegL l t)
 | [],k,t,s,hl,h0,hk,hkl,ha=>by
   have hge:ops.length≤k:=List.drop_eq_nil_iff.1 hl.symm
   refine⟨rfl,?_⟩
   show TRel m ops (⟨k,none,t.ans⟩:GT KPl) t
   exact⟨hk,rfl,by omega,by omega,fun _=>⟨h0,by omega⟩,fun c h=>by cases h⟩
 | o::l,k,t,s,hl,h0,hk,hkl,ha=>by
   have hlt:k<ops.length:=by
    rcases Nat.lt_or_ge k ops.length with h|h
    ·exact h
    ·rw[List.drop_eq_nil_of_le h]at hl;cases hl
   have hd:=hl
   rw[List.drop_eq_getElem_cons hlt]at hd
   obtain⟨e1,e2⟩:=List.cons.inj hd
   have hx:ops[k]? =some o:=by rw[List.getElem?_eq_getElem hlt,e1]
   have live:∀(pc:Nat) (a:Int),pc∈[10,20,30,40]→(pc<20→o.a=a)→TRel m ops ⟨k,some (⟨pc,0,0,0,0,0,a⟩:KCl),t.ans⟩ {t with pc:=pc}:=fun pc a hp hpa=>
    ⟨hk,rfl,by simp only;omega,by simp only;omega,fun h=>by(cases h),fun c h=>by
     obtain rfl:=Option.some.inj h
     refine⟨⟨rfl,?_⟩,kv_0' hm hp a,by simp only;omega,fun h x hx'=>?_⟩
     ·simp only[List.mem_cons,List.not_mem_nil,or_false]at hp
      rcases hp with rfl|rfl|rfl|rfl<;>trivial
     ·simp only[hk,hx]at hx'
      obtain rfl:=Option.some.inj hx'
      exact hpa h⟩
   have e:∀c:KCl,KSt.begin s o=(s,.inl c)→advG KPl (o::l) s ⟨k,none,t.ans⟩=(s,⟨k,some c,t.ans⟩):=fun c hc=>by
    have hb:KPl.beg s o=(s,Sum.inl c):=hc
    simp only[advG,hb]
    rfl
   have e':KSt.begin s o=(s,.inr (false,0))→advG KPl (o::l) s ⟨k,none,t.ans⟩=advG KPl l s ⟨k+1,none,t.ans++[(false,0)]⟩:=fun hc=>by
    have hb:KPl.beg s o=(s,Sum.inr (false,0)):=hc
    simp only[advG,hb]
    rfl
   simp only[rbegL]
   by_cases k1:o.kd=1
   ·rw[if_pos (by omega),e ⟨10,0,0,0,0,0,o.a⟩ (by simp only[KSt.begin,if_pos k1]),show 10*o.kd.toNat=10 by omega]
    exact⟨rfl,live 10 _ (by simp) fun _=>rfl⟩
   by_cases k2:o.kd=2
   ·rw[if_pos (by omega),e ⟨20,0,0,0,0,0,0⟩ (by simp only[KSt.begin,if_neg k1,if_pos k2]),show 10*o.kd.toNat=20 by omega]
    exact⟨rfl,live 20 _ (by simp) fun h=>by omega⟩
   by_cases k3:o.kd=3
   ·rw[if_pos (by omega),e ⟨30,0,0,0,0,0,0⟩ (by simp only[KSt.begin,if_neg k1,if_neg k2,if_pos k3]),show 10*o.kd.toNat=30 by omega]
    exact⟨rfl,live 30 _ (by simp) fun h=>by omega⟩
   by_cases k4:o.kd=4
   ·rw[if_pos (by omega),e ⟨40,0,0,0,0,0,0⟩ (by simp only[KSt.begin,if_neg k1,if_neg k2,if_neg k3,if_pos k4]),show 10*o.kd.toNat=40 by omega]
    exact⟨rfl,live 40 _ (by simp) fun h=>by omega⟩
   ·rw[if_neg (by omega),e' (by simp only[KSt.begin,if_neg k1,if_neg k2,if_neg k3,if_neg k4])]
    have:=adv_rel hm l (k+1) (t.fin (false,0)) s e2 rfl (by simp[RTh.fin,hk]) hlt (by simp[RTh.fin,ha])
    exact this
theorem step_a(s:KSt)(c c':KCl)(h:(s.step c).2= .inl c'):c'.a=c.a∧(c'.pc<20→c.pc<20):=by
 obtain⟨pc,n0,n1,n2,n3,n4,a⟩:=c
 unfold KSt.step at h
 (repeat' split at h)<;>first
   | (cases h;done)
   | (simp only[Sum.inl.injEq]at h;subst h;refine⟨rfl,fun h=>?_⟩;simp_all)
theorem step_rel{s:KSt}{ops:List Op4}{g:GT KPl}{t:RTh}(hW:KWf s)(h:TRel s.nx.length ops g t){c:KCl}(hc:g.call=some c):
 (stpG KPl ops s g).1=(rstep s t c.a).1∧TRel s.nx.length ops (stpG KPl ops s g).2 (rbeg ops (rstep s t c.a).2)∧KWf (stpG KPl ops s g).1∧(stpG KPl ops s g).1.nx.length=s.nx.length:=by
 obtain⟨h1,h2,h3,h4⟩:=h.some c hc
 have hs:=liv_step (s:=s) h1 h2.pc
 have hkv:=kv_step hW h2
 have hsl:=step_len s c
 obtain⟨e1,e2⟩:=hs
 have ei:∀q' (c':KCl),s.step c=(q',.inl c')→stpG KPl ops s g=(q',⟨g.k,some c',g.ans⟩):=fun q' c' h=>by
  have hb:KPl.stp s c=(q',Sum.inl c'):=h
  simp only[stpG,hc,hb]
  rfl
 have er:∀q' (a:Bool×Int),s.step c=(q',.inr a)→stpG KPl ops s g=advG KPl (ops.drop (g.k+1)) q' ⟨g.k+1,none,t.ans++[a]⟩:=fun q' a h'=>by
  have hb:KPl.stp s c=(q',Sum.inr a):=h'
  rw[h.ans]
  simp only[stpG,hc,hb]
  rfl
 have ha:=step_a s c
 cases hr:s.step c with
 | mk q' r=>
   rw[hr]at e1 e2 hkv hsl ha
   simp only at e1 hkv hsl ha
   cases r with
   | inl c'=>
     rw[ei _ _ hr]
     obtain⟨f1,f2,f3⟩:=e2
     have hv:=hkv.2 c' rfl
     rw[hsl]at hv
     have hp:(rstep s t c.a).2.pc≠0:=by
      rw[f1.1]
      have:=hv.pc
      intro h0
      rw[h0]at this
      simp at this
     rw[rbeg_live hp]
     refine⟨e1.symm,⟨by rw[f2];exact h.k,by rw[f3];exact h.ans,by rw[f3,f2];exact h.al,by rw[f2];exact h.kl,fun h=>by(cases h),fun c2 hc2=>?_⟩,hkv.1,hsl⟩
     obtain rfl:=Option.some.inj hc2
     obtain⟨a1,a2⟩:=ha c' rfl
     refine⟨f1,hv,by rw[f2];exact h3,fun hp x hx=>?_⟩
     rw[f2]at hx
     rw[a1]
     exact h4 (a2 hp) x hx
   | inr a=>
     rw[er _ _ hr]
     obtain⟨f1,f2,f3⟩:=e2
     have hk:=h.k
     have hal:=h.al
     have:=adv_rel (m:=s.nx.length) hW.n2 (ops.drop (g.k+1)) (g.k+1) (rstep s t c.a).2 q' rfl f1 (by omega) (by omega) (by rw[f3,List.length_append,hal];simp;omega)
     rw[f3]at this
     have e3:rbeg ops (rstep s t c.a).2=rbegL (ops.drop (g.k+1)) (rstep s t c.a).2:=by
      unfold rbeg
      rw[if_pos f1,f2,hk]
     rw[e3]
     refine⟨this.1.trans e1.symm,this.2,by rw[this.1];exact hkv.1,by rw[this.1];exact hsl⟩
theorem TRel.ended{n:Nat}{ops:List Op4}{g:GT KPl}{t:RTh}(h:TRel n ops g t):decide (ops.length≤t.k)= !g.call.isSome:=by
 cases hc:g.call with
 | none=>have:=(h.none hc).2;simp;omega
 | some c=>have:=(h.some c hc).2.2.1;simp;omega
end
section
variable{W wr w':World}{n:Nat}{ops:Nat→List Op4}{opv:Nat→Value}{B:MK}{s:KSt}{tbs:Nat→Nat}{rt:Nat→RTh}{ovs:Nat→Value}{en:Nat→Bool}
structure RM(W:World)(n:Nat)(ops:Nat→List Op4)(opv:Nat→Value)(B:MK)(s:KSt)(tbs:Nat→Nat)(rt:Nat→RTh)(ovs:Nat→Value)(en:Nat→Bool)(wr:World):Prop where
 size:W.heap.size≤wr.heap.size
 old:∀r,r<W.heap.size→wr.heap[r]? =W.heap[r]?
 m:MAt wr B s
 t:∀j,j<n→TAt wr (tbs j) (opv j) (rt j) (ovs j) (en j)
 o:∀j,j<n→wr.ownsRow 0 47 4 (opv j) (ops j).length (opsC (ops j))
 dt:∀a b,a<n→b<n→a≠b→tbs a≠tbs b
 dv:∀a b g,a<n→b<n→a≠b→(ovs a).ownBlock=some g→(ovs b).ownBlock≠some g
 nm:W.heap.size≤B.mb
 nn:W.heap.size≤B.nb
 nv:W.heap.size≤B.vb
 nt:∀j,j<n→W.heap.size≤tbs j
 nw:∀j g,j<n→(ovs j).ownBlock=some g→W.heap.size≤g
def updN{α:Type}(f:Nat→α)(x:Nat)(v:α):Nat→α:=fun j=>if j=x then v else f j
theorem updN_eq{α:Type}(f:Nat→α)(x:Nat)(v:α):updN f x v x=v:=if_pos rfl
theorem updN_ne{α:Type}(f:Nat→α){x j:Nat}(v:α)(h:j≠x):updN f x v j=f j:=if_neg h
theorem RM.go(h:RM W n ops opv B s tbs rt ovs en wr){x:Nat}(hx:x<n){s':KSt}{t':RTh}{e:Bool}(hO:Out6 wr B (tbs x) (opv x) (ovs x) e w' (s',t')):
 ∃ov',RM W n ops opv B s' tbs (updN rt x t') (updN ovs x ov') (updN en x e) w'∧∀(r:Nat) (c:Array Value) (e:TypeId) (z:Nat×Nat),wr.heap[r]? =some (.cells c e z)→e≠121→e≠2→e≠158→e≠44→w'.heap[r]? =wr.heap[r]?:=by
 obtain⟨ov',m1,t1,s1,o1,f1⟩:=hO
 obtain⟨cn,hn1,_⟩:=h.m.n
 obtain⟨cv,hv1,_⟩:=h.m.v
 have hsz:=h.size
 have hTx:=h.t x hx
 have hrow:∀(r:Nat) (c:Array Value) (e:TypeId) (z:Nat×Nat),wr.heap[r]? =some (.cells c e z)→e≠44→some r≠(ovs x).ownBlock:=fun r c e z hr he=>own_type hTx.row hr fun h=>he h.symm
 have keep:∀(r:Nat) (c:Array Value) (e:TypeId) (z:Nat×Nat),wr.heap[r]? =some (.cells c e z)→e≠121→e≠2→e≠158→e≠44→w'.heap[r]? =wr.heap[r]?:=fun r c e z hr e1 e2 e3 e4=>
  o1 r (alt hr) (heap_ty hr h.m.o e1) (heap_ty hr hn1 e2) (heap_ty hr hv1 e2) (heap_ty hr hTx.o e3) (hrow _ _ _ _ hr e4)
 have hth:∀j,j<n→j≠x→w'.heap[tbs j]? =wr.heap[tbs j]?:=fun j hj hne=>
  o1 _ (h.t j hj).lt (heap_ty (h.t j hj).o h.m.o (by decide)) (heap_ty (h.t j hj).o hn1 (by decide)) (heap_ty (h.t j hj).o hv1 (by decide)) (h.dt j x hj hx hne) (hrow _ _ _ _ (h.t j hj).o (by decide))
 have hvlt:∀j g,j<n→(ovs j).ownBlock=some g→g<wr.heap.size:=fun j g hj hg=>by
  obtain⟨c,hc⟩:=own_row_ty (h.t j hj).row hg
  exact(alt hc)
 refine⟨ov',⟨by omega,fun r hr=>?_,m1,fun j hj=>?_,fun j hj=>?_,h.dt,fun a b g ha hb hab hg=>?_,h.nm,h.nn,h.nv,h.nt,fun j g hj hg=>?_⟩,keep⟩
 ·have a1:=h.nm
  have a2:=h.nn
  have a3:=h.nv
  have a4:=h.nt x hx
  refine(o1 r (by omega) (by omega) (by omega) (by omega) (by omega) fun e=>?_).trans (h.old r hr)
  have:=h.nw x r hx e.symm
  omega
 ·by_cases e:j=x
  ·subst e
   rw[updN_eq,updN_eq,updN_eq]
   exact t1
  ·rw[updN_ne _ _ e,updN_ne _ _ e,updN_ne _ _ e]
   refine(h.t j hj).same (hth j hj e) fun r hr=>?_
   obtain⟨c,hc⟩:=own_row_ty (h.t j hj).row hr.symm
   exact o1 _ (alt hc) (heap_ty hc h.m.o (by decide)) (heap_ty hc hn1 (by decide)) (heap_ty hc hv1 (by decide)) (heap_ty hc hTx.o (by decide)) fun he=>h.dv j x r hj hx e hr.symm he.symm
 ·exact ownsRow_same2 (h.o j hj) fun b hb _=>by
   obtain⟨c,hc⟩:=own_row_ty (h.o j hj) hb
   exact keep _ _ _ _ hc (by decide) (by decide) (by decide) (by decide)
 ·by_cases ea:a=x
  ·have eb:b≠x:=fun e=>hab (ea.trans e.symm)
   rw[ea,updN_eq]at hg
   rw[updN_ne _ _ eb]
   intro hgb
   rcases f1 with h1|⟨g',h1,h2⟩
   ·exact h.dv x b g hx hb (fun e=>eb e.symm) (h1 ▸ hg) hgb
   ·rw[h1]at hg;cases hg
    have:=hvlt b _ hb hgb;omega
  ·rw[updN_ne _ _ ea]at hg
   by_cases eb:b=x
   ·rw[eb,updN_eq]
    intro hgb
    rcases f1 with h1|⟨g',h1,h2⟩
    ·exact h.dv a x g ha hx ea hg (h1 ▸ hgb)
    ·rw[h1]at hgb;cases hgb
     have:=hvlt a _ ha hg;omega
   ·rw[updN_ne _ _ eb]
    exact h.dv a b g ha hb hab hg
 ·by_cases e:j=x
  ·rw[e,updN_eq]at hg
   rcases f1 with h1|⟨g',h1,h2⟩
   ·exact h.nw x g hx (h1 ▸ hg)
   ·rw[h1]at hg;cases hg;omega
  ·rw[updN_ne _ _ e]at hg
   exact h.nw j g hj hg
theorem RM.same(h:RM W n ops opv B s tbs rt ovs en wr)(hs:wr.heap.size≤w'.heap.size)(hW:∀r,r<W.heap.size→w'.heap[r]? =wr.heap[r]?)
 (hk:∀(r:Nat) (c:Array Value) (e:TypeId) (z:Nat×Nat),wr.heap[r]? =some (.cells c e z)→e=121∨e=2∨e=158∨e=44∨e=47→w'.heap[r]? =wr.heap[r]?):RM W n ops opv B s tbs rt ovs en w':=by
 have hsz:=h.size
 obtain⟨cn,hn1,_⟩:=h.m.n
 obtain⟨cv,hv1,_⟩:=h.m.v
 refine⟨by omega,fun r hr=>(hW r hr).trans (h.old r hr),h.m.same (hk _ _ _ _ h.m.o (by simp)) (hk _ _ _ _ hn1 (by simp)) (hk _ _ _ _ hv1 (by simp)),fun j hj=>?_,fun j hj=>?_,h.dt,h.dv,h.nm,h.nn,h.nv,h.nt,h.nw⟩
 ·refine(h.t j hj).same (hk _ _ _ _ (h.t j hj).o (by simp)) fun r hr=>?_
  obtain⟨c,hc⟩:=own_row_ty (h.t j hj).row hr.symm
  exact hk _ _ _ _ hc (by simp)
 ·exact ownsRow_same2 (h.o j hj) fun b hb _=>by
   obtain⟨c,hc⟩:=own_row_ty (h.o j hj) hb
   exact hk _ _ _ _ hc (by simp)
theorem RM.heap(h:RM W n ops opv B s tbs rt ovs en wr)(e:w'.heap=wr.heap):RM W n ops opv B s tbs rt ovs en w':=h.same (by rw[e];exact Nat.le_refl _) (fun r _=>by rw[e]) fun r _ _ _ _ _=>by rw[e]
theorem RM.more(h:RM W n ops opv B s tbs rt ovs en wr)(hs:wr.heap.size≤w'.heap.size)(e:∀r,r<wr.heap.size→w'.heap[r]? =wr.heap[r]?):RM W n ops opv B s tbs rt ovs en w':=
 h.same hs (fun r hr=>e r (Nat.lt_of_lt_of_le hr h.size)) fun r c _ _ hr _=>e r (alt hr)
structure RG(n:Nat)(ops:Nat→List Op4)(m:Nat)(g:GS KPl)(s:KSt)(rt:Nat→RTh)(en:Nat→Bool):Prop where
 q:g.q=s
 w:KWf s
 l:s.nx.length=m
 t:∀j,j<n→TRel m (ops j) (g.th j) (rt j)
 e:∀j,j<n→en j=endedOf g j
 ol:∀j,j<n→(ops j).length≤65536
theorem put_eq{m:Pl}(g:GS m)(x:Nat)(r:m.S×GT m):(g.put x r).th x=r.2:=by simp[GS.put]
theorem put_ne{m:Pl}(g:GS m){x j:Nat}(r:m.S×GT m)(h:j≠x):(g.put x r).th j=g.th j:=by simp[GS.put,h]
theorem put_q{m:Pl}(g:GS m)(x:Nat)(r:m.S×GT m):(g.put x r).q=r.1:=rfl
theorem RG.turn{m:Nat}{g:GS KPl}(h:RG n ops m g s rt en){x:Nat}(hx:x<n){c:KCl}(hc:(g.th x).call=some c):
 RG n ops m (g.put x (stpG KPl (ops x) g.q (g.th x))) (rstep s (rt x) c.a).1 (updN rt x (rbeg (ops x) (rstep s (rt x) c.a).2)) (updN en x (decide ((ops x).length≤(rbeg (ops x) (rstep s (rt x) c.a).2).k))):=by
 obtain⟨hq,hw,rfl,ht,he,ho⟩:=h
 obtain⟨h1,h2,h3,h4⟩:=step_rel hw (ht x hx) hc
 rw[← hq]at h1 h2 h3 h4 ⊢
 refine⟨by rw[put_q];exact h1,by rw[← h1];exact h3,by rw[← h1];exact h4,fun j hj=>?_,fun j hj=>?_,ho⟩
 ·by_cases e:j=x
  ·subst e
   rw[put_eq,updN_eq]
   exact h2
  ·rw[put_ne _ _ e,updN_ne _ _ e,hq]
   exact ht j hj
 ·by_cases e:j=x
  ·subst e
   rw[updN_eq,h2.ended]
   simp only[endedOf,GS.live,put_eq]
  ·rw[updN_ne _ _ e,he j hj]
   simp only[endedOf,GS.live,put_ne _ _ e]
def t00:RTh:=⟨0,0,0,0,0,0,0,[]⟩
theorem RG.born{m i:Nat}{g:GS KPl}(h:RG i ops m g s rt en)(hl:(ops i).length≤65536)(h0:g.th i=⟨0,none,[]⟩)(ht0:rt i=t00):
 RG (i+1) ops m (g.put i (advG KPl (ops i) g.q (g.th i))) s (updN rt i (rbeg (ops i) t00)) (updN en i (decide ((ops i).length≤(rbeg (ops i) t00).k))):=by
 obtain⟨hq,hw,rfl,ht,he,ho⟩:=h
 have ha:=adv_rel (m:=s.nx.length) hw.n2 (ops:=ops i) (ops i) 0 t00 s (by simp) rfl rfl (Nat.zero_le _) rfl
 have e0:rbeg (ops i) t00=rbegL (ops i) t00:=by
  unfold rbeg
  exact if_pos rfl
 have e1:advG KPl (ops i) g.q (g.th i)=advG KPl (ops i) s ⟨0,none,t00.ans⟩:=by rw[h0,hq];rfl
 rw[e0,e1]
 refine⟨by rw[put_q];exact ha.1,hw,rfl,fun j hj=>?_,fun j hj=>?_,fun j hj=>?_⟩
 ·by_cases e:j=i
  ·subst e
   rw[put_eq,updN_eq]
   exact ha.2
  ·rw[put_ne _ _ e,updN_ne _ _ e]
   exact ht j (by omega)
 ·by_cases e:j=i
  ·subst e
   rw[updN_eq,ha.2.ended]
   simp only[endedOf,GS.live,put_eq]
  ·rw[updN_ne _ _ e,he j (by omega)]
   simp only[endedOf,GS.live,put_ne _ _ e]
 ·by_cases e:j=i
  ·rw[e];exact hl
  ·exact ho j (by omega)
end
section
variable{w w':World}
structure TurnMem(w:World)(ub:Nat)(la:Option Addr)(ll lc M p rd:Nat)(ov:Value)(order:List Nat):Prop where
 o:w.heap[ub]? =some (.cells #[.slice la ll lc,.int .i64 p,.int .i64 rd,.int .i64 M,ov,.bool false] 162 (0,0))
 row:w.ownsRow 0 3 1 ov order.length (order.map fun i:Nat=>Value.int .i64 i)
structure TurnAt(w wr:World)(ub:Nat)(la:Option Addr)(ll lc M p rd:Nat)(ov:Value):Prop where
 o:wr.heap[ub]? =some (.cells #[.slice la ll lc,.int .i64 p,.int .i64 rd,.int .i64 M,ov,.bool false] 162 (0,0))
 old:∀r,r≠ub→wr.heap[r]? =w.heap[r]?
 size:wr.heap.size=w.heap.size
theorem TurnAt.heap{wr:World}{ub:Nat}{la:Option Addr}{ll lc M p rd:Nat}{ov:Value}(h:TurnAt w wr ub la ll lc M p rd ov){u:World}(hu:u.heap=wr.heap):TurnAt w u ub la ll lc M p rd ov:=
 ⟨by rw[hu];exact h.o,fun r hr=>by rw[hu];exact h.old r hr,by rw[hu];exact h.size⟩
structure PKept(w wr:World)(ub:Nat)(ov ov':Value):Prop where
 size:w.heap.size≤wr.heap.size
 old:∀r,r<w.heap.size→r≠ub→some r≠ov.ownBlock→wr.heap[r]? =w.heap[r]?
 fo:ov'.ownBlock=ov.ownBlock∨∃g,ov'.ownBlock=some g∧w.heap.size≤g
structure PIn(w:World)(ub:Nat)(la:Option Addr)(n:Nat)(tbs:Nat→Nat)(e:Nat→Bool):Prop where
 c:∀j,j<n→∃lb,la=some ⟨lb,0,none⟩∧lb≠ub∧w.cell? ⟨lb,j,none⟩=some (.pointer (some ⟨tbs j,0,none⟩))∧tbs j≠ub∧w.cell? ⟨tbs j,13,none⟩=some (.bool (e j))
theorem PIn.at{wr:World}{ub:Nat}{la:Option Addr}{n:Nat}{tbs:Nat→Nat}{e:Nat→Bool}(h:PIn w ub la n tbs e)(hold:∀r,r≠ub→wr.heap[r]? =w.heap[r]?):PIn wr ub la n tbs e:=⟨fun j hj=>by
 obtain⟨lb,h1,h2,h3,h4,h5⟩:=h.c j hj
 exact⟨lb,h1,h2,(cell_heap (hold lb h2)).1.trans h3,h4,(cell_heap (hold _ h4)).1.trans h5⟩⟩
end
section
variable{W w wr w':World}{n:Nat}{ops:Nat→List Op4}{opv:Nat→Value}{B:MK}{s:KSt}{tbs:Nat→Nat}{rt:Nat→RTh}{ovs:Nat→Value}{en:Nat→Bool}
structure PMid(W:World)(ops:Nat→List Op4)(opv:Nat→Value)(m0 n M:Nat)(S:List Int)(B:MK)(tbs:Nat→Nat)(la:Option Addr)(lc ub:Nat)(ta:Option Addr)(tc:Nat)(g:GS KPl)(order:List Nat)(p rd:Nat)(s:KSt)(rt:Nat→RTh)(ovs:Nat→Value)(en:Nat→Bool)(ov:Value)(wr:World):Prop where
 r:RM W n ops opv B s tbs rt ovs en wr
 g:RG n ops m0 g s rt en
 l:wr.ownsRow 0 123 1 (.slice la n lc) n ((List.range n).map fun j=>.pointer (some ⟨tbs j,0,none⟩))
 th:B.thr= .slice la n lc
 t:TurnMem wr ub ta S.length tc M p (rd % n) ov order
 s:wr.ownsRow 0 3 1 (.slice ta S.length tc) S.length (S.map fun i:Int=>Value.int .i64 i)
 om:order.length≤M
 pl:p≤S.length
 rl:rd≤n
 nl:∀g,(Value.slice la n lc).ownBlock=some g→W.heap.size≤g
 nu:W.heap.size≤ub
 ns:∀g,(Value.slice ta S.length tc).ownBlock=some g→W.heap.size≤g
 no:∀g,ov.ownBlock=some g→W.heap.size≤g
 so:∀g,(Value.slice ta S.length tc).ownBlock=some g→ov.ownBlock≠some g
section
variable{m0 M:Nat}{S:List Int}{la:Option Addr}{lc ub:Nat}{ta:Option Addr}{tc:Nat}{g s0:GS KPl}{order:List Nat}{p rd:Nat}{ov:Value}
theorem PMid.kept(h:PMid W ops opv m0 n M S B tbs la lc ub ta tc g order p rd s rt ovs en ov wr){p1 r1 y:Nat}{ov':Value}(hT:TurnMem w' ub ta S.length tc M p1 (r1 % n) ov' (order++[y]))(hK:PKept wr w' ub ov ov')(ho:order.length<M)(hp:p1≤S.length)(hr:r1≤n):
 PMid W ops opv m0 n M S B tbs la lc ub ta tc g (order++[y]) p1 r1 s rt ovs en ov' w':=by
 have hsz:=h.r.size
 have keep:∀(r:Nat) (c:Array Value) (e:TypeId) (z:Nat×Nat),wr.heap[r]? =some (.cells c e z)→e≠162→e≠3→w'.heap[r]? =wr.heap[r]?:=fun r c e z hr e1 e2=>
  hK.old r (alt hr) (heap_ty hr h.t.o e1) (own_type h.t.row hr fun h=>e2 h.symm)
 have hsb:∀g,(Value.slice ta S.length tc).ownBlock=some g→w'.heap[g]? =wr.heap[g]?:=fun g hg=>by
  obtain⟨c,hc⟩:=own_row_ty h.s hg
  exact hK.old g (alt hc) (heap_ty hc h.t.o (by decide)) fun e=>h.so g hg e.symm
 refine⟨h.r.same hK.size (fun r hr=>hK.old r (by omega) (by have:=h.nu;omega) fun e=>by have:=h.no r e.symm;omega) (fun r c e z hr he=>keep r c e z hr (by rcases he with rfl|rfl|rfl|rfl|rfl<;>decide) (by rcases he with rfl|rfl|rfl|rfl|rfl<;>decide)),h.g,?_,h.th,hT,ownsRow_same2 h.s fun b hb _=>hsb b hb,by simp;omega,hp,hr,h.nl,h.nu,h.ns,fun g hg=>?_,fun g hg=>?_⟩
 ·exact ownsRow_same2 h.l fun b hb _=>by
   obtain⟨c,hc⟩:=own_row_ty h.l hb
   exact keep _ _ _ _ hc (by decide) (by decide)
 ·rcases hK.fo with e|⟨g',e,h2⟩
  ·exact h.no g (e ▸ hg)
  ·rw[e]at hg;cases hg;omega
 ·rcases hK.fo with e|⟨g',e,h2⟩
  ·rw[e];exact h.so g hg
  ·rw[e];intro h3;cases h3
   obtain⟨c,hc⟩:=own_row_ty h.s hg
   have:=(alt hc)
   omega
end
end
section
variable{w w':World}{B:MK}{s:KSt}
end
section
variable{w w':World}{B:MK}{s:KSt}
structure RNew(w wr:World)(tg:Bool)(xs ys:List Int)(nv vv:Value):Prop where
 o:wr.heap[w.heap.size]? =some (.cells #[nv,vv,.int .i64 (-1),.int .i64 0,.int .i64 0,.int .i64 0,.bool tg,.slice none 0 0] 121 (0,0))
 n:wr.ownsRow 0 2 1 nv xs.length (xs.map fun v=>.int .i64 v)
 v:wr.ownsRow 0 2 1 vv ys.length (ys.map fun v=>.int .i64 v)
 ne:∀g,nv.ownBlock=some g→vv.ownBlock≠some g
 size:w.heap.size<wr.heap.size
 old:∀r,r<w.heap.size→wr.heap[r]? =w.heap[r]?
 nn:∀g,nv.ownBlock=some g→w.heap.size≤g
 nv:∀g,vv.ownBlock=some g→w.heap.size≤g
variable{wr w1 u:World}{tg:Bool}{xs ys:List Int}{nv vv v':Value}{x:Int}
theorem RNew.heap(h:RNew w wr tg xs ys nv vv)(e:w'.heap=wr.heap):RNew w w' tg xs ys nv vv:=
 ⟨by rw[e];exact h.o,ownsRow_same2 h.n fun _ _ _=>by rw[e],ownsRow_same2 h.v fun _ _ _=>by rw[e],h.ne,by rw[e];exact h.size,fun r hr=>by rw[e];exact h.old r hr,h.nn,h.nv⟩
theorem RNew.n1(h:RNew w wr tg xs ys nv vv)(hown:w1.ownsRow 0 2 1 v' (xs.length+1) ((xs.map fun v=>.int .i64 v)++[.int .i64 x]))(hold:∀r,r<wr.heap.size→some r≠nv.ownBlock→w1.heap[r]? =wr.heap[r]?)(hsz:wr.heap.size≤w1.heap.size)
 (hfr:v'.ownBlock=nv.ownBlock∨∃g,v'.ownBlock=some g∧wr.heap.size≤g) (hu:u.heap=(w1.setCell ⟨w.heap.size,0,none⟩ v').heap):RNew w u tg (xs++[x]) ys v' vv:=by
 have hs:=h.size
 have hne:some w.heap.size≠nv.ownBlock:=own_type h.n h.o (by decide)
 have ho1:=(hold _ h.size hne).trans h.o
 have hvb:∀g,vv.ownBlock=some g→g<wr.heap.size:=fun g hg=>by
  obtain⟨c,hc⟩:=own_row_ty h.v hg
  exact(alt hc)
 have hvt:v'.ownBlock≠some w.heap.size:=by
  rcases hfr with e|⟨g,e,hg⟩
  ·rw[e];exact fun h=>hne h.symm
  ·rw[e];intro h;cases h;omega
 have hou:∀r,r≠w.heap.size→u.heap[r]? =w1.heap[r]?:=fun r hr=>by rw[hu,heap_setCell_ne _ _ _ hr]
 refine⟨?_,?_,?_,fun g hg=>?_,by rw[hu,World.size_setCell];omega,fun r hr=>?_,fun g hg=>?_,h.nv⟩
 ·rw[hu,heap_set_eq ho1];rfl
 ·rw[List.length_append,List.map_append]
  exact ownsRow_same2 hown fun b hb _=>hou b fun e=>hvt (e ▸ hb)
 ·exact ownsRow_same2 h.v fun b hb _=>by
   obtain⟨c,hc⟩:=own_row_ty h.v hb
   exact(hou b (heap_ty hc h.o (by decide))).trans (hold b (hvb b hb) fun e=>h.ne b e.symm hb)
 ·intro hgv
  rcases hfr with e|⟨g',e,hg'⟩
  ·exact h.ne g (e ▸ hg) hgv
  ·rw[e]at hg;cases hg
   have:=hvb _ hgv;omega
 ·refine(hou r (by omega)).trans ((hold r (by omega) fun e=>?_).trans (h.old r hr))
  have:=h.nn r e.symm;omega
 ·rcases hfr with e|⟨g',e,hg'⟩
  ·exact h.nn g (e ▸ hg)
  ·rw[e]at hg;cases hg;omega
theorem RNew.v1(h:RNew w wr tg xs ys nv vv)(hown:w1.ownsRow 0 2 1 v' (ys.length+1) ((ys.map fun v=>.int .i64 v)++[.int .i64 x]))(hold:∀r,r<wr.heap.size→some r≠vv.ownBlock→w1.heap[r]? =wr.heap[r]?)(hsz:wr.heap.size≤w1.heap.size)
 (hfr:v'.ownBlock=vv.ownBlock∨∃g,v'.ownBlock=some g∧wr.heap.size≤g) (hu:u.heap=(w1.setCell ⟨w.heap.size,1,none⟩ v').heap):RNew w u tg xs (ys++[x]) nv v':=by
 have hs:=h.size
 have hne:some w.heap.size≠vv.ownBlock:=own_type h.v h.o (by decide)
 have ho1:=(hold _ h.size hne).trans h.o
 have hvb:∀g,nv.ownBlock=some g→g<wr.heap.size:=fun g hg=>by
  obtain⟨c,hc⟩:=own_row_ty h.n hg
  exact(alt hc)
 have hvt:v'.ownBlock≠some w.heap.size:=by
  rcases hfr with e|⟨g,e,hg⟩
  ·rw[e];exact fun h=>hne h.symm
  ·rw[e];intro h;cases h;omega
 have hou:∀r,r≠w.heap.size→u.heap[r]? =w1.heap[r]?:=fun r hr=>by rw[hu,heap_setCell_ne _ _ _ hr]
 refine⟨?_,?_,?_,fun g hg=>?_,by rw[hu,World.size_setCell];omega,fun r hr=>?_,h.nn,fun g hg=>?_⟩
 ·rw[hu,heap_set_eq ho1];rfl
 ·exact ownsRow_same2 h.n fun b hb _=>by
   obtain⟨c,hc⟩:=own_row_ty h.n hb
   exact(hou b (heap_ty hc h.o (by decide))).trans (hold b (hvb b hb) fun e=>h.ne b hb e.symm)
 ·rw[List.length_append,List.map_append]
  exact ownsRow_same2 hown fun b hb _=>hou b fun e=>hvt (e ▸ hb)
 ·intro hgv
  rcases hfr with e|⟨g',e,hg'⟩
  ·exact h.ne g hg (e ▸ hgv)
  ·rw[e]at hgv;cases hgv
   have:=hvb _ hg;omega
 ·refine(hou r (by omega)).trans ((hold r (by omega) fun e=>?_).trans (h.old r hr))
  have:=h.nv r e.symm;omega
 ·rcases hfr with e|⟨g',e,hg'⟩
  ·exact h.nv g (e ▸ hg)
  ·rw[e]at hg;cases hg;omega
def upN(n:Nat):List Int:=(List.range n).map fun i=>((i+1:Nat):Int)
theorem upN_len(n:Nat):(upN n).length=n:=by simp[upN]
theorem knew_nx{n:Nat}(tg:Bool):(knew (n+1) tg).nx=(upN (n+1)).set n (-1):=by
 apply List.ext_getElem?
 intro i
 simp only[knew,upN,List.getElem?_map,List.getElem?_set,List.length_map,List.length_range]
 rcases Nat.lt_or_ge i (n+1)with h|h
 ·rw[List.getElem?_range h]
  by_cases e:n=i
  ·subst e;simp
  ·simp only[Option.map_some,if_neg e,if_neg (show ¬i+1=n+1 by omega)]
 ·rw[List.getElem?_eq_none (by simpa using h)]
  rw[if_neg (by omega)]
  rfl
theorem row_is{l:List Int}{v:Value}(h:w.ownsRow 0 2 1 v (l.length) (l.map fun v=>.int .i64 v))(hl:0<l.length):∃b cap c,v= .slice (some ⟨b,0,none⟩) l.length cap∧w.heap[b]? =some (.cells c 2 (0,0))∧∀(i:Nat) (x:Int),l[i]? =some x→c[i]? =some (.int .i64 x):=by
 rcases h.2 with⟨_,h0⟩|⟨b,cap,cur,rfl,_,h3,h4,h5,h6,h7⟩
 ·omega
 ·refine⟨b,cap,cur,rfl,h3,fun i x hx=>?_⟩
  have hi:=(List.getElem?_eq_some_iff.1 hx).1
  have e:(l.map fun v=>Value.int .i64 v)[i]? =some (.int .i64 x):=by simp[hx]
  rw[← h7,List.getElem?_take_of_lt (by omega)]at e
  simpa using e
structure NewK(w w':World)(B:MK)(s:KSt):Prop where
 m:MAt w' B s
 thr:B.thr= .slice none 0 0
 size:w.heap.size≤w'.heap.size
 old:∀r,r<w.heap.size→w'.heap[r]? =w.heap[r]?
 nm:w.heap.size≤B.mb
 nn:w.heap.size≤B.nb
 nv:w.heap.size≤B.vb
theorem RNew.done{n:Nat}(h:RNew w wr tg (upN (n+1)) (List.replicate (n+1) 0) nv vv):∃nb cn vb cv,nv= .slice (some ⟨nb,0,none⟩) (n+1) cn∧vv= .slice (some ⟨vb,0,none⟩) (n+1) cv∧(∃c,wr.heap[nb]? =some (.cells c 2 (0,0))∧n<c.size)∧nb≠w.heap.size∧
 ∀u:World,u.heap=(wr.setCell ⟨nb,n,none⟩ (.int .i64 (-1))).heap→NewK w u ⟨w.heap.size,nb,vb,cn,cv,.slice none 0 0⟩ (knew (n+1) tg):=by
 obtain⟨nb,cn,c,rfl,h1,h2⟩:=row_is h.n (by rw[upN_len];omega)
 obtain⟨vb,cv,d,rfl,h3,h4⟩:=row_is h.v (by simp)
 have hne:nb≠vb:=fun e=>h.ne nb rfl (by rw[e];rfl)
 have hnm:nb≠w.heap.size:=heap_ty h1 h.o (by decide)
 have hnn:=h.nn nb rfl
 have hsz:=h.size
 have hcs:n<c.size:=by
  have:=h2 n _ (List.getElem?_eq_getElem (by rw[upN_len];omega))
  exact(alt this)
 refine⟨nb,cn,vb,cv,by rw[upN_len],by simp,⟨c,h1,hcs⟩,hnm,fun u hu=>⟨⟨?_,?_,?_,hne⟩,rfl,?_,fun r hr=>?_,Nat.le_refl _,hnn,h.nv vb rfl⟩⟩
 ·rw[hu,heap_setCell_ne _ _ _ (Ne.symm hnm),h.o]
  simp[knew,upN_len]
 ·refine⟨_,by rw[hu];exact heap_set_eq h1,?_⟩
  rw[knew_nx]
  exact row_set h2 (by rw[upN_len];omega)
 ·refine⟨d,by rw[hu,heap_setCell_ne _ _ _ (Ne.symm hne)];exact h3,?_⟩
  simpa [knew]using h4
 ·rw[hu,World.size_setCell];omega
 ·rw[hu,heap_setCell_ne _ _ _ (show r≠nb by omega)];exact h.old r hr
end
section
variable{w w':World}{B:MK}{s:KSt}{tg:Bool}
theorem b119:Try.prog.built 119 [(0,.int .i64 (-1))]=some #[.int .i64 (-1),.int .i64 0]:=by kernel_rfl
theorem b121(tg:Bool):Try.prog.built 121 [(4,.bool tg),(2,.agg #[.int .i64 (-1),.int .i64 0])]=some #[.slice none 0 0,.slice none 0 0,.int .i64 (-1),.int .i64 0,.int .i64 0,.int .i64 0,.bool tg,.slice none 0 0]:=by kernel_rfl
@[go_sem] theorem run_b119(w:World):(Instr.build 119 #[(0,.int .i64 (-1))]).run Try.prog w= .ok (.agg #[.int .i64 (-1),.int .i64 0]) w:=run_build w _ _ _ b119
@[go_sem] theorem run_b121(w:World)(tg:Bool):(Instr.build 121 #[(4,.bool tg),(2,.agg #[.int .i64 (-1),.int .i64 0])]).run Try.prog w= .ok (.agg #[.slice none 0 0,.slice none 0 0,.int .i64 (-1),.int .i64 0,.int .i64 0,.int .i64 0,.bool tg,.slice none 0 0]) w:=run_build w _ _ _ (b121 tg)
end
section
variable{w wr w' w1 u:World}{i k:Nat}{ops:Nat→List Op4}{la:Option Addr}{lc tb:Nat}{tbs:Nat→Nat}{opv:Nat→Value}{ov v':Value}
structure ThrNew(w wr:World)(i:Nat)(ops:Nat→List Op4)(la:Option Addr)(lc:Nat)(tbs:Nat→Nat)(opv:Nat→Value):Prop where
 l:wr.ownsRow 0 123 1 (.slice la i lc) i ((List.range i).map fun j=>.pointer (some ⟨tbs j,0,none⟩))
 t:∀j,j<i→TAt wr (tbs j) (opv j) t00 (.slice none 0 0) false
 o:∀j,j<i→wr.ownsRow 0 47 4 (opv j) (ops j).length (opsC (ops j))
 dt:∀a b,a<i→b<i→a≠b→tbs a≠tbs b
 nt:∀j,j<i→w.heap.size≤tbs j
 no:∀j g,j<i→(opv j).ownBlock=some g→w.heap.size≤g
 nl:∀g,(Value.slice la i lc).ownBlock=some g→w.heap.size≤g
 size:w.heap.size≤wr.heap.size
 old:∀r,r<w.heap.size→wr.heap[r]? =w.heap[r]?
theorem TAt.nil{tb:Nat}{op:Value}{t:RTh}{en:Bool}(h:w.heap[tb]? =some (.cells (thC op t (.slice none 0 0) en) 158 (0,0)))(ha:t.ans=[]):TAt w tb op t (.slice none 0 0) en:=⟨h,by rw[ha];exact⟨rfl,.inl ⟨rfl,rfl⟩⟩⟩
theorem ThrNew.same(h:ThrNew w wr i ops la lc tbs opv)(hs:wr.heap.size≤u.heap.size)(ho:∀r,r<w.heap.size→u.heap[r]? =wr.heap[r]?)(h1:∀j,j<i→u.heap[tbs j]? =wr.heap[tbs j]?)(h2:∀j g,j<i→(opv j).ownBlock=some g→u.heap[g]? =wr.heap[g]?)
 (h3:∀g,(Value.slice la i lc).ownBlock=some g→u.heap[g]? =wr.heap[g]?):ThrNew w u i ops la lc tbs opv:=
 ⟨ownsRow_same2 h.l fun b hb _=>h3 b hb,fun j hj=>(h.t j hj).same (h1 j hj) fun r hr=>by(cases hr),fun j hj=>ownsRow_same2 (h.o j hj) fun b hb _=>h2 j b hj hb,h.dt,h.nt,h.no,h.nl,Nat.le_trans h.size hs,fun r hr=>(ho r hr).trans (h.old r hr)⟩
structure ThI(w wr:World)(i:Nat)(ops:Nat→List Op4)(la:Option Addr)(lc:Nat)(tbs:Nat→Nat)(opv:Nat→Value)(tb:Nat)(ov:Value)(k:Nat):Prop where
 b:ThrNew w wr i ops la lc tbs opv
 t:TAt wr tb ov t00 (.slice none 0 0) false
 o:wr.ownsRow 0 47 4 ov k (opsC ((ops i).take k))
 nt:w.heap.size≤tb
 dt:∀j,j<i→tbs j≠tb
 no:∀g,ov.ownBlock=some g→w.heap.size≤g
 dv:∀j g,j<i→ov.ownBlock=some g→(opv j).ownBlock≠some g
theorem ThrNew.begin(h:ThrNew w wr i ops la lc tbs opv)(hu:u.heap=(wr.alloc (.cells (thC (.slice none 0 0) t00 (.slice none 0 0) false) 158)).heap):ThI w u i ops la lc tbs opv wr.heap.size (.slice none 0 0) 0:=by
 have ho:∀r,r<wr.heap.size→u.heap[r]? =wr.heap[r]?:=fun r hr=>by rw[hu];exact heap_alloc_lt _ _ hr
 have hsz:=h.size
 refine⟨h.same (by rw[hu];simp) (fun r hr=>ho r (by omega)) (fun j hj=>ho _ (h.t j hj).lt) (fun j g hj hg=>?_) (fun g hg=>?_),TAt.nil (by rw[hu];exact heap_alloc_new _ _) rfl,⟨rfl,.inl ⟨rfl,rfl⟩⟩,hsz,fun j hj=>by have:=(h.t j hj).lt;omega,fun g hg=>(by cases hg),fun j g hj hg=>(by cases hg)⟩
 ·obtain⟨c,hc⟩:=own_row_ty (h.o j hj) hg
  exact ho _ (alt hc)
 ·obtain⟨c,hc⟩:=own_row_ty h.l hg
  exact ho _ (alt hc)
theorem take_op{l:List Op4}{k:Nat}{x:Op4}(h:l[k]? =some x):l.take (k+1)=l.take k++[x]:=by
 rw[List.take_add_one,h];rfl
theorem ThI.more(h:ThI w wr i ops la lc tbs opv tb ov k){x:Op4}(hx:(ops i)[k]? =some x)(hown:w1.ownsRow 0 47 4 v' (k+1) (opsC ((ops i).take k)++[.int .i64 x.kd,.int .i64 x.a,.int .i64 x.b,.int .i64 x.c]))(hold:∀r,r<wr.heap.size→some r≠ov.ownBlock→w1.heap[r]? =wr.heap[r]?)(hsz:wr.heap.size≤w1.heap.size)
 (hfr:v'.ownBlock=ov.ownBlock∨∃g,v'.ownBlock=some g∧wr.heap.size≤g) (hu:u.heap=(w1.setCell ⟨tb,0,none⟩ v').heap):ThI w u i ops la lc tbs opv tb v' (k+1):=by
 obtain⟨hb,ht,ho,hnt,hdt,hno,hdv⟩:=h
 have hne:some tb≠ov.ownBlock:=own_type ho ht.o (by decide)
 have ht1:=(hold tb ht.lt hne).trans ht.o
 have hvt:v'.ownBlock≠some tb:=by
  have:=ht.lt
  rcases hfr with e|⟨g,e,hg⟩
  ·rw[e];exact fun h=>hne h.symm
  ·rw[e];intro h;cases h;omega
 have hou:∀r,r≠tb→u.heap[r]? =w1.heap[r]?:=fun r hr=>by rw[hu,heap_setCell_ne _ _ _ hr]
 have hall:∀r,r<wr.heap.size→r≠tb→some r≠ov.ownBlock→u.heap[r]? =wr.heap[r]?:=fun r h1 h2 h3=>(hou r h2).trans (hold r h1 h3)
 have hs:=hb.size
 have hlto:∀j g,j<i→(opv j).ownBlock=some g→g<wr.heap.size:=fun j g hj hg=>by
  obtain⟨c,hc⟩:=own_row_ty (hb.o j hj) hg
  exact(alt hc)
 refine⟨hb.same (by rw[hu,World.size_setCell];exact hsz) (fun r hr=>hall r (by omega) (by omega) fun e=>by have:=hno r e.symm;omega) (fun j hj=>hall _ (hb.t j hj).lt (hdt j hj) (own_type ho (hb.t j hj).o (by decide))) (fun j g hj hg=>?_) (fun g hg=>?_),⟨?_,⟨rfl,.inl ⟨rfl,rfl⟩⟩⟩,?_,hnt,hdt,fun g hg=>?_,fun j g hj hg=>?_⟩
 ·obtain⟨c,hc⟩:=own_row_ty (hb.o j hj) hg
  exact hall g (hlto j g hj hg) (heap_ty hc ht.o (by decide)) fun e=>hdv j g hj e.symm hg
 ·obtain⟨c,hc⟩:=own_row_ty hb.l hg
  exact hall g (alt hc) (heap_ty hc ht.o (by decide)) (own_type ho hc (by decide))
 ·rw[hu,heap_set_eq ht1];rfl
 ·rw[take_op hx,opsC_app]
  exact ownsRow_same2 hown fun b hb _=>hou b fun e=>hvt (e ▸ hb)
 ·rcases hfr with e|⟨g',e,hg'⟩
  ·exact hno g (e ▸ hg)
  ·rw[e]at hg;cases hg;omega
 ·rcases hfr with e|⟨g',e,hg'⟩
  ·exact hdv j g hj (e ▸ hg)
  ·rw[e]at hg;cases hg
   intro h;have:=hlto j _ hj h;omega
theorem ThI.done(h:ThI w wr i ops la lc tbs opv tb ov (ops i).length)(hown:w1.ownsRow 0 123 1 v' (i+1) (((List.range i).map fun j=>.pointer (some ⟨tbs j,0,none⟩))++[.pointer (some ⟨tb,0,none⟩)]))(hold:∀r,r<wr.heap.size→some r≠(Value.slice la i lc).ownBlock→w1.heap[r]? =wr.heap[r]?)(hsz:wr.heap.size≤w1.heap.size)
 (hfr:v'.ownBlock=(Value.slice la i lc).ownBlock∨∃g,v'.ownBlock=some g∧wr.heap.size≤g) (hu:u.heap=w1.heap):∃la' lc',v'= .slice la' (i+1) lc'∧ThrNew w u (i+1) ops la' lc' (updN tbs i tb) (updN opv i ov):=by
 obtain⟨hb,ht,ho,hnt,hdt,hno,hdv⟩:=h
 obtain⟨g,cap,rfl⟩:=own_slice hown
 have hs:=hb.size
 have hall:∀(r:Nat) (c:Array Value) (e:TypeId) (z:Nat×Nat),wr.heap[r]? =some (.cells c e z)→e≠123→u.heap[r]? =wr.heap[r]?:=fun r c e z hr he=>by
  rw[hu];exact hold r (alt hr) (own_type hb.l hr fun h=>he h.symm)
 refine⟨some ⟨g,0,none⟩,cap,rfl,⟨?_,fun j hj=>?_,fun j hj=>?_,fun a b ha hb' hab=>?_,fun j hj=>?_,fun j g' hj hg=>?_,fun g' hg=>?_,by rw[hu];omega,fun r hr=>?_⟩⟩
 ·have e1:((List.range (i+1)).map fun j=>Value.pointer (some ⟨updN tbs i tb j,0,none⟩))=((List.range i).map fun j=>.pointer (some ⟨tbs j,0,none⟩))++[.pointer (some ⟨tb,0,none⟩)]:=by
   rw[List.range_succ,List.map_append]
   congr 1
   ·exact List.map_congr_left fun j hj=>by rw[updN_ne _ _ (by have:=List.mem_range.1 hj;omega)]
   ·simp[updN_eq]
  rw[e1]
  exact ownsRow_same2 hown fun _ _ _=>by rw[hu]
 ·by_cases e:j=i
  ·subst e
   rw[updN_eq,updN_eq]
   exact ht.same (hall _ _ _ _ ht.o (by decide)) fun r hr=>(by cases hr)
  ·rw[updN_ne _ _ e,updN_ne _ _ e]
   exact(hb.t j (by omega)).same (hall _ _ _ _ (hb.t j (by omega)).o (by decide)) fun r hr=>(by cases hr)
 ·by_cases e:j=i
  ·subst e
   rw[updN_eq]
   rw[List.take_length]at ho
   exact ownsRow_same2 ho fun b hb _=>by
    obtain⟨c,hc⟩:=own_row_ty ho hb
    exact hall _ _ _ _ hc (by decide)
  ·rw[updN_ne _ _ e]
   exact ownsRow_same2 (hb.o j (by omega)) fun b hb' _=>by
    obtain⟨c,hc⟩:=own_row_ty (hb.o j (by omega)) hb'
    exact hall _ _ _ _ hc (by decide)
 ·by_cases ea:a=i
  ·have eb:b≠i:=fun e=>hab (ea.trans e.symm)
   rw[ea,updN_eq,updN_ne _ _ eb]
   exact(hdt b (by omega)).symm
  ·rw[updN_ne _ _ ea]
   by_cases eb:b=i
   ·rw[eb,updN_eq];exact hdt a (by omega)
   ·rw[updN_ne _ _ eb];exact hb.dt a b (by omega) (by omega) hab
 ·by_cases e:j=i
  ·rw[e,updN_eq];exact hnt
  ·rw[updN_ne _ _ e];exact hb.nt j (by omega)
 ·by_cases e:j=i
  ·rw[e,updN_eq]at hg;exact hno g' hg
  ·rw[updN_ne _ _ e]at hg;exact hb.no j g' (by omega) hg
 ·rcases hfr with e|⟨g2,e,h2⟩
  ·exact hb.nl g' (e ▸ hg)
  ·rw[e]at hg;cases hg;omega
 ·rw[hu]
  refine(hold r (by omega) fun e=>?_).trans (hb.old r hr)
  have:=hb.nl r e.symm;omega
theorem b158:Try.prog.built 158 []=some (thC (.slice none 0 0) t00 (.slice none 0 0) false):=by kernel_rfl
@[go_sem] theorem run_b158(w:World):(Instr.build 158 #[]).run Try.prog w= .ok (.agg (thC (.slice none 0 0) t00 (.slice none 0 0) false)) w:=run_build w _ _ _ b158
theorem infoA47:∃i z,Try.prog.info? 47=some i∧i.zero=some z∧i.size=4∧i.bytes=32∧z.cells.size=4:=infoOf (by kernel_rfl)
end
section
variable{w w':World}
theorem b162(m:Int):Try.prog.built 162 [(3,.int .i64 m)]=some #[.slice none 0 0,.int .i64 0,.int .i64 0,.int .i64 m,.slice none 0 0,.bool false]:=by kernel_rfl
@[go_sem] theorem run_b162(w:World)(m:Int):(Instr.build 162 #[(3,.int .i64 m)]).run Try.prog w= .ok (.agg #[.slice none 0 0,.int .i64 0,.int .i64 0,.int .i64 m,.slice none 0 0,.bool false]) w:=run_build w _ _ _ (b162 m)
end
section
variable{w w':World}
structure AnsAt(w wr:World)(ob:Nat)(y1 y2 y3:Value)(ovs:Nat→Value)(i:Nat)(xv:Value):Prop where
 o:wr.heap[ob]? =some (.cells #[xv,y1,y2,y3] 31 (0,0))
 z:wr.heap[w.heap.size]? =some (.cells #[.slice none 0 0,.slice none 0 0,.slice none 0 0,.bool false] 31 (0,0))
 row:wr.ownsRow 0 42 1 xv i ((List.range i).map ovs)
 old:∀r,r<w.heap.size→wr.heap[r]? =w.heap[r]?
 size:w.heap.size<wr.heap.size
 new:∀g,xv.ownBlock=some g→w.heap.size≤g
 ne:w.heap.size<ob
theorem AnsAt.more{wr w1 u:World}{ob:Nat}{y1 y2 y3:Value}{ovs:Nat→Value}{i:Nat}{xv v':Value}(h:AnsAt w wr ob y1 y2 y3 ovs i xv)(hown:w1.ownsRow 0 42 1 v' (i+1) ((List.range i).map ovs++[ovs i]))
 (hold:∀r,r<wr.heap.size→some r≠xv.ownBlock→w1.heap[r]? =wr.heap[r]?) (hsz:wr.heap.size≤w1.heap.size) (hfr:v'.ownBlock=xv.ownBlock∨∃g',v'.ownBlock=some g'∧wr.heap.size≤g')
 (hu:u.heap=(w1.setCell ⟨ob,0,none⟩ v').heap):AnsAt w u ob y1 y2 y3 ovs (i+1) v':=by
 have hs:=h.size
 have hobl:=(Array.getElem?_eq_some_iff.1 h.o).1
 have hob2:some ob≠xv.ownBlock:=own_type h.row h.o (by decide)
 have ho1:w1.heap[ob]? =_:=(hold ob hobl hob2).trans h.o
 have hne:v'.ownBlock≠some ob:=by
  rcases hfr with e|⟨g,e,hg⟩
  ·rw[e];exact fun h=>hob2 h.symm
  ·rw[e];intro h;cases h;omega
 refine⟨?_,?_,?_,fun r hr=>?_,by rw[hu,World.size_setCell];omega,fun g hg=>?_,h.ne⟩
 ·rw[hu,heap_set_eq ho1];rfl
 ·rw[hu,heap_setCell_ne _ _ _ (show w.heap.size≠ob by have:=h.ne;omega),hold _ hs (own_type h.row h.z (by decide))]
  exact h.z
 ·rw[List.range_succ,List.map_append]
  exact ownsRow_same2 hown fun b hb _=>by
   rw[hu]
   exact heap_setCell_ne _ _ _ fun e=>hne (by rw[← show b=ob from e];exact hb)
 ·have hob3:=h.ne
  rw[hu,heap_setCell_ne _ _ _ (show r≠ob by omega),hold r (by omega) fun e=>by have:=h.new r e.symm;omega]
  exact h.old r hr
 ·rcases hfr with e|⟨g2,e,h2⟩
  ·exact h.new g (e ▸ hg)
  ·rw[e]at hg;cases hg;omega
theorem b31t(a b:Option Addr)(n m k l:Nat)(s:Bool):Try.prog.built 31 [(1,.slice a n m),(2,.slice b k l),(3,.bool s)]=some #[.slice none 0 0,.slice a n m,.slice b k l,.bool s]:=by kernel_rfl
@[go_sem] theorem run_b31t(w:World)(a b:Option Addr)(n m k l:Nat)(s:Bool):(Instr.build 31 #[(1,.slice a n m),(2,.slice b k l),(3,.bool s)]).run Try.prog w= .ok (.agg #[.slice none 0 0,.slice a n m,.slice b k l,.bool s]) w:=run_build w _ _ _ (b31t a b n m k l s)
end
section
variable{w w':World}
end
section
variable{w w':World}
section
variable{W w3 w5:World}{n m M t10:Nat}{ops:Nat→List Op4}{opv:Nat→Value}{B:MK}{tbs:Nat→Nat}{la oa sa:Option Addr}{lc ub oc sl sc:Nat}{g:GS KPl}{order:List Nat}{s:KSt}{rt:Nat→RTh}{ovs:Nat→Value}{en:Nat→Bool}{xs:List Int}
end
end
section
theorem bes_good{An:Anchor}{P:Program}{Post:Value→World→Prop}{fr:Frame}{W:World}(hA:An.Holds W)
 (hB:Bes An P (fun g w=>g.status= .running∧∀d,∃v,stepG P true g (w.at d)= .ended (.done v) (w.at d) #[]∧(An.Holds (w.at d)→Post v (w.at d))) (G fr []) W):
 ∃M last o w' t',runNT P (M+1) (solo (G fr []) W) #[]=(.ended o w',t')∧runN P M (solo (G fr []) W)= .next last∧step P last= .ended o w'∧Go.Conc.Good P Post last o w' t':=by
 rw[solo_eq_crowd]
 obtain⟨N,gs',g',w',sl',T',q',B',hr,h0',⟨hrun,hS⟩,hL',hP',hA'⟩:=hB #[G fr []] none #[] (fun _=>0) 0 rfl (leavers_one _ _) past_nil hA
 obtain⟨K,last,o,w2,t',e1,e2,e3,e4⟩:=beside_ends (P:=P) (Post:=Post) (D:=fun _ _ es=>∀e∈es,EvL NoShun B' e) (sl:=sl') (n:=0) (fun _ _ _ h=>h) h0' hL' hP' (Goes.stop fun w₂ r₂=>by
  obtain⟨d,rfl⟩:=r₂
  obtain⟨v,h1,h2⟩:=hS d
  exact⟨hrun,v,#[],h1,by simp,h2 (hA'.at d)⟩)
 refine⟨N+K,last,o,w2,t',?_,?_,e3,e4⟩
 ·rw[Nat.add_assoc,runNT_add,hr];exact e1
 ·rw[runN_add,← runNT_fst P _ _ #[],hr];exact e2
theorem below_of{W w':World}(h:(⟨W.heap.size,W⟩:Anchor).Holds w')(hc:∀(r:Nat) (c:Array Value) (e:TypeId) (z:Nat×Nat),W.heap[r]? =some (.cells c e z)→w'.heap[r]? =some (.cells c e z)):Below W.heap.size W w':=by
 refine⟨h.os,h.tape,h.output,h.low,fun r hr=>?_⟩
 obtain⟨o,ho⟩:∃o,W.heap[r]? =some o:=⟨_,Array.getElem?_eq_getElem hr⟩
 by_cases e:∃c e z,o= .cells c e z
 ·obtain⟨c,e,z,rfl⟩:=e
  rw[hc r c e z ho,ho]
 ·rw[h.obj r o hr ho fun c e1 z e2=>e ⟨c,e1,z,e2⟩,ho]
theorem law_ends{f k:Nat}{fn:Func}{A:Array Value}(h2:¬2=f)(hf:Try.prog.funcs[f]? =some fn)(hr:fn.results= #[.tmp k]){v:Value}(hA:A.getD k undef=v)(w:World):
 stepG Try.prog true (G {(base f).at ⟨A,[]⟩ [.code .ret]with mode:=.returning} []) w= .ended (.done v) w #[]:=by
 subst hA
 simp[G,stepG,unwind,doReturn,results,Frame.at,base,hf,hr,seen,GStep.after,h2]
section
variable{An:Anchor}{W:World}
def LawPost(W:World)(v:Value)(w':World):Prop:=v= .bool true∧∀(r:Nat) (c:Array Value) (e:TypeId) (z:Nat×Nat),W.heap[r]? =some (.cells c e z)→w'.heap[r]? =some (.cells c e z)
def LawStop(An:Anchor)(Post:Value→World→Prop)(g:Goroutine)(w:World):Prop:=g.status= .running∧∀d,∃v,stepG Try.prog true g (w.at d)= .ended (.done v) (w.at d) #[]∧(An.Holds (w.at d)→Post v (w.at d))
theorem law_stop{f k:Nat}{fn:Func}{A:Array Value}(hf:Try.prog.funcs[f]? =some fn)(hr:fn.results= #[.tmp k])(h2:¬2=f)(hA:A.getD k undef= .bool true){w:World}(h:∀(r:Nat) (c:Array Value) (e:TypeId) (z:Nat×Nat),W.heap[r]? =some (.cells c e z)→w.heap[r]? =some (.cells c e z)):
 LawStop An (LawPost W) (G {(base f).at ⟨A,[]⟩ [.code .ret]with mode:=.returning} []) w:=
 ⟨rfl,fun d=>⟨_,law_ends h2 hf hr hA _,fun _=>⟨rfl,h⟩⟩⟩
end
theorem Try.own:ownKnob Try.prog.godebug=none:=by kernel_rfl
theorem Try.laidOut:laidOutB Try.prog=true:=by kernel_rfl
end
section
variable{An:Anchor}{W w w':World}
theorem OpsIn.kept{N:Nat→Prop}{n tb o tl:Nat}{ta:Option Addr}{oa:Nat→Option Addr}{ol oc:Nat→Nat}{ops:Nat→List Op4}{S:List Int}{sa:Option Addr}(h:OpsIn w N n tb o tl ta oa ol oc ops S sa)(hs:w.heap.size≤w'.heap.size)
 (hold:∀(r:Nat) (c:Array Value) (e:TypeId) (z:Nat×Nat),w.heap[r]? =some (.cells c e z)→w'.heap[r]? =some (.cells c e z)):OpsIn w' N n tb o tl ta oa ol oc ops S sa:=by
 have hc:∀{a:Addr} {v:Value},w.cell? a=some v→w'.cell? a=some v∧w'.frozen? a=w.frozen? a:=fun{a v} h=>by
  obtain⟨c,e,z,ho⟩:=cell_block h
  have e1:w'.heap[a.block]? =w.heap[a.block]?:=(hold _ _ _ _ ho).trans ho.symm
  exact⟨by rw[← h];unfold World.cell?;simp only[e1],by unfold World.frozen?;simp only[e1]⟩
 refine⟨h.hn,h.hta,fun hp=>by have:=h.htb hp;omega,fun j hj=>?_,h.hlen,fun j hj k x hx=>?_,h.hsl,fun hp=>?_⟩
 ·obtain⟨h1,h2,h3⟩:=h.hth j hj
  exact⟨(hc h1).1,(hc h1).2.trans h2,h3⟩
 ·obtain⟨opb,oo,h1,h2,f0,f1,f2,f3,g0,g1,g2,g3⟩:=h.hop j hj k x hx
  exact⟨opb,oo,h1,h2,(hc f0).1,(hc f1).1,(hc f2).1,(hc f3).1,(hc f0).2.trans g0,(hc f1).2.trans g1,(hc f2).2.trans g2,(hc f3).2.trans g3⟩
 ·obtain⟨sb,so,c,e,z,h1,h2,h3,h4⟩:=h.hS hp
  exact⟨sb,so,c,e,z,h1,h2,hold _ _ _ _ h3,h4⟩
section
variable{m:Pl}{ops:Nat→List Op4}{n M:Nat}
variable{I:m.S→Prop}(hb:∀s o,I s→I (m.beg s o).1)(hs:∀s c,I s→I (m.stp s c).1)
end
end
section
variable{F:Fz}{w:World}
theorem wp_then{P:Program}{x y:Code}{R:Act→World→Prop}{Q:Exit→Act→World→Prop}{a:Act}{w:World}(h:x.wp P (nrm R) a w)(hy:∀a w,R a w→y.wp P Q a w):(Code.seq x y).wp P Q a w:=
 wp_seq (wp_mono h fun e a w q=>by
  cases e with
  | normal=>exact hy _ _ q
  | _=>exact q.elim)
end
section
variable{w w' W:World}
structure Ops10(w:World)(oa:Option Addr)(ol oc:Nat)(L:List Op4):Prop where
 lc:ol≤oc
 len:L.length=min ol 65536
 op:∀k x,L[k]? =some x→∃opb oo,oa=some ⟨opb,oo,none⟩∧
  w.cell? ⟨opb,oo+k*4,none⟩=some (.int .i64 x.kd)∧w.cell? ⟨opb,oo+k*4+1,none⟩=some (.int .i64 x.a)∧w.cell? ⟨opb,oo+k*4+2,none⟩=some (.int .i64 x.b)∧w.cell? ⟨opb,oo+k*4+3,none⟩=some (.int .i64 x.c)∧
  w.frozen? ⟨opb,oo+k*4,none⟩=false∧w.frozen? ⟨opb,oo+k*4+1,none⟩=false∧w.frozen? ⟨opb,oo+k*4+2,none⟩=false∧w.frozen? ⟨opb,oo+k*4+3,none⟩=false
theorem Ops10.olds{oa:Option Addr}{ol oc:Nat}{L:List Op4}(h:Ops10 w oa ol oc L)(hk:∀r,r<w.heap.size→w'.heap[r]? =w.heap[r]?):Ops10 w' oa ol oc L:=by
 have hc:∀{a:Addr} {v:Value},w.cell? a=some v→w'.cell? a=some v∧w'.frozen? a=w.frozen? a:=fun{a v} h=>by
  obtain⟨c,e,z,ho⟩:=cell_block h
  have e1:w'.heap[a.block]? =w.heap[a.block]?:=hk _ (alt ho)
  exact⟨by rw[← h];unfold World.cell?;simp only[e1],by unfold World.frozen?;simp only[e1]⟩
 refine⟨h.lc,h.len,fun k x hx=>?_⟩
 obtain⟨opb,oo,h1,f0,f1,f2,f3,g0,g1,g2,g3⟩:=h.op k x hx
 exact⟨opb,oo,h1,(hc f0).1,(hc f1).1,(hc f2).1,(hc f3).1,(hc f0).2.trans g0,(hc f1).2.trans g1,(hc f2).2.trans g2,(hc f3).2.trans g3⟩
theorem Ops10.opsIn{oa:Option Addr}{ol oc:Nat}{L:List Op4}(h:Ops10 w oa ol oc L):OpsIn (w.alloc (.cells #[.slice oa ol oc] 34)) (fun _=>False) 1 w.heap.size 0 1 (some ⟨w.heap.size,0,none⟩) (fun _=>oa) (fun _=>ol) (fun _=>oc) (fun _=>L) [] none:=by
 have hV:=h.olds (w':=w.alloc (.cells #[.slice oa ol oc] 34)) fun r hr=>heap_alloc_lt _ _ hr
 have hb:(w.alloc (.cells #[.slice oa ol oc] 34)).heap[w.heap.size]? =some (.cells #[.slice oa ol oc] 34 (0,0)):=heap_alloc_new _ _
 refine⟨rfl,fun _=>rfl,fun _=>by simp,fun j hj=>?_,fun j hj=>h.len,fun j hj k x hx=>?_,by decide,fun h=>by cases h⟩
 ·obtain rfl:j=0:=by omega
  refine⟨?_,?_,h.lc⟩
  ·unfold World.cell?;simp only[hb];rfl
  ·unfold World.frozen?;simp only[hb];rfl
 ·obtain⟨opb,oo,h1,h2⟩:=hV.op k x hx
  exact⟨opb,oo,h1,fun h=>h,h2⟩
structure D10(W:World)(s:GS KPl)(order:List Nat)(T:Nat)(xa va oa sa:Option Addr)(xc vc oc sc:Nat)(u:World):Prop where
 t:u.heap[T]? =some (.cells #[.slice xa 1 xc,.slice oa order.length oc,.slice sa (KSt.state s.q).length sc,.bool (decide (0<cnt s.live 1))] 31 (0,0))
 st:RRow u sa ((KSt.state s.q).map fun v=>.int .i64 v)
 an:RRow u xa [.slice va (s.th 0).ans.length vc]
 a0:RRow u va (ansC (s.th 0).ans)
 old:∀r,r<W.heap.size→u.heap[r]? =W.heap[r]?
 sz:W.heap.size≤u.heap.size
section
variable{s:GS KPl}{order:List Nat}{T:Nat}{xa va oa sa:Option Addr}{xc vc oc sc:Nat}
theorem D10.olds(h:D10 W s order T xa va oa sa xc vc oc sc w)(hk:∀r,r<w.heap.size→w'.heap[r]? =w.heap[r]?)(hs:w.heap.size≤w'.heap.size):D10 W s order T xa va oa sa xc vc oc sc w':=
 ⟨(hk _ (Array.getElem?_eq_some_iff.1 h.t).1).trans h.t,h.st.olds hk,h.an.olds hk,h.a0.olds hk,fun r hr=>(hk r (Nat.lt_of_lt_of_le hr h.sz)).trans (h.old r hr),Nat.le_trans h.sz hs⟩
end
theorem piece_mono{P:Program}{c:Code}{R R':Act→World→Prop}{a:Act}{w:World}(h:c.wp P (nrm R) a w)(hh:∀a u,R a u→R' a u):c.wp P (nrm R') a w:=wp_mono h fun e a u q=>by
 cases e with
 | normal=>exact hh _ _ q
 | _=>exact q.elim
theorem D10.same{W':World}{s:GS KPl}{order:List Nat}{T:Nat}{xa va oa sa:Option Addr}{xc vc oc sc:Nat}(h:D10 W s order T xa va oa sa xc vc oc sc w)(e:W'.heap=W.heap)(e':w'.heap=w.heap):D10 W' s order T xa va oa sa xc vc oc sc w':=
 ⟨by rw[e'];exact h.t,h.st.heap e',h.an.heap e',h.a0.heap e',fun r hr=>by rw[e',e];exact h.old r (by rw[← e];exact hr),by rw[e',e];exact h.sz⟩
end
section
variable{w w' W:World}
structure L10(w1:World)(ka kn la ln sb:Nat)(s u:KSt)(n:Nat)(w:World):Prop where
 k:KU ka ⟨s,kn⟩ w
 l:KU la ⟨u,ln⟩ w
 c:CntAt sb n w
 n1:sb≠ka∧sb≠kn∧sb≠la∧sb≠ln
 n2:ka≠la∧ka≠ln∧kn≠la∧kn≠ln
 ge:w1.heap.size≤ka∧w1.heap.size≤kn∧w1.heap.size≤la∧w1.heap.size≤ln∧w1.heap.size≤sb
 old:∀r,r<w1.heap.size→w.heap[r]? =w1.heap[r]?
 sz:w1.heap.size≤w.heap.size
section
variable{w1:World}{ka kn la ln sb n n':Nat}{s s' u u':KSt}
end
end
section
variable{w w' W:World}
structure Rd(w1:World)(ka kn la ln sb b10:Nat)(s u:KSt)(n:Nat)(a:Bool×Int)(w:World):Prop where
 l:L10 w1 ka kn la ln sb s u n w
 b:w.heap[b10]? =some (.cells #[.bool a.1,.int .i64 a.2,.slice none 0 0] 44 (0,0))
 d:b10≠sb∧b10≠ka∧b10≠kn∧b10≠la∧b10≠ln∧w1.heap.size≤b10
section
variable{w1:World}{ka kn la ln sb b10 n:Nat}{s u:KSt}{a:Bool×Int}
theorem Rd.cs(h:Rd w1 ka kn la ln sb b10 s u n a w):w.cell? ⟨b10,0,none⟩=some (.bool a.1)∧w.cell? ⟨b10,1,none⟩=some (.int .i64 a.2):=by simp[World.cell?,h.b]
theorem Rd.lt(h:Rd w1 ka kn la ln sb b10 s u n a w):b10<w.heap.size:=(Array.getElem?_eq_some_iff.1 h.b).1
end
end
section
variable{w w' W:World}
theorem ValsAt.slice{u:World}{ov:Value}{xs:List Int}(h:ValsAt w u ov xs):∃a c,ov= .slice a xs.length c∧RRow u a (xs.map fun v=>.int .i64 v):=by
 have hr:=h.row
 rcases h.row.2 with⟨h1,h2⟩|⟨g,cap,_,h1,_⟩
 ·subst h1
  cases xs with
  | nil=>exact⟨none,0,rfl,⟨fun k x hx=>by simp at hx⟩⟩
  | cons x xs=>simp at h2
 ·subst h1
  exact⟨_,_,rfl,rrow_of hr⟩
end
section
variable{w w' W:World}
def KeptW(w w':World):Prop:=w.heap.size≤w'.heap.size∧∀r,r<w.heap.size→w'.heap[r]? =w.heap[r]?
end
section
open Go.Maps
theorem law2:Keyed Try.prog 2:=int_keyed Try.underlying2
theorem zero3(w:World):(zeroValue 3).run Try.prog w= .ok (.int .i64 0) w:=by kernel_rfl
variable{w w':World}{B n:Nat}{f:Int→Nat}
def MapD(D:DataW Unit)(f:Int→Nat):Prop:=(∀v:Int,D.atKey (.int .i64 v) (.lit (.int .i64 0))= .lit (.int .i64 (f v)))∧∀v:Int,Maps.has D (.int .i64 v)=true→0<f v
def MapF(w:World)(B n:Nat)(f:Int→Nat):Prop:=∃D:DataW Unit,w.ownsMap Try.prog 2 (plainElem Try.prog 3) B n D∧MapD D f
def inc(f:Int→Nat)(a:Int):Int→Nat:=fun v=>if v=a then f a+1 else f v
theorem MapF.made(w:World):MapF (w.alloc (.map #[] 0)) w.heap.size 0 fun _=>0:=
 ⟨.map [],World.ownsMap_made _ _ _ _,fun v=>rfl,fun v h=>by simp[Maps.has]at h⟩
theorem MapF.lt(h:MapF w B n f):B<w.heap.size:=by obtain⟨D,h1,_⟩:=h;exact h1.lt
theorem MapF.kept{row:Option Nat}(h:MapF w B n f)(hg:w.grownBy w' row)(hne:some B≠row):MapF w' B n f:=by
 obtain⟨D,h1,h2⟩:=h
 exact⟨D,h1.kept hg hne,h2⟩
theorem MapF.keep(h:MapF w B n f)(e:w'.heap[B]? =w.heap[B]?):MapF w' B n f:=by
 obtain⟨D,⟨es,clock,h1,h3⟩,h2⟩:=h
 exact⟨D,⟨es,clock,e.trans h1,h3⟩,h2⟩
theorem MapF.mono{n':Nat}(h:MapF w B n f)(hn:n≤n'):MapF w B n' f:=by
 obtain⟨D,h1,h2⟩:=h
 exact⟨D,h1.mono hn,h2⟩
theorem MapD.is{D:DataW Unit}(h:MapD D f){a c:Int}(hat:D.atKey (.int .i64 a) (.lit (.int .i64 0))= .lit (.int .i64 c)):c=(f a:Int):=by
 have:=h.1 a
 rw[hat]at this
 injection this with this
 injection this
theorem MapD.put{D:DataW Unit}(h:MapD D f)(hm:IsMap D)(a:Int):MapD (D.put (.int .i64 a) (.lit (.int .i64 (f a+1)))) (inc f a):=by
 refine⟨fun v=>?_,fun v hv=>?_⟩
 ·unfold inc
  by_cases e:v=a
  ·subst e
   rw[if_pos rfl,atKey_put_same (k:=.int .i64 v) hm trivial]
   rfl
  ·rw[if_neg e,atKey_put_other (fun x=>e (by injection x))]
   exact h.1 v
 ·unfold inc
  by_cases e:v=a
  ·rw[if_pos e];omega
  ·rw[if_neg e]
   rw[has_put_other (fun x=>e (by injection x))]at hv
   exact h.2 v hv
theorem ownsMap_isMap{D:DataW Unit}(h:w.ownsMap Try.prog 2 (plainElem Try.prog 3) B n D):IsMap D:=by
 obtain⟨es,_,_,_,_,e⟩:=h
 exact⟨_,e⟩
theorem wf_small{a:Int}(h: -1000000000000<a∧a<1000000000000):(Lit.int .i64 a).wf=true:=WalkArith.wf_i64 (by omega)
end
end Go.Proofs.Ytlcgkpapnpdfpaa
