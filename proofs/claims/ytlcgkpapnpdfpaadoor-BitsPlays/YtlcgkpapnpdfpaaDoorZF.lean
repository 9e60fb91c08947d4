/-
  What is proved: BitsPlaysUptoCardSaid: for every start, all threads, every schedule and every bound whose bulk is at most 1048576, bits.Play answers as the document's answer does. Conditions: those of the given row and card (the variable that is listed reads as its table; bulk at most 1048576).
  Part 6 of 6.
-/
import Derived.Test.YtlcgkpapnpdfpaaDoorZE
import Derived.Lib.MinMax
import Derived.Deep.RegionLawGrows
import Derived.Deep.DeepAppendRoom
import Derived.Deep.RegionHeld3
import Derived.ProofKit
import Derived.Carry
import Derived.Deep.Slices
import Derived.ChangeSlices
set_option linter.unusedSimpArgs false
set_option linter.unusedVariables false
set_option linter.unusedSectionVars false
set_option maxRecDepth 100000
set_option maxHeartbeats 8000000
namespace Go.Proofs.YtlcgkpapnpdfpaaDoor
open Go Go.Conc Go.RowKit Go.Proofs
section
variable{w w':World}
def q05(n:Nat)(b:List Bool)(x:Int):List Bool:=if 0≤x∧x<n then b.set x.toNat true else b
def g00(w:World)(b:Nat)(l:List Bool):Prop:=w.heap[b]? =some (.cells (l.map Value.bool).toArray 4 (0,0))
theorem g00.c{b:Nat}{l:List Bool}(h:g00 w b l){i:Nat}{x:Bool}(hx:l[i]? =some x):w.cell? ⟨b,i,none⟩=some (.bool x):=(V1 h (by simp[hx])).1
theorem g00.z{b:Nat}{l:List Bool}(h:g00 w b l)(i:Nat):w.frozen? ⟨b,i,none⟩=false:=by
 have h:w.heap[b]? =_:=h
 simp[World.frozen?,h]
theorem g00.set{b:Nat}{l:List Bool}(h:g00 w b l)(i:Nat)(x:Bool):g00 (w.setCell ⟨b,i,none⟩ (.bool x)) b (l.set i x):=by
 show(w.setCell ⟨b,i,none⟩ (.bool x)).heap[b]? =_
 rw[U1 (o:=i) h (.bool x)]
 congr 2
 simp[List.map_set]
def g0K(vs:List Int):Nat:=(min (max (vs.headD 0) 0) 300).toNat
end
section
variable{w w':World}
def h0B(l:List Bool)(P:List Nat):List Bool:=P.foldl (fun b x=>b.set x true) l
theorem j0G(l:List Bool)(P:List Nat)(x:Nat):h0B l (P++[x])=(h0B l P).set x true:=by simp[h0B]
end
section
variable{w w':World}
structure h0E(W0:World)(E7:Nat)(l0:List Bool)(P:List Nat)(u:World):Prop where
 b:g00 u E7 (h0B l0 P)
 sz:W0.heap.size≤u.heap.size
 o:∀r,r<W0.heap.size→r≠E7→u.heap[r]? =W0.heap[r]?
theorem h0E.cell{W0 u:World}{E7:Nat}{l0:List Bool}{P:List Nat}(h:h0E W0 E7 l0 P u){b k:Nat}{v:Value}(hc:W0.cell? ⟨b,k,none⟩=some v)(hb:b≠E7):u.cell? ⟨b,k,none⟩=some v:=by
 rw[← hc]
 unfold World.cell?
 rw[h.o b (I9 hc) hb]
theorem h0E.more{W0 u v:World}{E7:Nat}{l0:List Bool}{P:List Nat}(h:h0E W0 E7 l0 P u)(hs:u.heap.size≤v.heap.size)(ho:∀r,r<u.heap.size→v.heap[r]? =u.heap[r]?):h0E W0 E7 l0 P v:=
 ⟨(ho E7 (Array.getElem?_eq_some_iff.1 (show u.heap[E7]? =_ from h.b)).1).trans h.b,Nat.le_trans h.sz hs,fun r hr hne=>(ho r (Nat.lt_of_lt_of_le hr h.sz)).trans (h.o r hr hne)⟩
theorem h0E.set{W0 u:World}{E7:Nat}{l0:List Bool}{P:List Nat}(h:h0E W0 E7 l0 P u)(x:Nat):h0E W0 E7 l0 (P++[x]) (u.setCell ⟨E7,x,none⟩ (.bool true)):=
 ⟨by rw[j0G];exact h.b.set x true,by rw[World.size_setCell];exact h.sz,fun r hr hne=>(I0 _ _ _ hne).trans (h.o r hr hne)⟩
end
section
theorem f0A{s:V0}:∀K,s.numsTo K=((List.range (64*K)).filter fun x=>decide (x<s.n) && s.has x).map fun x:Nat=>(x:Int)
 | 0=>rfl
 | K+1=>by
   rw[a0F,f0A K,Nat.mul_succ,List.range_add,List.filter_append,List.map_append]
   congr 1
   unfold X3
   rw[List.filter_map,List.map_map]
   have e:((List.range 64).filter fun j=>decide (K*64+j<s.n) && (s.wd K).getLsbD j)=(List.range 64).filter ((fun x=>decide (x<s.n) && s.has x) ∘ fun x=>64*K+x):=by
    refine List.filter_congr fun j hj=>?_
    have hj:=List.mem_range.1 hj
    simp only[Function.comp]
    unfold V0.has
    rw[show(64*K+j) / 64=K by omega,show(64*K+j) % 64=j by omega,Nat.mul_comm 64 K]
   rw[e]
   refine List.map_congr_left fun j _=>?_
   simp only[Function.comp]
   rw[Nat.mul_comm K 64]
theorem h0X(p:Nat→Bool)(n:Nat):∀d,((List.range (n+d)).filter fun x=>decide (x<n) && p x)=(List.range n).filter p:=fun d=>by
 rw[List.range_add,List.filter_append]
 have e1:(List.range n).filter (fun x=>decide (x<n) && p x)=(List.range n).filter p:=List.filter_congr fun x hx=>by simp[List.mem_range.1 hx]
 have e2:((List.range d).map fun x=>n+x).filter (fun x=>decide (x<n) && p x)=[]:=by
  rw[List.filter_eq_nil_iff]
  intro x hx
  obtain⟨y,_,rfl⟩:=List.mem_map.1 hx
  rw[decide_eq_false (by omega)]
  simp
 rw[e1,e2,List.append_nil]
theorem q0k{s:V0}(h:s.ws.length=(s.n+63) / 64):s.nums=((List.range s.n).filter s.has).map fun x:Nat=>(x:Int):=by
 rw[← W9,f0A]
 have:64*s.ws.length=s.n+(64*s.ws.length - s.n):=by omega
 rw[this,h0X]
end
section
variable{w w':World}
theorem v5.add{wr w3:World}{v v':Value}{xs:List Int}{y:Int}{ob:Obj}(h:v5 w wr v xs)(hown:w3.ownsRow 0 2 1 v' (xs.length+1) (xs.map (fun v=>Value.int .i64 v)++[vI y]))(hgrow:(wr.alloc ob).grownBy w3 v.ownBlock)
 (hfr:v'.ownBlock=v.ownBlock∨∃g,v'.ownBlock=some g∧wr.heap.size+1≤g):v5 w w3 v' (xs++[y]):=by
 have hs:=h.size
 have hgs:=hgrow.size
 simp only[World.size_alloc]at hgs
 refine⟨by rw[List.map_append,List.length_append];exact hown,by omega,fun r hr=>(K3 hgrow (by omega) fun e=>?_).trans (h.old r hr),fun g hg=>?_⟩
 ·have:=h.new r e.symm
  omega
 ·rcases hfr with e|⟨g',e,hg'⟩
  ·exact h.new g (e.symm.trans hg)
  ·rw[e]at hg
   cases hg
   omega
theorem v5.heap{wr u:World}{v:Value}{xs:List Int}(h:v5 w wr v xs)(e:u.heap=wr.heap):v5 w u v xs:=
 ⟨p08 h.row fun b c _ _=>by rw[e],by rw[e];exact h.size,fun r hr=>by rw[e];exact h.old r hr,h.new⟩
def N4(k:V0)(i:Nat):List Int:=((List.range i).filter k.has).map fun x:Nat=>(x:Int)
theorem j0y(k:V0)(i:Nat):N4 k (i+1)=N4 k i++(if k.has i=true then[(i:Int)]else[]):=by
 unfold N4
 rw[List.range_succ,List.filter_append,List.map_append]
 congr 1
 by_cases h:k.has i=true
 ·simp[h]
 ·have h2:k.has i=false:=by cases e:k.has i;rfl;exact absurd e h
  simp[h2]
theorem m0B(k:V0)(i:Nat):(N4 k i).length≤i:=by
 unfold N4
 rw[List.length_map]
 exact Nat.le_trans (List.length_filter_le _ _) (by simp)
theorem h04{xb wb:Nat}{k:V0}(h:RS xb wb k w)(hwf:BDm k):Calls Tryd.prog 37 #[vP xb 0] w fun y w'=>∃oa oc,y= .returned (.slice oa k.nums.length oc)∧v5 w w' (.slice oa k.nums.length oc) k.nums:=by
 obtain⟨i0,z0,hi,hz0,hz1,hz2,hz3⟩:=l0G
 have H:Aside (RS xb wb k w∧BDm k):=⟨h,hwf⟩
 have hn:=hwf.n
 have hwl:=hwf.l
 have E:k.nums=N4 k k.n:=q0k hwf.l
 rw[E]
 have hxl:=(Array.getElem?_eq_some_iff.1 h.o).1
 have hwb:=(Array.getElem?_eq_some_iff.1 h.ws).1
 have RSS:Aside (∀u:World,(∀r,r<w.heap.size→u.heap[r]? =w.heap[r]?)→RS xb wb k u):=by
  have:∀u:World,(∀r,r<w.heap.size→u.heap[r]? =w.heap[r]?)→RS xb wb k u:=fun u hu=>H.out.1.same (hu _ hxl) (hu _ hwb)
  exact this
 clear h hwf E hxl hwb
 go_enter Tryd.func37,Tryd.ntmps37
 go_wp2
 go_loopg [3,4] (k.n+1) (fun g ov iv u=>∃(i:Nat) (oa:Option Addr) (oc:Nat),i≤k.n∧ov= .slice oa (N4 k i).length oc∧iv=vI i∧g=k.n+1 - i∧v5 w u (.slice oa (N4 k i).length oc) (N4 k i))
 case atStart=>exact⟨0,none,0,Nat.zero_le _,rfl,rfl,rfl,⟨rfl,.inl ⟨rfl,rfl⟩⟩,Nat.le_refl _,fun _ _=>rfl,fun g hg=>by cases hg⟩
 case round=>
  obtain⟨i,oa,oc,hin,rfl,rfl,rfl,hV⟩:=hrel
  have V:Aside (v5 w wr (.slice oa (N4 k i).length oc) (N4 k i)):=hV
  have hml:=m0B k i
  have R:=RSS.out wr hV.old
  have x0:wr.cell? ⟨xb,0,none⟩=some (vI (k.n:Nat)):=(V1 R.o (j:=0) rfl).1
  have SC:Aside (N4 k (i+1)=N4 k i++(if k.has i=true then[(i:Int)]else[])):=j0y k i
  have hwi:IntKind.i64.wrap ((i:Int)+1)=((i+1:Nat):Int):=by rw[IntWalk.i64_in _ (by omega)];omega
  rcases Nat.lt_or_ge i k.n with hlt|hge
  ·have C:Aside (Calls Tryd.prog 57 #[vP xb 0,vI (i:Nat)] wr fun y w'=>y= .returned (.bool (k.has i))∧∃m,w'=wr.drewN m):=v0K R (by omega) (by omega)
   clear hV R
   cases hb:k.has i with
   | false=>
     rw[hb]at C
     have N2:Aside (N4 k (i+1)=N4 k i):=by
      have:N4 k (i+1)=N4 k i:=by rw[SC.out,if_neg (by rw[hb];simp),List.append_nil]
      exact this
     go_wp2_with (go_at_call 57;refine C.out.mono ?_;rintro e u ⟨rfl,m,hu⟩;have U:Aside (u.heap=wr.heap):=(by rw[hu];rfl);clear hu)
     go_roundg (k.n+1 - (i+1))
     case measure=>omega
     case rel=>exact⟨i+1,oa,oc,hlt,by rw[N2.out],rfl,rfl,by rw[N2.out];exact V.out.heap U.out⟩
   | true=>
     rw[hb]at C
     have N2:Aside (N4 k (i+1)=N4 k i++[(i:Int)]):=by
      have:N4 k (i+1)=N4 k i++[(i:Int)]:=by rw[SC.out,if_pos hb]
      exact this
     generalize hmm:(N4 k i).length=mm at*
     have MM:Aside ((N4 k i).length=mm):=hmm
     clear hmm
     go_wp2_with (first
      | (go_at_call 57;refine C.out.mono ?_;rintro e u ⟨rfl,m,hu⟩;have U:Aside (v5 w u (.slice oa mm oc) (N4 k i)):=V.out.heap (by rw[hu];rfl);clear hu)
      | (at_builtin;refine I3 rfl (.tmp 16) (.tmp 18) 22 rfl 2 i0 z0 1 8 Tryd.underlying22 hi hz0 hz1 hz2 hz3 (by decide) (.slice oa mm oc) mm ((N4 k i).map fun v=>.int .i64 v) rfl ?c0 ⟨u.heap.size,0,none⟩ 1 1 [.int .i64 (i:Int)] rfl rfl ?c1 ?c2 ?c3 ?c4 ?_)
      | go_in)
     case c0=>exact World.ownsRow.alloc (by have:=U.out.row;rw[MM.out]at this;exact this) _
     case c1=>exact c0b (X:=u) (l:=[vI (i:Int)]) rfl
     case c2=>intro u hu;simp at hu;subst hu;rfl
     case c3=>unfold maxLen;omega
     case c4=>omega
     ·intro v' w3 hown hgrow hfr
      obtain⟨g,cap,rfl⟩:=j5 hown
      have F:Aside (v5 w w3 (vL g 0 (mm+1) cap) (N4 k (i+1))∧(N4 k (i+1)).length=mm+1):=by
       have e2:(N4 k (i+1)).length=mm+1:=by rw[N2.out,List.length_append,MM.out];rfl
       refine(?_:v5 w w3 (vL g 0 (mm+1) cap) (N4 k (i+1))∧(N4 k (i+1)).length=mm+1)
       refine⟨?_,e2⟩
       rw[N2.out]
       exact U.out.add (by rw[MM.out];exact hown) hgrow hfr
      clear hown hgrow hfr
      go_wp2
      go_roundg (k.n+1 - (i+1))
      case measure=>omega
      case rel=>exact⟨i+1,some ⟨g,0,none⟩,cap,hlt,by rw[F.out.2],rfl,rfl,by rw[F.out.2];exact F.out.1⟩
  ·obtain rfl:i=k.n:=by omega
   clear hV R
   go_wp2
   go_ret
   exact⟨oa,oc,rfl,V.out⟩
end
section
variable{w w':World}
theorem m0P{n:Nat}{l:List Int}{ws:List (BitVec 64)}{j:Nat}{x:Int}(h:l[j]? =some x):(l.take (j+1)).foldl (Y8 n) ws=Y8 n ((l.take j).foldl (Y8 n) ws) x:=by
 rw[List.take_add_one,h,Option.toList_some,List.foldl_append]
 rfl
def bTo(vs:List Int)(j:Nat):V0:=⟨B6 vs,(vs.tail.take j).foldl (Y8 (B6 vs)) (List.replicate ((B6 vs+63) / 64) 0#64)⟩
theorem v0J(vs:List Int)(j:Nat):(bTo vs j).ws.length=(B6 vs+63) / 64:=by simp[bTo,b0K]
theorem r0b(vs:List Int){j:Nat}(h:vs.length≤j+1):bTo vs j=b09 vs:=by
 unfold bTo b09
 rw[List.take_of_length_le (by simp;omega)]
theorem m0N{va:Option Addr}{vc:Nat}{vs:List Int}(hv:c0K w va vs)(hl:vs.length<9223372036854775807):
 Calls Tryd.prog 31 #[.slice va vs.length vc] w fun y w'=>y= .returned (vP (w.heap.size+1) 0)∧RS (w.heap.size+1) w.heap.size (b09 vs) w'∧w'.heap.size=w.heap.size+2∧∀r,r<w.heap.size→w'.heap[r]? =w.heap[r]?:=by
 obtain⟨n,hn⟩:∃n,n=B6 vs:=⟨_,rfl⟩
 have hn6:n≤65536:=by rw[hn];unfold B6;omega
 have E:Aside (c0K w va vs∧n=B6 vs):=⟨hv,hn⟩
 have NR:Aside (Calls Tryd.prog 12 #[vI (n:Nat)] w fun x w'=>x= .returned (.tuple #[vP (w.heap.size+1) 0,.bool true])∧RS (w.heap.size+1) w.heap.size (X8 n) w'∧w'.heap.size=w.heap.size+2∧∀r,r<w.heap.size→w'.heap[r]? =w.heap[r]?):=q0p hn6
 cases vs with
 | nil=>
   have hn0:n=0:=by rw[hn];rfl
   subst hn0
   clear hv hn
   go_enter Tryd.func31,Tryd.ntmps31
   go_wp2_with (go_at_call 12;refine NR.out.mono ?_;rintro e u ⟨rfl,h1,h2,h3⟩;have U:Aside (RS (w.heap.size+1) w.heap.size (X8 0) u∧u.heap.size=w.heap.size+2∧∀r,r<w.heap.size→u.heap[r]? =w.heap[r]?):=⟨h1,h2,h3⟩;clear h1 h2 h3)
   go_loopg [6] 1 (fun g i u=>i=vI 1∧g=1∧RS (w.heap.size+1) w.heap.size (X8 0) u∧u.heap.size=w.heap.size+2∧∀r,r<w.heap.size→u.heap[r]? =w.heap[r]?)
   case atStart=>exact⟨rfl,rfl,U.out⟩
   case round=>
    obtain⟨rfl,rfl,hU⟩:=hrel
    have V:Aside (RS (w.heap.size+1) w.heap.size (X8 0) wr∧wr.heap.size=w.heap.size+2∧∀r,r<w.heap.size→wr.heap[r]? =w.heap[r]?):=hU
    clear hU
    go_wp2
    go_ret
    exact⟨rfl,V.out⟩
 | cons v vs=>
   obtain⟨b,o,rfl,h0⟩:=hv 0 v rfl
   rw[Nat.add_zero]at h0
   have hnm:min (max v 0) 65536=(n:Int):=by
    rw[hn]
    unfold B6
    simp only[List.headD_cons]
    omega
   clear hv hn
   have hlen:(v::vs).length=vs.length+1:=rfl
   rw[hlen]at hl ⊢
   have hp:(0:Int)<((vs.length+1:Nat):Int):=by omega
   go_enter Tryd.func31,Tryd.ntmps31
   go_wp2_with (go_at_call 12;refine NR.out.mono ?_;rintro e u ⟨rfl,h1,h2,h3⟩;have U:Aside (RS (w.heap.size+1) w.heap.size (X8 n) u∧u.heap.size=w.heap.size+2∧∀r,r<w.heap.size→u.heap[r]? =w.heap[r]?):=⟨h1,h2,h3⟩;clear h1 h2 h3)
   have hT0:Aside (bTo (v::vs) 0=X8 n∧B6 (v::vs)=n):=by
    have h1:=E.out.2
    have:bTo (v::vs) 0=X8 n∧B6 (v::vs)=n:=⟨by rw[h1];rfl,h1.symm⟩
    exact this
   clear h0 hnm
   go_loopg [6,7] (vs.length+1) (fun g i kv u=>∃j:Nat,j≤vs.length∧i=vI ((j+1:Nat):Int)∧g=vs.length+1 - j∧RS (w.heap.size+1) w.heap.size (bTo (v::vs) j) u∧u.heap.size=w.heap.size+2∧∀r,r<w.heap.size→u.heap[r]? =w.heap[r]?)
   case atStart=>exact⟨0,Nat.zero_le _,rfl,rfl,by rw[hT0.out.1];exact U.out.1,U.out.2⟩
   case round=>
    obtain⟨j,hj,rfl,rfl,hR,hz,ho⟩:=hrel
    have V:Aside (RS (w.heap.size+1) w.heap.size (bTo (v::vs) j) wr∧wr.heap.size=w.heap.size+2∧∀r,r<w.heap.size→wr.heap[r]? =w.heap[r]?):=⟨hR,hz,ho⟩
    have hwi:IntKind.i64.wrap (((j+1:Nat):Int)+1)=((j+2:Nat):Int):=by rw[IntWalk.i64_in _ (by omega)];omega
    have ewl:(bTo (v::vs) j).ws.length=(n+63) / 64:=by rw[v0J,hT0.out.2]
    rcases Nat.lt_or_ge j vs.length with hlt|hge
    ·obtain⟨z,hzz⟩:∃z,vs[j]? =some z:=⟨_,List.getElem?_eq_getElem hlt⟩
     have hzz2:(v::vs)[j+1]? =some z:=by simpa using hzz
     obtain⟨b',o',e',hc0⟩:=(E.out.1.same ho) (j+1) z hzz2
     cases e'
     have SC:Aside (bTo (v::vs) (j+1)=⟨n,Y8 n (bTo (v::vs) j).ws z⟩):=by
      have:bTo (v::vs) (j+1)=⟨n,Y8 n (bTo (v::vs) j).ws z⟩:=by
       unfold bTo
       rw[hT0.out.2]
       show V0.mk n ((vs.take (j+1)).foldl (Y8 n) _)=_
       rw[m0P hzz]
       rfl
      exact this
     have BN:Aside ((bTo (v::vs) j)=⟨n,(bTo (v::vs) j).ws⟩):=by
      have:(bTo (v::vs) j)=⟨n,(bTo (v::vs) j).ws⟩:=by rw[← hT0.out.2];rfl
      exact this
     have hj1:((j+1:Nat):Int)<((vs.length+1:Nat):Int):=by omega
     clear hR hz ho hzz hzz2
     by_cases h0:0≤z
     ·by_cases h1:z<(n:Int)
      ·obtain⟨q,rfl⟩:∃q:Nat,z=(q:Int):=⟨z.toNat,by omega⟩
       have d0:decide ((0:Int)≤(q:Int))=true:=decide_eq_true (by omega)
       have d1:decide ((q:Int)<(n:Int))=true:=decide_eq_true h1
       have hq:q / 64<(bTo (v::vs) j).ws.length:=by omega
       obtain⟨cw,zw⟩:=V.out.1.word hq
       have x1:=(V1 V.out.1.o (j:=1) rfl).1
       have qd:IntKind.i64.wrap ((q:Int).tdiv 64)=((q / 64:Nat):Int):=by
        rw[Int.tdiv_eq_ediv_of_nonneg (by omega),IntWalk.i64_in _ (by omega)]
        omega
       have qd2:IntKind.i64.wrap ((q:Int) / 64)=((q / 64:Nat):Int):=by
        rw[IntWalk.i64_in _ (by omega)]
        omega
       have hq3:((q / 64:Nat):Int)<((n:Int)+63) / 64:=by omega
       have hX:=l01 ((bTo (v::vs) j).wd (q / 64)) (bitI q)
       have B:Aside (∀u:World,Calls Tryd.prog 56 #[vI (q:Int)] u fun y w'=>y= .returned (wV (bitI q))∧w'=u):=fun u=>O6 q
       have W2:Aside (∀u:World,u.heap=(wr.setCell ⟨w.heap.size,q / 64,none⟩ (wV ((bTo (v::vs) j).wd (q / 64) ||| bitI q))).heap→RS (w.heap.size+1) w.heap.size (bTo (v::vs) (j+1)) u∧u.heap.size=w.heap.size+2∧∀r,r<w.heap.size→u.heap[r]? =w.heap[r]?):=by
        have:∀u:World,u.heap=(wr.setCell ⟨w.heap.size,q / 64,none⟩ (wV ((bTo (v::vs) j).wd (q / 64) ||| bitI q))).heap→RS (w.heap.size+1) w.heap.size (bTo (v::vs) (j+1)) u∧u.heap.size=w.heap.size+2∧∀r,r<w.heap.size→u.heap[r]? =w.heap[r]?:=fun u hu=>by
         have h1:=V.out.1.set (q / 64) ((bTo (v::vs) j).wd (q / 64) ||| bitI q)
         have e:bTo (v::vs) (j+1)={(bTo (v::vs) j)with ws:=(bTo (v::vs) j).ws.set (q / 64) ((bTo (v::vs) j).wd (q / 64) ||| bitI q)}:=by
          rw[SC.out]
          unfold Y8
          rw[if_pos (by omega),Int.toNat_natCast]
          show V0.mk n _=V0.mk (B6 (v::vs)) _
          rw[hT0.out.2]
          rfl
         rw[e]
         refine⟨h1.same (by rw[hu]) (by rw[hu]),by rw[hu,World.size_setCell];exact V.out.2.1,fun r hr=>?_⟩
         rw[hu,I0 _ _ _ (show r≠w.heap.size by omega)]
         exact V.out.2.2 r hr
        exact this
       have hq2:((q / 64:Nat):Int)<((bTo (v::vs) j).ws.length:Int):=by omega
       clear SC BN
       generalize q / 64=d at*
       go_wp2
       go_region_law (refine z0p (o:={dst:=some 59,op:=_,type:=_,pos:=_,after:=_,guard:=none}) rfl 56 #[vI (q:Int)] (wV (bitI q)) (by simp[execOp,Act.eval,Act.put,resolve,invoke,Deferred.ofValue,callable56.run]) (B.out _) ?_;intro u hu;subst u)
       all_goals(
        go_wp2
        go_roundg (vs.length+1 - (j+1))
        case measure=>omega
        case rel=>exact⟨j+1,hlt,rfl,rfl,W2.out _ rfl⟩)
      ·have d0:decide ((0:Int)≤z)=true:=decide_eq_true h0
       have d1:decide (z<(n:Int))=false:=decide_eq_false h1
       have P:Aside (bTo (v::vs) (j+1)=bTo (v::vs) j):=by
        have:bTo (v::vs) (j+1)=bTo (v::vs) j:=by
         rw[SC.out]
         unfold Y8
         rw[if_neg (by omega)]
         exact BN.out.symm
        exact this
       go_wp2
       go_roundg (vs.length+1 - (j+1))
       case measure=>omega
       case rel=>exact⟨j+1,hlt,rfl,rfl,by rw[P.out];exact V.out.1,V.out.2⟩
     ·have d0:decide ((0:Int)≤z)=false:=decide_eq_false h0
      have P:Aside (bTo (v::vs) (j+1)=bTo (v::vs) j):=by
       have:bTo (v::vs) (j+1)=bTo (v::vs) j:=by
        rw[SC.out]
        unfold Y8
        rw[if_neg (by omega)]
        exact BN.out.symm
       exact this
      go_wp2
      go_roundg (vs.length+1 - (j+1))
      case measure=>omega
      case rel=>exact⟨j+1,hlt,rfl,rfl,by rw[P.out];exact V.out.1,V.out.2⟩
    ·have EE:Aside (bTo (v::vs) j=b09 (v::vs)):=r0b _ (by simp;omega)
     clear hR hz ho
     go_wp2
     go_ret
     exact⟨rfl,by rw[← EE.out];exact V.out.1,V.out.2⟩
end
section
variable{w w':World}
structure TM(u:World)(tb:Nat)(oa:Option Addr)(ol oc k:Nat)(cp:Option Addr)(ov:Value)(av:List SA):Prop where
 o:u.heap[tb]? =some (.cells #[.slice oa ol oc,vI (k:Nat),.pointer cp,ov] 86 (0,0))
 row:u.ownsRow 0 49 3 ov av.length (i5 av)
structure a7(u:World)(oa:Option Addr)(l:List P3):Prop where
 c:∀k o,l[k]? =some o→∃b off,oa=some ⟨b,off,none⟩∧u.cell? ⟨b,off+k*4,none⟩=some (vI o.kd)∧u.cell? ⟨b,off+k*4+1,none⟩=some (vI o.a)∧u.cell? ⟨b,off+k*4+2,none⟩=some (vI o.b)∧u.cell? ⟨b,off+k*4+3,none⟩=some (vI o.c)
structure NK(w u:World)(tb:Nat)(ov ov':Value):Prop where
 sz:w.heap.size≤u.heap.size
 o:∀r,r<w.heap.size→r≠tb→ov.ownBlock≠some r→u.heap[r]? =w.heap[r]?
 fo:ov'.ownBlock=ov.ownBlock∨∃g,ov'.ownBlock=some g∧w.heap.size≤g
theorem Z2{w w':World}{b j:Nat}(e:w'.heap[b]? =w.heap[b]?):w'.cell? ⟨b,j,none⟩=w.cell? ⟨b,j,none⟩∧w'.frozen? ⟨b,j,none⟩=w.frozen? ⟨b,j,none⟩:=by
 constructor
 ·unfold World.cell?;simp only[e]
 ·unfold World.frozen?;simp only[e]
theorem TM.same{u:World}{tb ol oc k:Nat}{oa cp:Option Addr}{ov:Value}{av:List SA}(h:TM w tb oa ol oc k cp ov av)(h1:u.heap[tb]? =w.heap[tb]?)(h2:∀r,ov.ownBlock=some r→u.heap[r]? =w.heap[r]?):TM u tb oa ol oc k cp ov av:=
 ⟨h1.trans h.o,p08 h.row fun b c hb _=>h2 b hb⟩
theorem TM.ne{tb ol oc k:Nat}{oa cp:Option Addr}{ov:Value}{av:List SA}(h:TM w tb oa ol oc k cp ov av):some tb≠ov.ownBlock:=Q9 h.row h.o (by decide)
theorem n0a(l:List SA)(a:SA):i5 (l++[a])=i5 l++[.bool a.an.1,vI a.an.2.1,.slice a.la a.ll a.lc]:=by
 simp[i5,SA.v,j0K.cells]
theorem TM.set{u:World}{tb ol oc k:Nat}{oa cp:Option Addr}{ov:Value}{av:List SA}(h:TM u tb oa ol oc k cp ov av):(∀k':Nat,TM (u.setCell ⟨tb,1,none⟩ (vI (k':Nat))) tb oa ol oc k' cp ov av)∧(∀cp',TM (u.setCell ⟨tb,2,none⟩ (.pointer cp')) tb oa ol oc k cp' ov av):=by
 have hk:∀j v,(u.setCell ⟨tb,j,none⟩ v).ownsRow 0 49 3 ov av.length (i5 av):=fun j v=>p08 h.row fun b c hb _=>I0 _ _ _ fun e=>h.ne (by rw[hb];exact congrArg some (show b=tb from e).symm)
 exact⟨fun k'=>⟨by rw[U1 (o:=1) h.o];rfl,hk _ _⟩,fun cp'=>⟨by rw[U1 (o:=2) h.o];rfl,hk _ _⟩⟩
theorem TM.app{u w3:World}{tb ol oc k:Nat}{oa cp:Option Addr}{ov v:Value}{av:List SA}{a:SA}{ob:Obj}(h:TM u tb oa ol oc k cp ov av)(hown:w3.ownsRow 0 49 3 v (av.length+1) (i5 av++[.bool a.an.1,vI a.an.2.1,.slice a.la a.ll a.lc]))(hgrow:(u.alloc ob).grownBy w3 ov.ownBlock)
 (hfr:v.ownBlock=ov.ownBlock∨∃g,v.ownBlock=some g∧u.heap.size+1≤g):TM (w3.setCell ⟨tb,3,none⟩ v) tb oa ol oc k cp v (av++[a])∧NK u (w3.setCell ⟨tb,3,none⟩ v) tb ov v:=by
 have hlt:=(Array.getElem?_eq_some_iff.1 h.o).1
 have hcb:w3.heap[tb]? =_:=(K3 hgrow hlt h.ne).trans h.o
 have hgs:=hgrow.size
 simp only[World.size_alloc]at hgs
 have hvt:v.ownBlock≠some tb:=by
  rcases hfr with e|⟨g,e,hg⟩
  ·rw[e];exact fun h'=>h.ne h'.symm
  ·rw[e];intro h';cases h';omega
 refine⟨⟨?_,?_⟩,⟨by rw[World.size_setCell];omega,fun r h1 h2 h3=>?_,?_⟩⟩
 ·rw[U1 (o:=3) hcb];rfl
 ·rw[n0a,List.length_append]
  exact p08 hown fun b c hb _=>I0 _ _ _ fun e=>hvt (by rw[← show b=tb from e];exact hb)
 ·rw[I0 _ _ _ h2]
  exact K3 hgrow h1 fun e=>h3 e.symm
 ·rcases hfr with e|⟨g,e,hg⟩
  ·exact .inl e
  ·exact .inr ⟨g,e,by omega⟩
theorem NK.refl(w:World)(tb:Nat)(ov:Value):NK w w tb ov ov:=⟨Nat.le_refl _,fun _ _ _ _=>rfl,.inl rfl⟩
theorem NK.trans{a b c:World}{tb:Nat}{o1 o2 o3:Value}(h:NK a b tb o1 o2)(k:NK b c tb o2 o3):NK a c tb o1 o3:=
 ⟨Nat.le_trans h.sz k.sz,fun r h1 h2 h3=>(k.o r (Nat.lt_of_lt_of_le h1 h.sz) h2 (by
  rcases h.fo with e|⟨g,e,hg⟩
  ·rw[e];exact h3
  ·rw[e];intro h';cases h';omega)).trans (h.o r h1 h2 h3),by
  rcases k.fo with e|⟨g,e,hg⟩
  ·rcases h.fo with e2|⟨g,e2,hg⟩
   ·exact .inl (e.trans e2)
   ·exact .inr ⟨g,e.trans e2,hg⟩
  ·exact .inr ⟨g,e,Nat.le_trans h.sz hg⟩⟩
theorem NK.of{u:World}{tb:Nat}{ov:Value}(h1:w.heap.size≤u.heap.size)(h2:∀r,r<w.heap.size→r≠tb→u.heap[r]? =w.heap[r]?):NK w u tb ov ov:=⟨h1,fun r a b _=>h2 r a b,.inl rfl⟩
theorem m0F{xb tb cb ol oc k:Nat}{oa:Option Addr}{ov:Value}{av:List SA}{rc:J4}(h:TM w tb oa ol oc k (some ⟨cb,0,none⟩) ov av)(hc:F3 w cb rc)(hd:rc.done=false)(hk:k<ol):
 Calls Tryd.prog 34 #[vP xb 0,vP tb 0] w fun y w'=>y= .returned (.bool false)∧w'.heap=w.heap:=by
 have t0:=(V1 h.o (j:=0) rfl).1
 have t1:=(V1 h.o (j:=1) rfl).1
 have t2:=(V1 h.o (j:=2) rfl).1
 have c5:=(V1 hc (j:=5) rfl).1
 rw[hd]at c5
 have hk2:(k:Int)<(ol:Int):=by omega
 clear h hc hd
 go_enter Tryd.func34,Tryd.ntmps34
 go_wp2
 go_loopg [4] 1 (fun g r u=>r= .bool false∧g=1∧u.heap=w.heap)
 case atStart=>exact⟨rfl,rfl,rfl⟩
 case round=>
  obtain⟨rfl,rfl,hu⟩:=hrel
  have U:Aside (wr.heap=w.heap):=hu
  have t0:wr.cell? ⟨tb,0,none⟩=_:=(Z2 (by rw[hu])).1.trans t0
  have t1:wr.cell? ⟨tb,1,none⟩=_:=(Z2 (by rw[hu])).1.trans t1
  have t2:wr.cell? ⟨tb,2,none⟩=_:=(Z2 (by rw[hu])).1.trans t2
  have c5:wr.cell? ⟨cb,5,none⟩=_:=(Z2 (by rw[hu])).1.trans c5
  clear hu
  go_wp2
  go_quiet (fail)
  go_wp2
  go_ret
  exact⟨rfl,U.out⟩
end
section
variable{w w':World}
theorem TM.lt{tb ol oc k:Nat}{oa cp:Option Addr}{ov:Value}{av:List SA}(h:TM w tb oa ol oc k cp ov av){g:Nat}(hg:ov.ownBlock=some g):g<w.heap.size:=by
 rcases h.row.2 with⟨rfl,_⟩|⟨b,cap,cur,rfl,_,h2,_⟩
 ·simp[Value.ownBlock]at hg
 ·simp only[Value.ownBlock,Option.some.injEq]at hg
  subst hg
  exact(Q3 h2)
theorem t01(q:V0)(o:P3):(M6 q o).l= .slice none 0 0:=by
 unfold M6
 split<;>rfl
theorem callableR13:O1 13:=G2 Tryd.func13 rfl rfl
def NxP(u:World)(q:V0)(l:List P3)(k:Nat)(cp:Option Addr)(av:List SA)(P:SA→Prop)(t':GT BPl):Prop:=
 (cp=none∧(K4 BPl (l.drop k) q ⟨k,none,av.map SA.an⟩).2=t')∨
 ∃cb rc a la ll lc,cp=some ⟨cb,0,none⟩∧F3 u cb rc∧f00 rc a∧rc.l= .slice la ll lc∧P ⟨a,la,ll,lc⟩∧k<l.length∧(K4 BPl (l.drop (k+1)) q ⟨k+1,none,av.map SA.an++[a]⟩).2=t'
structure m0Z(w u:World)(q:V0)(tb:Nat)(oa:Option Addr)(ol oc:Nat)(ov ov':Value)(cp':Option Addr)(av':List SA)(P:SA→Prop)(t':GT BPl):Prop where
 t:TM u tb oa ol oc t'.k cp' ov' av'
 an:av'.map SA.an=t'.ans
 p:∀a∈av',P a
 nk:NK w u tb ov ov'
 call:match t'.call with
  | none=>cp'=none
  | some c=>∃cb rc,cp'=some ⟨cb,0,none⟩∧w.heap.size≤cb∧F3 u cb rc∧e0t rc c∧c0k q c∧rc.l= .slice none 0 0∧c0c c=[]
theorem j08{q:V0}{l:List P3}{k:Nat}{an:List m9}(h:l.length≤k):K4 BPl (l.drop k) q ⟨k,none,an⟩=(q,⟨k,none,an⟩):=by
 rw[List.drop_of_length_le h]
 rfl
theorem j02{q:V0}{l:List P3}{k:Nat}{an:List m9}{o:P3}{c:p9}(h:l[k]? =some o)(hb:(q.begin o).2= .inl c):(K4 BPl (l.drop k) q ⟨k,none,an⟩).2=⟨k,some c,an⟩:=by
 obtain⟨hlt,e⟩:=List.getElem?_eq_some_iff.1 h
 rw[List.drop_eq_getElem_cons hlt,e]
 have e2:BPl.beg q o=(q,.inl c):=Prod.ext (a0l q o) hb
 simp only[K4]
 rw[e2]
theorem j06{q:V0}{l:List P3}{k:Nat}{an:List m9}{o:P3}{a:m9}(h:l[k]? =some o)(hb:(q.begin o).2= .inr a):(K4 BPl (l.drop k) q ⟨k,none,an⟩).2=(K4 BPl (l.drop (k+1)) q ⟨k+1,none,an++[a]⟩).2:=by
 obtain⟨hlt,e⟩:=List.getElem?_eq_some_iff.1 h
 rw[List.drop_eq_getElem_cons hlt,e]
 have e2:BPl.beg q o=(q,.inr a):=Prod.ext (a0l q o) hb
 simp only[K4]
 rw[e2]
 rfl
theorem h03{xb wb tb oc k0:Nat}{q:V0}{oa cp0:Option Addr}{ov0:Value}{av0:List SA}{l:List P3}{P:SA→Prop}{t':GT BPl}(hS:RS xb wb q w)(hwf:BDm q)(hT:TM w tb oa l.length oc k0 cp0 ov0 av0)(hO:a7 w oa l)(hOb:0<l.length→∀b off,oa=some ⟨b,off,none⟩→b≠tb∧ov0.ownBlock≠some b)(hl:l.length≤65536)(hk0:k0≤l.length)(hal:av0.length=k0)
 (hP0:∀a∈av0,P a) (hPn:∀an:m9,an.2.2=[]→P ⟨an,none,0,0⟩) (hN:NxP w q l k0 cp0 av0 P t') (hxt:xb≠tb) (hwt:wb≠tb):
 Calls Tryd.prog 34 #[vP xb 0,vP tb 0] w fun y w'=>y= .returned (.bool t'.call.isNone)∧∃ov' cp' av',m0Z w w' q tb oa l.length oc ov0 ov' cp' av' P t':=by
 obtain⟨i0,z0,hi,hz0,hz1,hz2,hz3⟩:=r0e
 have E:Aside (RS xb wb q w∧BDm q∧a7 w oa l∧(∀an:m9,an.2.2=[]→P ⟨an,none,0,0⟩)∧(0<l.length→∀b off,oa=some ⟨b,off,none⟩→b≠tb∧ov0.ownBlock≠some b)):=⟨hS,hwf,hO,hPn,hOb⟩
 have T0:Aside (TM w tb oa l.length oc k0 cp0 ov0 av0∧NxP w q l k0 cp0 av0 P t'∧(∀a∈av0,P a)):=⟨hT,hN,hP0⟩
 have OK:Aside (∀(u:World) (ov:Value),NK w u tb ov0 ov→RS xb wb q u∧a7 u oa l):=by
  have:∀(u:World) (ov:Value),NK w u tb ov0 ov→RS xb wb q u∧a7 u oa l:=fun u ov hk=>by
   have hro:∀r c e,w.heap[r]? =some (.cells c e (0,0))→e≠49→r≠tb→u.heap[r]? =w.heap[r]?:=fun r c e hr he hne=>hk.o r (Q3 hr) hne fun h'=>Q9 hT.row hr (fun e2=>he e2.symm) h'.symm
   refine⟨hS.same (hro _ _ _ hS.o (by decide) hxt) (hro _ _ _ hS.ws (by decide) hwt),⟨fun k o ho=>?_⟩⟩
   obtain⟨b,off,e,c0,c1,c2,c3⟩:=hO.c k o ho
   have hb:u.heap[b]? =w.heap[b]?:=by
    obtain⟨c,e2,z,hb⟩:=M3 c0
    have hp:0<l.length:=by have:=(List.getElem?_eq_some_iff.1 ho).1;omega
    exact hk.o b (Q3 hb) (hOb hp b off e).1 (hOb hp b off e).2
   exact⟨b,off,e,(Z2 hb).1.trans c0,(Z2 hb).1.trans c1,(Z2 hb).1.trans c2,(Z2 hb).1.trans c3⟩
  exact this
 clear hS hwf hT hO hP0 hPn hN hOb
 go_enter Tryd.func34,Tryd.ntmps34
 go_wp2
 go_loopg [4] (l.length+1 - k0) (fun g r u=>∃(k:Nat) (cp:Option Addr) (ov:Value) (av:List SA),r= .bool false∧k≤l.length∧g=l.length+1 - k∧av.length=k∧TM u tb oa l.length oc k cp ov av∧NK w u tb ov0 ov∧NxP u q l k cp av P t'∧∀a∈av,P a)
 case atStart=>exact⟨k0,cp0,ov0,av0,rfl,hk0,rfl,hal,T0.out.1,NK.refl _ _ _,T0.out.2.1,T0.out.2.2⟩
 case round=>
  obtain⟨k,cp,ov,av,rfl,hk,rfl,hak,hT,hNK,hX,hP⟩:=hrel
  have V:Aside (TM wr tb oa l.length oc k cp ov av∧NK w wr tb ov0 ov∧NxP wr q l k cp av P t'∧(∀a∈av,P a)∧av.length=k):=⟨hT,hNK,hX,hP,hak⟩
  obtain⟨hR,hOM⟩:=OK.out wr ov hNK
  have t0:=(V1 hT.o (j:=0) rfl).1
  have t1:=(V1 hT.o (j:=1) rfl).1
  have t2:=(V1 hT.o (j:=2) rfl).1
  have t3:=(V1 hT.o (j:=3) rfl).1
  have y1:=(V1 hT.o (j:=1) rfl).2
  have y2:=(V1 hT.o (j:=2) rfl).2
  have y3:=(V1 hT.o (j:=3) rfl).2
  have hwk:IntKind.i64.wrap ((k:Int)+1)=((k+1:Nat):Int):=by rw[IntWalk.i64_in _ (by omega)];omega
  rcases Nat.lt_or_ge k l.length with hlt|hge
  ·-- ROUND
   obtain⟨o,ho⟩:∃o,l[k]? =some o:=⟨_,List.getElem?_eq_getElem hlt⟩
   have hk2:(k:Int)<(l.length:Int):=by omega
   have hak:av.length=k:=V.out.2.2.2.2
   rcases hX with⟨hcp,hadv⟩|⟨cb,rc,a,la,ll,lc,hcp,hrc,hdn,hrl,hPa,_,hadv⟩
   ·subst hcp
    obtain⟨b,off,rfl,o0,o1,o2,o3⟩:=hOM.c k o ho
    have htl:=(Array.getElem?_eq_some_iff.1 hT.o).1
    have BG:Aside (∀u:World,u.heap=wr.heap→Calls Tryd.prog 13 #[vP xb 0,.agg #[vI o.kd,vI o.a,vI o.b,vI o.c]] u fun x w'=>x= .returned (vP (wr.heap.size+1) 0)∧F3 w' (wr.heap.size+1) (M6 q o)∧w'.heap.size=wr.heap.size+2∧∀r,r<wr.heap.size→w'.heap[r]? =wr.heap[r]?):=by
     have:∀u:World,u.heap=wr.heap→Calls Tryd.prog 13 #[vP xb 0,.agg #[vI o.kd,vI o.a,vI o.b,vI o.c]] u fun x w'=>x= .returned (vP (wr.heap.size+1) 0)∧F3 w' (wr.heap.size+1) (M6 q o)∧w'.heap.size=wr.heap.size+2∧∀r,r<wr.heap.size→w'.heap[r]? =wr.heap[r]?:=fun u hu=>by
      have h:=l0n (w:=u) (o:=o) (hR.same (by rw[hu]) (by rw[hu])) E.out.2.1.n
      rw[hu]at h
      exact h
     exact this
    have X:Aside ((K4 BPl (l.drop k) q ⟨k,none,av.map SA.an⟩).2=t'):=hadv
    have RB:Aside (match(q.begin o).2 with| .inl c=>e0t (M6 q o) c∧c0k q c∧c0c c=[]| .inr a=>f00 (M6 q o) a∧a.2.2=[]):=m0c E.out.2.1
    have HO:Aside (l[k]? =some o):=ho
    clear hT hNK hP hR hOM hadv
    go_wp2
    go_quiet (fail)
    rename_i nq
    go_wp2
    have HW:Aside ((wr.drewN nq).heap=wr.heap):=(rfl:(wr.drewN nq).heap=wr.heap)
    have s0:(wr.drewN nq).cell? ⟨tb,0,none⟩=_:=t0
    have s1:(wr.drewN nq).cell? ⟨tb,1,none⟩=_:=t1
    have s2:(wr.drewN nq).cell? ⟨tb,2,none⟩=_:=t2
    have r2:(wr.drewN nq).frozen? ⟨tb,2,none⟩=_:=y2
    have p0:(wr.drewN nq).cell? ⟨b,off+k*4,none⟩=_:=o0
    have p1:(wr.drewN nq).cell? ⟨b,off+k*4+1,none⟩=_:=o1
    have p2:(wr.drewN nq).cell? ⟨b,off+k*4+2,none⟩=_:=o2
    have p3:(wr.drewN nq).cell? ⟨b,off+k*4+3,none⟩=_:=o3
    clear t0 t1 t2 t3 y1 y2 y3 o0 o1 o2 o3
    generalize wr.drewN nq=W at HW s0 s1 s2 r2 p0 p1 p2 p3 ⊢
    go_region_law (refine z0p rfl 13 #[vP xb 0,.agg #[vI o.kd,vI o.a,vI o.b,vI o.c]] (vP (wr.heap.size+1) 0) (by simp[execOp,Act.eval,Act.put,resolve,invoke,Deferred.ofValue,callableR13.run]) (BG.out _ (show W.drew.heap=wr.heap from HW.out)) ?_;intro u hu;have m2:=(Z2 (j:=2) ((hu.2.2 tb htl).trans (congrArg (fun h=>h[tb]?) HW.out.symm))).1.trans s2;have n2:=(Z2 (j:=2) ((hu.2.2 tb htl).trans (congrArg (fun h=>h[tb]?) HW.out.symm))).2.trans r2;have U:Aside (F3 u (wr.heap.size+1) (M6 q o)∧u.heap.size=wr.heap.size+2∧∀r,r<wr.heap.size→u.heap[r]? =wr.heap[r]?):=hu;clear hu)
    all_goals(
     have TU:TM u tb (some ⟨b,off,none⟩) l.length oc k none ov av:=V.out.1.same (U.out.2.2 tb htl) fun r hr=>U.out.2.2 r (V.out.1.lt hr)
     have TW:Aside (TM (u.setCell ⟨tb,2,none⟩ (vP (wr.heap.size+1) 0)) tb (some ⟨b,off,none⟩) l.length oc k (some ⟨wr.heap.size+1,0,none⟩) ov av):=TU.set.2 _
     have RC:Aside (F3 (u.setCell ⟨tb,2,none⟩ (vP (wr.heap.size+1) 0)) (wr.heap.size+1) (M6 q o)):=(I0 _ _ _ (show wr.heap.size+1≠tb by omega)).trans U.out.1
     have NW:Aside (NK wr (u.setCell ⟨tb,2,none⟩ (vP (wr.heap.size+1) 0)) tb ov ov):=.of (by rw[World.size_setCell,U.out.2.1];omega) fun r h1 h2=>(I0 _ _ _ h2).trans (U.out.2.2 r h1)
     clear TU m2 n2 s0 s1 s2 r2 p0 p1 p2 p3
     generalize u.setCell ⟨tb,2,none⟩ (vP (wr.heap.size+1) 0)=W at TW RC NW ⊢
     have s1:=(V1 TW.out.o (j:=1) rfl).1
     have s2:=(V1 TW.out.o (j:=2) rfl).1
     have s3:=(V1 TW.out.o (j:=3) rfl).1
     have r1:=(V1 TW.out.o (j:=1) rfl).2
     have r2:=(V1 TW.out.o (j:=2) rfl).2
     have r3:=(V1 TW.out.o (j:=3) rfl).2
     have s5:=(V1 RC.out (j:=5) rfl).1
     have s6:=(V1 RC.out (j:=6) rfl).1
     have s7:=(V1 RC.out (j:=7) rfl).1
     have s8:=(V1 RC.out (j:=8) rfl).1
     have hlc:=t01 q o
     rw[hlc]at s8
     have rb:=RB.out
     cases hb:(q.begin o).2 with
     | inl c=>
       rw[hb]at rb
       have RL:Aside (e0t (M6 q o) c∧c0k q c∧c0c c=[]∧(M6 q o).l= .slice none 0 0):=⟨rb.1,rb.2.1,rb.2.2,hlc⟩
       have T':Aside (t'=⟨k,some c,av.map SA.an⟩):=X.out.symm.trans (j02 HO.out hb)
       rw[rb.1.done]at s5
       clear rb hb hlc
       go_wp2
       go_ret
       rw[T'.out]
       exact⟨rfl,ov,_,av,TW.out,rfl,V.out.2.2.2.1,V.out.2.1.trans NW.out,wr.heap.size+1,M6 q o,rfl,Nat.le_trans V.out.2.1.sz (by omega),RC.out,RL.out.1,RL.out.2.1,RL.out.2.2.2,RL.out.2.2.1⟩
     | inr a=>
       rw[hb]at rb
       have X2:Aside ((K4 BPl (l.drop (k+1)) q ⟨k+1,none,av.map SA.an++[a]⟩).2=t'∧P ⟨a,none,0,0⟩):=⟨(j06 HO.out hb).symm.trans X.out,E.out.2.2.2.1 a rb.2⟩
       rw[rb.1.done]at s5
       rw[rb.1.ok]at s6
       rw[rb.1.n]at s7
       clear rb hb hlc
       go_wp2
       have hrowW:W.ownsRow 0 49 3 ov av.length (i5 av):=TW.out.row
       rw[hak]at hrowW
       have hltW:=(Array.getElem?_eq_some_iff.1 TW.out.o).1
       have hneW:=TW.out.ne
       go_region_law (refine H6 rfl (.tmp 47) (.tmp 55) 55 rfl 49 i0 z0 3 40 Tryd.underlying55 hi hz0 hz1 hz2 hz3 (by decide) ov k (i5 av) (by simp[Act.eval,Act.put]) ((show W.drew.ownsRow 0 49 3 _ _ _ from hrowW).alloc _) ⟨W.heap.size,0,none⟩ 1 1 [.bool a.1,vI a.2.1,.slice none 0 0] (by simp[Act.eval,Act.put]) rfl (c0b (X:=W.drew) (l:=[.bool a.1,vI a.2.1,.slice none 0 0]) rfl) (by intro u hu;simp at hu;rcases hu with rfl|rfl|rfl<;>rfl) (by unfold maxLen;omega) (by omega) ?_;intro v' w3 hown hgrow hfr;obtain⟨g,cap,rfl⟩:=j5 hown;have hk1:w3.heap[tb]? =W.heap[tb]?:=K3 (W:=W.drew) hgrow (r:=tb) hltW hneW;have m1:=(Z2 (j:=1) hk1).1.trans s1;have m2:=(Z2 (j:=2) hk1).1.trans s2;have m3:=(Z2 (j:=3) hk1).1.trans s3;have n1:=(Z2 (j:=1) hk1).2.trans r1;have n2:=(Z2 (j:=2) hk1).2.trans r2;have n3:=(Z2 (j:=3) hk1).2.trans r3;have F:Aside (∀u:World,u.heap=(((w3.setCell ⟨tb,3,none⟩ (vL g 0 (k+1) cap)).setCell ⟨tb,2,none⟩ (.pointer none)).setCell ⟨tb,1,none⟩ (vI ((k+1:Nat):Int))).heap→TM u tb (some ⟨b,off,none⟩) l.length oc (k+1) none (vL g 0 (k+1) cap) (av++[⟨a,none,0,0⟩])∧NK W.drew u tb ov (vL g 0 (k+1) cap)):=(fun u hu=>by
        have h1:=(TW.out.same (u:=W.drew) rfl fun _ _=>rfl).app (a:=⟨a,none,0,0⟩) (by rw[hak];exact hown) hgrow (hfr.imp id fun⟨g',e1,e2⟩=>⟨g',e1,by have e2:(W.alloc (.cells #[.bool a.1,vI a.2.1,.slice none 0 0] 49)).heap.size≤g':=e2;rw[World.size_alloc]at e2;exact e2⟩)
        have h2:=(h1.1.set.2 none).set.1 (k+1)
        refine⟨h2.same (by rw[hu]) (fun r _=>by rw[hu]),h1.2.trans (.of (by rw[hu];simp) fun r _ hr=>?_)⟩
        rw[hu,I0 _ _ _ hr,I0 _ _ _ hr]);clear hown hgrow hfr hk1)
       all_goals(
        go_wp2
        go_roundg (l.length+1 - (k+1))
        case measure=>omega
        case rel=>
         have N1:NK wr W.drew tb ov ov:=⟨NW.out.sz,NW.out.o,NW.out.fo⟩
         refine⟨k+1,none,_,_,rfl,hlt,rfl,by rw[List.length_append,hak];rfl,(F.out _ rfl).1,V.out.2.1.trans (N1.trans (F.out _ rfl).2),.inl ⟨rfl,?_⟩,fun a' ha'=>?_⟩
         ·exact(congrArg (fun z:List m9=>(K4 BPl (l.drop (k+1)) q ⟨k+1,none,z⟩).2) List.map_append).trans X2.out.1
         ·rcases List.mem_append.1 ha' with h|h
          ·exact V.out.2.2.2.1 a' h
          ·rw[List.mem_singleton.1 h]
           exact X2.out.2)
       )
   ·subst hcp
    have X:Aside ((K4 BPl (l.drop (k+1)) q ⟨k+1,none,av.map SA.an++[a]⟩).2=t'∧P ⟨a,la,ll,lc⟩):=⟨hadv,hPa⟩
    have c5:=(V1 hrc (j:=5) rfl).1
    have c6:=(V1 hrc (j:=6) rfl).1
    have c7:=(V1 hrc (j:=7) rfl).1
    have c8:=(V1 hrc (j:=8) rfl).1
    rw[hdn.done]at c5
    rw[hdn.ok]at c6
    rw[hdn.n]at c7
    rw[hrl]at c8
    clear hT hNK hP hR hOM hadv hPa hrc hdn hrl
    go_wp2
    go_quiet (fail)
    rename_i nq
    go_wp2
    have HW:Aside ((wr.drewN nq).heap=wr.heap):=(rfl:(wr.drewN nq).heap=wr.heap)
    have TW:Aside (TM (wr.drewN nq) tb oa l.length oc k (some ⟨cb,0,none⟩) ov av):=V.out.1.same rfl fun _ _=>rfl
    have s1:(wr.drewN nq).cell? ⟨tb,1,none⟩=_:=t1
    have s2:(wr.drewN nq).cell? ⟨tb,2,none⟩=_:=t2
    have s3:(wr.drewN nq).cell? ⟨tb,3,none⟩=_:=t3
    have r1:(wr.drewN nq).frozen? ⟨tb,1,none⟩=_:=y1
    have r2:(wr.drewN nq).frozen? ⟨tb,2,none⟩=_:=y2
    have r3:(wr.drewN nq).frozen? ⟨tb,3,none⟩=_:=y3
    have s6:(wr.drewN nq).cell? ⟨cb,6,none⟩=_:=c6
    have s7:(wr.drewN nq).cell? ⟨cb,7,none⟩=_:=c7
    have s8:(wr.drewN nq).cell? ⟨cb,8,none⟩=_:=c8
    clear t0 t1 t2 t3 y1 y2 y3 c5 c6 c7 c8
    generalize wr.drewN nq=W at HW TW s1 s2 s3 r1 r2 r3 s6 s7 s8 ⊢
    have hrowW:W.ownsRow 0 49 3 ov av.length (i5 av):=TW.out.row
    rw[hak]at hrowW
    have hltW:=(Array.getElem?_eq_some_iff.1 TW.out.o).1
    have hneW:=TW.out.ne
    go_region_law (refine H6 rfl (.tmp 47) (.tmp 55) 55 rfl 49 i0 z0 3 40 Tryd.underlying55 hi hz0 hz1 hz2 hz3 (by decide) ov k (i5 av) (by simp[Act.eval,Act.put]) ((show W.drew.ownsRow 0 49 3 _ _ _ from hrowW).alloc _) ⟨W.heap.size,0,none⟩ 1 1 [.bool a.1,vI a.2.1,.slice la ll lc] (by simp[Act.eval,Act.put]) rfl (c0b (X:=W.drew) (l:=[.bool a.1,vI a.2.1,.slice la ll lc]) rfl) (by intro u hu;simp at hu;rcases hu with rfl|rfl|rfl<;>rfl) (by unfold maxLen;omega) (by omega) ?_;intro v' w3 hown hgrow hfr;obtain⟨g,cap,rfl⟩:=j5 hown;have hk1:w3.heap[tb]? =W.heap[tb]?:=K3 (W:=W.drew) hgrow (r:=tb) hltW hneW;have m1:=(Z2 (j:=1) hk1).1.trans s1;have m2:=(Z2 (j:=2) hk1).1.trans s2;have m3:=(Z2 (j:=3) hk1).1.trans s3;have n1:=(Z2 (j:=1) hk1).2.trans r1;have n2:=(Z2 (j:=2) hk1).2.trans r2;have n3:=(Z2 (j:=3) hk1).2.trans r3;have F:Aside (∀u:World,u.heap=(((w3.setCell ⟨tb,3,none⟩ (vL g 0 (k+1) cap)).setCell ⟨tb,2,none⟩ (.pointer none)).setCell ⟨tb,1,none⟩ (vI ((k+1:Nat):Int))).heap→TM u tb oa l.length oc (k+1) none (vL g 0 (k+1) cap) (av++[⟨a,la,ll,lc⟩])∧NK W.drew u tb ov (vL g 0 (k+1) cap)):=(fun u hu=>by
     have h1:=(TW.out.same (u:=W.drew) rfl fun _ _=>rfl).app (a:=⟨a,la,ll,lc⟩) (by rw[hak];exact hown) hgrow (hfr.imp id fun⟨g',e1,e2⟩=>⟨g',e1,by have e2:(W.alloc (.cells #[.bool a.1,vI a.2.1,.slice la ll lc] 49)).heap.size≤g':=e2;rw[World.size_alloc]at e2;exact e2⟩)
     have h2:=(h1.1.set.2 none).set.1 (k+1)
     refine⟨h2.same (by rw[hu]) (fun r _=>by rw[hu]),h1.2.trans (.of (by rw[hu];simp) fun r _ hr=>?_)⟩
     rw[hu,I0 _ _ _ hr,I0 _ _ _ hr]);clear hown hgrow hfr hk1)
    all_goals(
     go_wp2
     go_roundg (l.length+1 - (k+1))
     case measure=>omega
     case rel=>
      have N1:NK wr W.drew tb ov ov:=.of (by show wr.heap.size≤W.heap.size;rw[HW.out];exact Nat.le_refl _) fun r _ _=>by show W.heap[r]? =_;rw[HW.out]
      refine⟨k+1,none,_,_,rfl,hlt,rfl,by rw[List.length_append,hak];rfl,(F.out _ rfl).1,V.out.2.1.trans (N1.trans (F.out _ rfl).2),.inl ⟨rfl,?_⟩,fun a' ha'=>?_⟩
      ·exact(congrArg (fun z:List m9=>(K4 BPl (l.drop (k+1)) q ⟨k+1,none,z⟩).2) List.map_append).trans X.out.1
      ·rcases List.mem_append.1 ha' with h|h
       ·exact V.out.2.2.2.1 a' h
       ·rw[List.mem_singleton.1 h]
        exact X.out.2)
  ·obtain rfl:k=l.length:=by omega
   have X:Aside (cp=none∧t'=⟨l.length,none,av.map SA.an⟩):=by
    have:cp=none∧t'=⟨l.length,none,av.map SA.an⟩:=by
     rcases hX with⟨h1,h2⟩|⟨cb,rc,a,la,ll,lc,_,_,_,_,_,h,_⟩
     ·exact⟨h1,h2.symm.trans (congrArg Prod.snd (j08 (q:=q) (an:=av.map SA.an) (Nat.le_refl l.length)))⟩
     ·omega
    exact this
   clear hT hNK hX hP hR hOM hak
   go_wp2
   go_quiet (fail)
   go_wp2
   go_ret
   rw[X.out.2]
   refine⟨rfl,ov,cp,av,?_⟩
   have hv:=V.out
   rename_i nq
   have N1:NK wr (wr.drewN nq) tb ov ov:=.of (Nat.le_refl _) fun _ _ _=>rfl
   exact⟨hv.1.same rfl fun _ _=>rfl,rfl,hv.2.2.2.1,hv.2.1.trans N1,X.out.1⟩
end
section
variable{W u u':World}
theorem c0k.dim{q q':V0}{c:p9}(h:c0k q c)(h1:q'.n=q.n)(h2:q'.ws.length=q.ws.length):c0k q' c:=
 ⟨by rw[h2];exact h.w,h.ph,h.kd,h.i,fun a b=>by rw[h1];exact h.f a b,h.p0,h.h0,h.out,h.o4⟩
theorem b9.lt{v:Value}{l:List Int}(h:b9 u v l){g:Nat}(hg:v.ownBlock=some g):g<u.heap.size:=by
 rcases h.2 with⟨rfl,_⟩|⟨b,cap,cur,rfl,_,h2,_⟩
 ·simp[Value.ownBlock]at hg
 ·simp only[Value.ownBlock,Option.some.injEq]at hg
  subst hg
  exact(Q3 h2)
theorem b9.at'{v:Value}{l:List Int}(h:b9 u v l)(hk:∀g,v.ownBlock=some g→u'.heap[g]? =u.heap[g]?):b9 u' v l:=h.keep fun b c hb _=>hk b hb
structure TH(u:World)(lab:Nat→Nat)(q:V0)(i:Nat)(l:List P3)(oa:Option Addr)(oc:Nat)(t:GT BPl)(tb:Nat)(ov:Value)(cp:Option Addr)(av:List SA):Prop where
 m:TM u tb oa l.length oc t.k cp ov av
 an:av.map SA.an=t.ans
 al:av.length=t.k
 lt:lab tb=4*i+4
 lo:∀g,ov.ownBlock=some g→lab g=4*i+5
 ls:∀a∈av,b9 u a.row a.an.2.2∧∀g,a.row.ownBlock=some g→lab g=3
 call:match t.call with
  | none=>cp=none
  | some c=>∃cb rc,cp=some ⟨cb,0,none⟩∧lab cb=4*i+6∧F3 u cb rc∧e0t rc c∧c0k q c∧b9 u rc.l (c0c c)∧(∀g,rc.l.ownBlock=some g→lab g=4*i+7)∧t.k<l.length
section
variable{lab lab':Nat→Nat}{q q':V0}{i:Nat}{l:List P3}{oa cp:Option Addr}{oc tb:Nat}{t:GT BPl}{ov:Value}{av:List SA}
def X9(i x:Nat):Prop:=x=3∨x=4*i+4∨x=4*i+5∨x=4*i+6∨x=4*i+7
theorem TH.keep(h:TH u lab q i l oa oc t tb ov cp av)(hk:∀r,r<u.heap.size→X9 i (lab r)→u'.heap[r]? =u.heap[r]?∧lab' r=lab r)(hn:q'.n=q.n)(hw:q'.ws.length=q.ws.length):TH u' lab' q' i l oa oc t tb ov cp av:=by
 have htl:=(Array.getElem?_eq_some_iff.1 h.m.o).1
 have h1:=hk tb htl (.inr (.inl h.lt))
 have h2:∀g,ov.ownBlock=some g→u'.heap[g]? =u.heap[g]?∧lab' g=lab g:=fun g hg=>hk g (h.m.lt hg) (.inr (.inr (.inl (h.lo g hg))))
 refine⟨h.m.same h1.1 fun r hr=>(h2 r hr).1,h.an,h.al,h1.2.trans h.lt,fun g hg=>(h2 g hg).2.trans (h.lo g hg),fun a ha=>?_,?_⟩
 ·obtain⟨a1,a2⟩:=h.ls a ha
  exact⟨a1.at' fun g hg=>(hk g (a1.lt hg) (.inl (a2 g hg))).1,fun g hg=>(hk g (a1.lt hg) (.inl (a2 g hg))).2.trans (a2 g hg)⟩
 ·have hc:=h.call
  cases e:t.call with
  | none=>rw[e]at hc;exact hc
  | some c=>
    rw[e]at hc
    obtain⟨cb,rc,c1,c2,c3,c4,c5,c6,c7,c8⟩:=hc
    have k1:=hk cb (Q3 c3) (.inr (.inr (.inr (.inl c2))))
    have k2:∀g,rc.l.ownBlock=some g→u'.heap[g]? =u.heap[g]?∧lab' g=lab g:=fun g hg=>hk g (c6.lt hg) (.inr (.inr (.inr (.inr (c7 g hg)))))
    exact⟨cb,rc,c1,k1.2.trans c2,k1.1.trans c3,c4,c5.dim hn hw,c6.at' fun g hg=>(k2 g hg).1,fun g hg=>(k2 g hg).2.trans (c7 g hg),c8⟩
end
theorem a0U{i j x y:Nat}(hij:i≠j)(hx:X9 j x)(hy:y=4*i+4∨y=4*i+5∨y=4*i+6∨y=4*i+7∨y=2∨y=1∨y=0):x≠y:=by
 unfold X9 at hx
 omega
structure RPB(W u:World)(lab:Nat→Nat)(xb wb n:Nat)(ops:Nat→List P3)(oa:Nat→Option Addr)(oc:Nat→Nat)(s:GS BPl)(tb:Nat→Nat)(ov:Nat→Value)(cp:Nat→Option Addr)(av:Nat→List SA):Prop where
 rs:RS xb wb s.q u
 wf:BDm s.q
 lx:lab xb=1
 lw:lab wb=2
 sz:W.heap.size≤u.heap.size
 old:∀r,r<W.heap.size→u.heap[r]? =W.heap[r]?
 lold:∀r,r<W.heap.size→lab r=0
 lnew:∀r,u.heap.size≤r→lab r=0
 th:∀i,i<n→TH u lab s.q i (ops i) (oa i) (oc i) (s.th i) (tb i) (ov i) (cp i) (av i)
structure Kp(u u':World)(lab lab':Nat→Nat):Prop where
 sz:u.heap.size≤u'.heap.size
 k:∀r,r<u.heap.size→lab r=0→u'.heap[r]? =u.heap[r]?∧lab' r=0
theorem Kp.trans{u1 u2 u3:World}{l1 l2 l3:Nat→Nat}(h:Kp u1 u2 l1 l2)(k:Kp u2 u3 l2 l3):Kp u1 u3 l1 l3:=
 ⟨Nat.le_trans h.sz k.sz,fun r hr h0=>by
  obtain⟨a,b⟩:=h.k r hr h0
  obtain⟨c,d⟩:=k.k r (Nat.lt_of_lt_of_le hr h.sz) b
  exact⟨c.trans a,d⟩⟩
theorem RPB.frame{lab:Nat→Nat}{xb wb n:Nat}{ops:Nat→List P3}{oa:Nat→Option Addr}{oc:Nat→Nat}{s:GS BPl}{tb:Nat→Nat}{ov:Nat→Value}{cp:Nat→Option Addr}{av:Nat→List SA}(h:RPB W u lab xb wb n ops oa oc s tb ov cp av)(hs:u.heap.size≤u'.heap.size)(hk:∀r,r<u.heap.size→lab r≠0∨r<W.heap.size→u'.heap[r]? =u.heap[r]?):RPB W u' lab xb wb n ops oa oc s tb ov cp av:=by
 have hxl:=(Array.getElem?_eq_some_iff.1 h.rs.o).1
 have hwl:=(Array.getElem?_eq_some_iff.1 h.rs.ws).1
 have hz:=h.sz
 exact⟨h.rs.same (hk _ hxl (.inl (by rw[h.lx];omega))) (hk _ hwl (.inl (by rw[h.lw];omega))),h.wf,h.lx,h.lw,by omega,fun r hr=>(hk r (by omega) (.inr hr)).trans (h.old r hr),h.lold,fun r hr=>h.lnew r (by omega),fun i hi=>(h.th i hi).keep (fun r hr hm=>⟨hk r hr (.inl (by unfold X9 at hm;omega)),rfl⟩) rfl rfl⟩
theorem RPB.dead{lab:Nat→Nat}{xb wb n:Nat}{ops:Nat→List P3}{oa:Nat→Option Addr}{oc:Nat→Nat}{s:GS BPl}{tb:Nat→Nat}{ov:Nat→Value}{cp:Nat→Option Addr}{av:Nat→List SA}(h:RPB W u lab xb wb n ops oa oc s tb ov cp av)(e:u'.heap=u.heap):RPB W u' lab xb wb n ops oa oc s tb ov cp av:=
 ⟨h.rs.same (by rw[e]) (by rw[e]),h.wf,h.lx,h.lw,by rw[e];exact h.sz,fun r hr=>by rw[e];exact h.old r hr,h.lold,fun r hr=>h.lnew r (by rw[e]at hr;exact hr),fun i hi=>(h.th i hi).keep (fun r _ _=>⟨by rw[e],rfl⟩) rfl rfl⟩
end
section
variable{W u u':World}
structure h0G(W u:World)(lab:Nat→Nat)(xb wb n:Nat)(ops:Nat→List P3)(oa:Nat→Option Addr)(oc:Nat→Nat)(s:GS BPl)(tb:Nat→Nat)(ov:Nat→Value)(cp:Nat→Option Addr)(av:Nat→List SA)(i:Nat)(q:V0)(a:m9):Prop where
 rs:RS xb wb q u
 wf:BDm q
 lx:lab xb=1
 lw:lab wb=2
 sz:W.heap.size≤u.heap.size
 old:∀r,r<W.heap.size→u.heap[r]? =W.heap[r]?
 lold:∀r,r<W.heap.size→lab r=0
 lnew:∀r,u.heap.size≤r→lab r=0
 th:∀j,j<n→j≠i→TH u lab q j (ops j) (oa j) (oc j) (s.th j) (tb j) (ov j) (cp j) (av j)
 m:TM u (tb i) (oa i) (ops i).length (oc i) (s.th i).k (cp i) (ov i) (av i)
 an:(av i).map SA.an=(s.th i).ans
 al:(av i).length=(s.th i).k
 lt:lab (tb i)=4*i+4
 lo:∀g,(ov i).ownBlock=some g→lab g=4*i+5
 ls:∀a∈av i,b9 u a.row a.an.2.2∧∀g,a.row.ownBlock=some g→lab g=3
 end_:∃cb rc la ll lc,cp i=some ⟨cb,0,none⟩∧F3 u cb rc∧f00 rc a∧rc.l= .slice la ll lc∧b9 u rc.l a.2.2∧(∀g,rc.l.ownBlock=some g→lab g=3)∧(s.th i).k<(ops i).length
section
variable{lab:Nat→Nat}{xb wb n:Nat}{ops:Nat→List P3}{oa:Nat→Option Addr}{oc:Nat→Nat}{s:GS BPl}{tb:Nat→Nat}{ov:Nat→Value}{cp:Nat→Option Addr}{av:Nat→List SA}
theorem h0Z{i cb:Nat}{rc:J4}{l':Value}{c:p9}(h:RPB W u lab xb wb n ops oa oc s tb ov cp av)(c2:lab cb=4*i+6)(c7:∀g,rc.l.ownBlock=some g→lab g=4*i+7)(hs:q0z u u' cb wb rc.l l')(x:Nat):
 (∀r,r<u.heap.size→lab r≠4*i+6→lab r≠2→lab r≠4*i+7→u'.heap[r]? =u.heap[r]?)∧(∀r,r<u.heap.size→lab r≠4*i+7→(if l'.ownBlock=some r then x else lab r)=lab r):=by
 refine⟨fun r hr h1 h2 h3=>hs.o r hr (fun e=>h1 (by rw[e];exact c2)) (fun e=>h2 (by rw[e];exact h.lw)) fun e=>h3 (c7 r e),fun r hr h1=>?_⟩
 rw[if_neg]
 intro e
 rcases hs.fr with f|⟨g,f,hg⟩
 ·exact h1 (c7 r (f ▸ e))
 ·rw[f]at e;cases e;omega
theorem RPB.step(h:RPB W u lab xb wb n ops oa oc s tb ov cp av){i:Nat}(hi:i<n){c:p9}(hc:(s.th i).call=some c){cb:Nat}{rc:J4}(c1:cp i=some ⟨cb,0,none⟩)(c2:lab cb=4*i+6)(c7:∀g,rc.l.ownBlock=some g→lab g=4*i+7)(c8:(s.th i).k<(ops i).length)
 (hS:b0x u u' xb wb cb rc.l (V0.step s.q c)):∃lab',Kp u u' lab lab'∧match V0.step s.q c with
   | (q',.inl c')=>RPB W u' lab' xb wb n ops oa oc (s.put i (q',⟨(s.th i).k,some c',(s.th i).ans⟩)) tb ov cp av
   | (q',.inr a)=>h0G W u' lab' xb wb n ops oa oc s tb ov cp av i q' a:=by
 obtain⟨hR,rc',d1,d2,d3⟩:=hS
 have hdm:=BDm.step h.wf c
 have hn:=(x9 s.q c).2
 have hw:=(x9 s.q c).1
 have hxl:=(Array.getElem?_eq_some_iff.1 h.rs.o).1
 have hwl:=(Array.getElem?_eq_some_iff.1 h.rs.ws).1
 have hT:=h.th i hi
 have htl:=(Array.getElem?_eq_some_iff.1 hT.m.o).1
 have key:∀x,(∀j,j<n→j≠i→TH u' (fun r=>if rc'.l.ownBlock=some r then x else lab r) (V0.step s.q c).1 j (ops j) (oa j) (oc j) (s.th j) (tb j) (ov j) (cp j) (av j))∧
  (if rc'.l.ownBlock=some xb then x else lab xb)=1∧(if rc'.l.ownBlock=some wb then x else lab wb)=2∧W.heap.size≤u'.heap.size∧(∀r,r<W.heap.size→u'.heap[r]? =W.heap[r]?)∧(∀r,r<W.heap.size→(if rc'.l.ownBlock=some r then x else lab r)=0)∧
  (∀r,u'.heap.size≤r→rc'.l.ownBlock≠some r→(if rc'.l.ownBlock=some r then x else lab r)=0)∧
  TM u' (tb i) (oa i) (ops i).length (oc i) (s.th i).k (cp i) (ov i) (av i)∧(if rc'.l.ownBlock=some (tb i)then x else lab (tb i))=4*i+4∧(∀g,(ov i).ownBlock=some g→(if rc'.l.ownBlock=some g then x else lab g)=4*i+5)∧
  (∀a∈av i,b9 u' a.row a.an.2.2∧∀g,a.row.ownBlock=some g→(if rc'.l.ownBlock=some g then x else lab g)=3)∧(if rc'.l.ownBlock=some cb then x else lab cb)=4*i+6:=by
  intro x
  obtain⟨k1,k2⟩:=h0Z (c:=c) h c2 c7 d3 x
  have hws:=h.sz
  have hss:=d3.sz
  have hcl:cb<u.heap.size:=by
   rcases Nat.lt_or_ge cb u.heap.size with h1|h1
   ·exact h1
   ·have:=h.lnew cb h1;omega
  refine⟨fun j hj hne=>(h.th j hj).keep (fun r hr hm=>⟨k1 r hr (a0U (Ne.symm hne) hm (by omega)) (a0U (Ne.symm hne) hm (by omega)) (a0U (Ne.symm hne) hm (by omega)),k2 r hr (a0U (Ne.symm hne) hm (by omega))⟩) hn hw,?_,?_,by omega,fun r hr=>?_,fun r hr=>?_,fun r hr hne=>?_,?_,?_,fun g hg=>?_,fun a ha=>?_,?_⟩
  ·exact(k2 xb hxl (by rw[h.lx];omega)).trans h.lx
  ·exact(k2 wb hwl (by rw[h.lw];omega)).trans h.lw
  ·have h0:=h.lold r hr
   exact(k1 r (by omega) (by omega) (by omega) (by omega)).trans (h.old r hr)
  ·have h0:=h.lold r hr
   exact(k2 r (by omega) (by omega)).trans h0
  ·rw[if_neg hne]
   exact h.lnew r (by omega)
  ·have l1:=hT.lt
   refine hT.m.same (k1 _ htl (by omega) (by omega) (by omega)) fun g hg=>?_
   have l2:=hT.lo g hg
   exact k1 g (hT.m.lt hg) (by omega) (by omega) (by omega)
  ·exact(k2 _ htl (by rw[hT.lt];omega)).trans hT.lt
  ·exact(k2 g (hT.m.lt hg) (by rw[hT.lo g hg];omega)).trans (hT.lo g hg)
  ·obtain⟨a1,a2⟩:=hT.ls a ha
   refine⟨a1.at' fun g hg=>?_,fun g hg=>?_⟩
   ·have:=a2 g hg
    exact k1 g (a1.lt hg) (by omega) (by omega) (by omega)
   ·have:=a2 g hg
    exact(k2 g (a1.lt hg) (by omega)).trans this
  ·exact(k2 cb hcl (by omega)).trans c2
 have kp:∀x,Kp u u' lab (fun r=>if rc'.l.ownBlock=some r then x else lab r):=fun x=>by
  obtain⟨k1,k2⟩:=h0Z (c:=c) h c2 c7 d3 x
  exact⟨d3.sz,fun r hr h0=>⟨k1 r hr (by omega) (by omega) (by omega),(k2 r hr (by omega)).trans h0⟩⟩
 rcases e:V0.step s.q c with⟨q',r⟩
 rw[e]at hR d2 hdm hn hw key
 cases r with
 | inl c'=>
   obtain⟨e1,e2,e3⟩:=d2
   obtain⟨g1,g2,g3,g4,g5,g6,g7,g8,g9,g10,g11,g12⟩:=key (4*i+7)
   refine⟨fun r=>if rc'.l.ownBlock=some r then 4*i+7 else lab r,kp _,hR,hdm,g2,g3,g4,g5,g6,fun r hr=>g7 r hr fun e=>by have:=e3.lt e;omega,fun j hj=>?_⟩
   by_cases hji:j=i
   ·subst hji
    have hth:(s.put j (q',⟨(s.th j).k,some c',(s.th j).ans⟩)).th j=⟨(s.th j).k,some c',(s.th j).ans⟩:=if_pos rfl
    rw[hth]
    exact⟨g8,hT.an,hT.al,g9,g10,g11,cb,rc',c1,g12,d1,e1,e2,e3,fun g hg=>if_pos hg,c8⟩
   ·have hth:(s.put i (q',⟨(s.th i).k,some c',(s.th i).ans⟩)).th j=s.th j:=if_neg hji
    rw[hth]
    exact g1 j hj hji
 | inr a=>
   obtain⟨e1,e3⟩:=d2
   obtain⟨g1,g2,g3,g4,g5,g6,g7,g8,g9,g10,g11,g12⟩:=key 3
   obtain⟨la,lc,el⟩:=S2 e3
   exact⟨fun r=>if rc'.l.ownBlock=some r then 3 else lab r,kp _,hR,hdm,g2,g3,g4,g5,g6,fun r hr=>g7 r hr fun e=>by have:=e3.lt e;omega,g1,g8,hT.an,hT.al,g9,g10,g11,cb,rc',la,_,lc,c1,d1,e1,el,e3,fun g hg=>if_pos hg,c8⟩
end
end
section
variable{W u u' w:World}
theorem D5{a:Addr}{v:Value}(h:w.cell? a=some v)(hk:∀r,r<w.heap.size→u.heap[r]? =w.heap[r]?):u.cell? a=some v:=by
 obtain⟨c,e,z,ho⟩:=M3 h
 have:=hk _ (Q3 ho)
 rw[← h];unfold World.cell?;simp only[this]
theorem a7.olds{oa:Option Addr}{l:List P3}(h:a7 w oa l)(hk:∀r,r<w.heap.size→u.heap[r]? =w.heap[r]?):a7 u oa l:=⟨fun k o ho=>by
 obtain⟨b,off,e,c0,c1,c2,c3⟩:=h.c k o ho
 exact⟨b,off,e,D5 c0 hk,D5 c1 hk,D5 c2 hk,D5 c3 hk⟩⟩
theorem a7.low{oa:Option Addr}{l:List P3}(h:a7 w oa l)(h0:0<l.length){b off:Nat}(e:oa=some ⟨b,off,none⟩):b<w.heap.size:=by
 obtain⟨b',off',e',c0,_⟩:=h.c 0 l[0] (List.getElem?_eq_getElem h0)
 rw[e]at e'
 cases e'
 exact I9 c0
theorem m07(q:V0):∀(l:List P3) (t:GT BPl),(K4 BPl l q t).1=q
 | [],t=>rfl
 | o::l,t=>by
   have hb:(BPl.beg q o).1=q:=a0l q o
   simp only[K4]
   rcases e:BPl.beg q o with⟨q',r⟩
   rw[e]at hb
   have hb:q'=q:=hb
   subst hb
   cases r with
   | inl c=>rfl
   | inr a=>exact m07 q' l _
theorem c0R{q:V0}{l:List P3}:∀(d k:Nat) (an:List m9),l.length - k=d→an.length=k→k≤l.length→List.length (α:=m9) (K4 BPl (l.drop k) q ⟨k,none,an⟩).2.ans=(K4 BPl (l.drop k) q ⟨k,none,an⟩).2.k∧(∀c,(K4 BPl (l.drop k) q ⟨k,none,an⟩).2.call=some c→(K4 BPl (l.drop k) q ⟨k,none,an⟩).2.k<l.length)
 | 0,k,an,hd,ha,hk=>by
   have e:=congrArg Prod.snd (j08 (q:=q) (an:=an) (show l.length≤k by omega))
   rw[e]
   exact⟨ha,fun c h=>by cases h⟩
 | d+1,k,an,hd,ha,hk=>by
   have hlt:k<l.length:=by omega
   have ho:l[k]? =some l[k]:=List.getElem?_eq_getElem hlt
   cases hb:(q.begin l[k]).2 with
   | inl c=>
     rw[j02 ho hb]
     exact⟨ha,fun _ _=>hlt⟩
   | inr a=>
     rw[j06 ho hb]
     exact c0R d (k+1) (an++[a]) (by omega) (by rw[List.length_append,ha];rfl) hlt
section
variable{lab:Nat→Nat}{xb wb n:Nat}{ops:Nat→List P3}{oa:Nat→Option Addr}{oc:Nat→Nat}{s:GS BPl}{tb:Nat→Nat}{ov:Nat→Value}{cp:Nat→Option Addr}{av:Nat→List SA}
def m0C(lab:Nat→Nat)(i:Nat)(ov':Value)(cp':Option Addr)(r:Nat):Nat:=if ov'.ownBlock=some r then 4*i+5 else if cp'=some ⟨r,0,none⟩then 4*i+6 else lab r
theorem g0P{q:V0}{i:Nat}{ov':Value}{cp':Option Addr}{av':List SA}{P:SA→Prop}{t':GT BPl}(hi:i<n)
 (rs:RS xb wb q u) (wf:BDm q) (lx:lab xb=1) (lw:lab wb=2) (sz:W.heap.size≤u.heap.size) (old:∀r,r<W.heap.size→u.heap[r]? =W.heap[r]?) (lold:∀r,r<W.heap.size→lab r=0) (lnew:∀r,u.heap.size≤r→lab r=0)
 (th:∀j,j<n→j≠i→TH u lab q j (ops j) (oa j) (oc j) (s.th j) (tb j) (ov j) (cp j) (av j)) (hTl:tb i<u.heap.size) (lt:lab (tb i)=4*i+4) (lo:∀g,(ov i).ownBlock=some g→lab g=4*i+5)
 (hP:∀a,P a→(b9 u a.row a.an.2.2∧∀g,a.row.ownBlock=some g→lab g=3)) (hal:av'.length=t'.k) (hlt:∀c,t'.call=some c→t'.k<(ops i).length)
 (h:m0Z u u' q (tb i) (oa i) (ops i).length (oc i) (ov i) ov' cp' av' P t'):
 Kp u u' lab (m0C lab i ov' cp')∧RPB W u' (m0C lab i ov' cp') xb wb n ops oa oc (s.put i (q,t')) tb (fun j=>if j=i then ov' else ov j) (fun j=>if j=i then cp' else cp j) (fun j=>if j=i then av' else av j):=by
 have hnk:=h.nk
 have hxl:=(Array.getElem?_eq_some_iff.1 rs.o).1
 have hwl:=(Array.getElem?_eq_some_iff.1 rs.ws).1
 have hcn:∀r,cp'=some ⟨r,0,none⟩→u.heap.size≤r∧r<u'.heap.size∧∃c,u'.heap[r]? =some (.cells c 51 (0,0)):=fun r e=>by
  have hc:=h.call
  cases e2:t'.call with
  | none=>rw[e2]at hc;rw[hc]at e;cases e
  | some c=>
    rw[e2]at hc
    obtain⟨cb,rc,c1,c2,c3,_⟩:=hc
    rw[c1]at e
    cases e
    exact⟨c2,(Q3 c3),_,c3⟩
 have k1:∀r,r<u.heap.size→lab r≠4*i+4→lab r≠4*i+5→u'.heap[r]? =u.heap[r]?:=fun r hr h1 h2=>hnk.o r hr (fun e=>h1 (by rw[e];exact lt)) fun e=>h2 (lo r e)
 have k2:∀r,r<u.heap.size→lab r≠4*i+5→m0C lab i ov' cp' r=lab r:=fun r hr h1=>by
  unfold m0C
  rw[if_neg,if_neg]
  ·intro e;have:=(hcn r e).1;omega
  ·intro e
   rcases hnk.fo with f|⟨g,f,hg⟩
   ·exact h1 (lo r (f ▸ e))
   ·rw[f]at e;cases e;omega
 have hss:=hnk.sz
 refine⟨⟨hnk.sz,fun r hr h0=>⟨k1 r hr (by omega) (by omega),(k2 r hr (by omega)).trans h0⟩⟩,rs.same (k1 _ hxl (by omega) (by omega)) (k1 _ hwl (by omega) (by omega)),wf,(k2 _ hxl (by omega)).trans lx,(k2 _ hwl (by omega)).trans lw,by omega,fun r hr=>?_,fun r hr=>?_,fun r hr=>?_,fun j hj=>?_⟩
 ·have:=lold r hr
  exact(k1 r (by omega) (by omega) (by omega)).trans (old r hr)
 ·have:=lold r hr
  exact(k2 r (by omega) (by omega)).trans this
 ·unfold m0C
  rw[if_neg,if_neg]
  ·exact lnew r (by omega)
  ·intro e;have:=(hcn r e).2.1;omega
  ·intro e;have:=h.t.lt e;omega
 ·by_cases hji:j=i
  ·subst hji
   have hth:(s.put j (q,t')).th j=t':=if_pos rfl
   rw[hth]
   simp only[if_pos]
   refine⟨h.t,h.an,hal,(k2 _ hTl (by omega)).trans lt,fun g hg=>if_pos hg,fun a ha=>?_,?_⟩
   ·obtain⟨a1,a2⟩:=hP a (h.p a ha)
    refine⟨a1.at' fun g hg=>?_,fun g hg=>?_⟩
    ·have:=a2 g hg
     exact k1 g (a1.lt hg) (by omega) (by omega)
    ·have:=a2 g hg
     exact(k2 g (a1.lt hg) (by omega)).trans this
   ·have hc:=h.call
    cases e2:t'.call with
    | none=>rw[e2]at hc;exact hc
    | some c=>
      rw[e2]at hc
      obtain⟨cb,rc,c1,c2,c3,c4,c5,c6,c7⟩:=hc
      refine⟨cb,rc,c1,?_,c3,c4,c5,?_,fun g hg=>(by rw[c6]at hg;simp[Value.ownBlock]at hg),hlt c e2⟩
      ·unfold m0C
       rw[if_neg,if_pos c1]
       intro e
       exact Q9 h.t.row c3 (by decide) e.symm
      ·rw[c6,c7]
       exact⟨rfl,.inl ⟨rfl,rfl⟩⟩
  ·have hth:(s.put i (q,t')).th j=s.th j:=if_neg hji
   rw[hth]
   simp only[if_neg hji]
   exact(th j hj hji).keep (fun r hr hm=>⟨k1 r hr (a0U (Ne.symm hji) hm (by omega)) (a0U (Ne.symm hji) hm (by omega)),k2 r hr (a0U (Ne.symm hji) hm (by omega))⟩) rfl rfl
theorem h0G.next{i:Nat}{q:V0}{a:m9}(h:h0G W u lab xb wb n ops oa oc s tb ov cp av i q a)(hi:i<n)(hO:a7 W (oa i) (ops i))(hl:(ops i).length≤65536):
 Calls Tryd.prog 34 #[vP xb 0,vP (tb i) 0] u fun y u'=>∃t':GT BPl,t'=(K4 BPl ((ops i).drop ((s.th i).k+1)) q ⟨(s.th i).k+1,none,HAppend.hAppend (α:=List BPl.A) (β:=List BPl.A) (s.th i).ans [a]⟩).2∧y= .returned (.bool t'.call.isNone)∧∃lab' ov' cp' av',Kp u u' lab lab'∧RPB W u' lab' xb wb n ops oa oc (s.put i (q,t')) tb ov' cp' av':=by
 obtain⟨cb,rc,la,ll,lc,e1,e2,e3,e4,e5,e6,e7⟩:=h.end_
 have htl:=(Array.getElem?_eq_some_iff.1 h.m.o).1
 have hxl:=(Array.getElem?_eq_some_iff.1 h.rs.o).1
 have hal:=h.al
 have hlb:∀b off,oa i=some ⟨b,off,none⟩→lab b=0:=fun b off e=>h.lold b (hO.low (by omega) e)
 have hf:=c0R (q:=q) (l:=ops i) _ ((s.th i).k+1) ((av i).map SA.an++[a]) rfl (by rw[List.length_append,List.length_map,hal];rfl) e7
 rw[← h.an]
 refine(h03 (P:=fun a'=>a'∈av i∨a'=⟨a,la,ll,lc⟩∨(a'.row= .slice none 0 0∧a'.an.2.2=[])) (t':=(K4 BPl ((ops i).drop ((s.th i).k+1)) q ⟨(s.th i).k+1,none,(av i).map SA.an++[a]⟩).2) h.rs h.wf h.m (hO.olds h.old) (fun _ b off e=>⟨fun e2=>?_,fun e2=>?_⟩) hl (Nat.le_of_lt e7) hal (fun a' ha=>.inl ha) (fun an han=>.inr (.inr ⟨rfl,han⟩))
  (.inr ⟨cb,rc,a,la,ll,lc,e1,e2,e3,e4,.inr (.inl rfl),e7,rfl⟩) (fun e=>?_) (fun e=>?_)).mono fun y u' hu=>?_
 ·have:=hlb b off e;have:=h.lt;rw[← e2]at this;omega
 ·have:=hlb b off e;have:=h.lo b e2;omega
 ·have:=h.lx;have:=h.lt;rw[← e]at this;omega
 ·have:=h.lw;have:=h.lt;rw[← e]at this;omega
 ·obtain⟨hy,ov',cp',av',hN⟩:=hu
  refine⟨_,rfl,hy,_,_,_,_,g0P (u':=u') hi h.rs h.wf h.lx h.lw h.sz h.old h.lold h.lnew h.th htl h.lt h.lo (fun a' ha=>?_) ?_ hf.2 hN⟩
  ·rcases ha with ha|rfl|⟨h1,h2⟩
   ·exact h.ls a' ha
   ·refine⟨?_,?_⟩
    ·have:=e5;rw[e4]at this;exact this
    ·have:=e6;rw[e4]at this;exact this
   ·rw[h1,h2]
    exact⟨⟨rfl,.inl ⟨rfl,rfl⟩⟩,fun g hg=>by simp[Value.ownBlock]at hg⟩
  ·have:=congrArg List.length hN.an
   rw[List.length_map]at this
   exact this.trans hf.1
theorem RPB.born{i g:Nat}{u1:World}{th:GT BPl}(h:RPB W u lab xb wb i ops oa oc s tb ov cp av)(h0:s.th i=⟨0,none,[]⟩)(hs:u.heap.size≤u1.heap.size)(hk:∀r,r<u.heap.size→lab r≠0∨r<W.heap.size→u1.heap[r]? =u.heap[r]?)(hg:u.heap.size≤g)(hT:TM u1 g (oa i) (ops i).length (oc i) 0 none (.slice none 0 0) [])(hO:a7 W (oa i) (ops i))(hl:(ops i).length≤65536):
 Calls Tryd.prog 34 #[vP xb 0,vP g 0] u1 fun y u'=>∃t':GT BPl,t'=(K4 BPl (ops i) s.q ⟨0,none,[]⟩).2∧y= .returned (.bool t'.call.isNone)∧∃lab' ov' cp' av',(u1.heap.size≤u'.heap.size∧∀r,r<u1.heap.size→r≠g→lab r=0→u'.heap[r]? =u1.heap[r]?∧lab' r=0)∧RPB W u' lab' xb wb (i+1) ops oa oc (s.put i (s.q,t')) (fun j=>if j=i then g else tb j) ov' cp' av':=by
 have hb:=h.frame hs hk
 have hgl:=(Array.getElem?_eq_some_iff.1 hT.o).1
 have hz:=h.sz
 have hxl:=(Array.getElem?_eq_some_iff.1 h.rs.o).1
 have hwl:=(Array.getElem?_eq_some_iff.1 h.rs.ws).1
 have hf:=c0R (q:=s.q) (l:=ops i) _ 0 [] rfl rfl (Nat.zero_le _)
 rw[List.drop_zero]at hf
 have hlow:∀b off,oa i=some ⟨b,off,none⟩→0<(ops i).length→b<W.heap.size:=fun b off e h1=>hO.low h1 e
 have hlabs:∀r,r<u.heap.size→(fun r=>if r=g then 4*i+4 else lab r) r=lab r:=fun r hr=>if_neg (by omega)
 refine(h03 (P:=fun a'=>a'.row= .slice none 0 0∧a'.an.2.2=[]) (t':=(K4 BPl (ops i) s.q ⟨0,none,[]⟩).2) hb.rs hb.wf hT (hO.olds hb.old) (fun hp b off e=>⟨fun e2=>by have:=hlow b off e hp;omega,fun e2=>by simp[Value.ownBlock]at e2⟩) hl (Nat.zero_le _) rfl (fun a' ha=>by cases ha) (fun an han=>⟨rfl,han⟩)
  (Or.inl ⟨rfl,rfl⟩) (by omega) (by omega)).mono fun y u' hu=>?_
 ·obtain⟨hy,ov',cp',av',hN⟩:=hu
  have hnk:=g0P (W:=W) (u:=u1) (u':=u') (n:=i+1) (lab:=fun r=>if r=g then 4*i+4 else lab r) (tb:=fun j=>if j=i then g else tb j) (ov:=fun j=>if j=i then .slice none 0 0 else ov j) (cp:=cp) (av:=av) (s:=s) (q:=s.q) (i:=i) (by omega) hb.rs hb.wf (by rw[if_neg (by omega)];exact h.lx) (by rw[if_neg (by omega)];exact h.lw) hb.sz hb.old (fun r hr=>by rw[if_neg (by omega)];exact h.lold r hr) (fun r hr=>by rw[if_neg (by omega)];exact hb.lnew r hr)
   (fun j hj hne=>by
     simp only[if_neg hne]
     exact(h.th j (by omega)).keep (fun r hr hm=>⟨hk r hr (.inl (by unfold X9 at hm;omega)),hlabs r hr⟩) rfl rfl)
   (by simpa using hgl) (by simp) (fun x hx=>by simp[Value.ownBlock]at hx) (P:=fun a'=>a'.row= .slice none 0 0∧a'.an.2.2=[]) (fun a' ha=>by
     rw[ha.1,ha.2]
     exact⟨⟨rfl,.inl ⟨rfl,rfl⟩⟩,fun x hx=>by simp[Value.ownBlock]at hx⟩) (by
     have:=congrArg List.length hN.an
     rw[List.length_map]at this
     exact this.trans hf.1) hf.2 (by
     show m0Z u1 u' s.q (if i=i then g else tb i) (oa i) (ops i).length (oc i) (if i=i then .slice none 0 0 else ov i) ov' cp' av' _ _
     rw[if_pos rfl,if_pos rfl]
     exact hN)
  exact⟨_,rfl,hy,_,_,_,_,⟨hnk.1.sz,fun r hr hne h0=>hnk.1.k r hr (by rw[if_neg hne];exact h0)⟩,hnk.2⟩
end
end
section
variable{W u w1:World}{lab:Nat→Nat}{xb wb n k:Nat}{ops:Nat→List P3}{oa:Nat→Option Addr}{oc:Nat→Nat}{s:GS BPl}{tb:Nat→Nat}{ov:Nat→Value}{cp:Nat→Option Addr}{av:Nat→List SA}{la ea:Option Addr}{lc ec:Nat}
theorem o5{base n size:Nat}{e:TypeId}{v:Value}{xs:List Value}(h:u.ownsRow base e size v n xs){g:Nat}(hg:v.ownBlock=some g):g<u.heap.size∧∃c,u.heap[g]? =some (.cells c e (0,0)):=by
 rcases h.2 with⟨rfl,_⟩|⟨b,cap,cur,rfl,_,h2,_⟩
 ·simp[Value.ownBlock]at hg
 ·simp only[Value.ownBlock,Option.some.injEq]at hg
  subst hg
  exact⟨(Q3 h2),cur,h2⟩
structure RBD(W u:World)(lab:Nat→Nat)(xb wb n k:Nat)(ops:Nat→List P3)(oa:Nat→Option Addr)(oc:Nat→Nat)(s:GS BPl)(tb:Nat→Nat)(ov:Nat→Value)(cp:Nat→Option Addr)(av:Nat→List SA)(la:Option Addr)(lc:Nat)(ea:Option Addr)(ec:Nat):Prop where
 p:RPB W u lab xb wb n ops oa oc s tb ov cp av
 l:u.ownsRow 0 83 1 (.slice la n lc) n ((List.range n).map fun j=>vP (tb j) 0)
 e:u.ownsRow 0 4 1 (.slice ea k ec) k ((List.range k).map fun j=>.bool (D2 s j))
 nl:∀g,(Value.slice la n lc).ownBlock=some g→W.heap.size≤g∧lab g=0
 ne:∀g,(Value.slice ea k ec).ownBlock=some g→W.heap.size≤g∧lab g=0
theorem RBD.born(h:RBD W u lab xb wb k k ops oa oc s tb ov cp av la lc ea ec)(h0:s.th k=⟨0,none,[]⟩)(hO:a7 W (oa k) (ops k))(hl:(ops k).length≤65536){g cap:Nat}
 (hown:w1.ownsRow 0 83 1 (vL g 0 (k+1) cap) (k+1) ((List.range k).map (fun j=>Value.pointer (some ⟨tb j,0,none⟩))++[vP u.heap.size 0]))
 (hgrow:((u.alloc (.cells #[.slice (oa k) (ops k).length (oc k),vI 0,.pointer none,.slice none 0 0] 86)).alloc (.cells #[vP u.heap.size 0] 83)).grownBy w1 (Value.slice la k lc).ownBlock)
 (hfr:(Value.slice (some ⟨g,0,none⟩) (k+1) cap).ownBlock=(Value.slice la k lc).ownBlock∨∃g',(Value.slice (some ⟨g,0,none⟩) (k+1) cap).ownBlock=some g'∧u.heap.size+2≤g'):
 Calls Tryd.prog 34 #[vP xb 0,vP u.heap.size 0] w1 fun y u'=>∃t':GT BPl,t'=(K4 BPl (ops k) s.q ⟨0,none,[]⟩).2∧y= .returned (.bool t'.call.isNone)∧∃lab' ov' cp' av',RBD W u' lab' xb wb (k+1) k ops oa oc (s.put k (s.q,t')) (fun j=>if j=k then u.heap.size else tb j) ov' cp' av' (some ⟨g,0,none⟩) cap ea ec:=by
 have hgs:=hgrow.size
 simp only[World.size_alloc]at hgs
 have hz:=h.p.sz
 have hold:∀r,r<u.heap.size→(Value.slice la k lc).ownBlock≠some r→w1.heap[r]? =u.heap[r]?:=fun r hr hne=>(K3 hgrow (by simp;omega) fun e=>hne e.symm).trans (D0 _ _ hr)
 have htb:w1.heap[u.heap.size]? =some (.cells #[.slice (oa k) (ops k).length (oc k),vI 0,.pointer none,.slice none 0 0] 86 (0,0)):=
  (K3 hgrow (by simp) fun e=>by have:=(o5 h.l e.symm).1;omega).trans (heap_alloc_new _ _)
 have hgl:g<w1.heap.size:=(o5 hown rfl).1
 have hg0:W.heap.size≤g∧lab g=0∧g≠u.heap.size:=by
  rcases hfr with e|⟨g',e,hg'⟩
  ·obtain⟨q1,q2⟩:=h.nl g e.symm
   have q3:g<u.heap.size:=(o5 h.l e.symm).1
   exact⟨q1,q2,by omega⟩
  ·simp only[Value.ownBlock,Option.some.injEq]at e
   exact⟨by omega,h.p.lnew g (by omega),by omega⟩
 refine(h.p.born (g:=u.heap.size) (u1:=w1) (th:=⟨0,none,[]⟩) h0 (by omega) (fun r hr h1=>hold r hr fun e=>?_) (Nat.le_refl _) ⟨htb,⟨rfl,.inl ⟨rfl,rfl⟩⟩⟩ hO hl).mono fun y u' hu=>?_
 ·obtain⟨q1,q2⟩:=h.nl r e
  rcases h1 with h1|h1
  ·exact h1 q2
  ·omega
 ·obtain⟨t',e1,e2,lab',ov',cp',av',⟨k1,k2⟩,hB⟩:=hu
  refine⟨t',e1,e2,lab',ov',cp',av',hB,?_,?_,fun r hr=>?_,fun r hr=>?_⟩
  ·have e:(List.range (k+1)).map (fun j=>Value.pointer (some ⟨if j=k then u.heap.size else tb j,0,none⟩))=(List.range k).map (fun j=>Value.pointer (some ⟨tb j,0,none⟩))++[vP u.heap.size 0]:=by
    rw[List.range_succ,List.map_append]
    congr 1
    ·exact List.map_congr_left fun j hj=>by rw[if_neg (by have:=List.mem_range.1 hj;omega)]
    ·simp
   rw[e]
   exact p08 hown fun b c hb _=>by
    simp only[Value.ownBlock,Option.some.injEq]at hb
    subst hb
    exact(k2 g hgl hg0.2.2 hg0.2.1).1
  ·have e:(List.range k).map (fun j=>Value.bool (D2 (s.put k (s.q,t')) j))=(List.range k).map (fun j=>Value.bool (D2 s j)):=List.map_congr_left fun j hj=>by
    have:j≠k:=by have:=List.mem_range.1 hj;omega
    simp only[D2,GS.live,GS.put,if_neg this]
   rw[e]
   refine p08 h.e fun b c hb hc=>?_
   obtain⟨q1,q2⟩:=h.ne b hb
   have hbl:=(o5 h.e hb).1
   have hne:(Value.slice la k lc).ownBlock≠some b:=fun e'=>Q9 h.l hc (by decide) e'.symm
   exact(k2 b (by omega) (by omega) q2).1.trans (hold b hbl hne)
  ·simp only[Value.ownBlock,Option.some.injEq]at hr
   subst hr
   exact⟨hg0.1,(k2 g hgl hg0.2.2 hg0.2.1).2⟩
  ·obtain⟨q1,q2⟩:=h.ne r hr
   have hbl:=(o5 h.e hr).1
   exact⟨q1,(k2 r (by omega) (by omega) q2).2⟩
theorem RBD.endE(h:RBD W u lab xb wb (k+1) k ops oa oc s tb ov cp av la lc ea ec){b:Bool}(hb:b=D2 s k){g cap:Nat}(hown:w1.ownsRow 0 4 1 (vL g 0 (k+1) cap) (k+1) ((List.range k).map (fun j=>Value.bool (D2 s j))++[.bool b]))
 (hgrow:(u.alloc (.cells #[.bool b] 4)).grownBy w1 (Value.slice ea k ec).ownBlock) (hfr:(Value.slice (some ⟨g,0,none⟩) (k+1) cap).ownBlock=(Value.slice ea k ec).ownBlock∨∃g',(Value.slice (some ⟨g,0,none⟩) (k+1) cap).ownBlock=some g'∧u.heap.size+1≤g'):
 RBD W w1 lab xb wb (k+1) (k+1) ops oa oc s tb ov cp av la lc (some ⟨g,0,none⟩) cap:=by
 have hgs:=hgrow.size
 simp only[World.size_alloc]at hgs
 have hz:=h.p.sz
 have hold:∀r,r<u.heap.size→(Value.slice ea k ec).ownBlock≠some r→w1.heap[r]? =u.heap[r]?:=fun r hr hne=>K3 hgrow hr fun e=>hne e.symm
 refine⟨h.p.frame (by omega) fun r hr h1=>hold r hr fun e=>?_,p08 h.l fun b' c hb' hc=>?_,?_,h.nl,fun r hr=>?_⟩
 ·obtain⟨q1,q2⟩:=h.ne r e
  rcases h1 with h1|h1
  ·exact h1 q2
  ·omega
 ·exact hold b' (o5 h.l hb').1 fun e'=>Q9 h.e hc (by decide) e'.symm
 ·have e:(List.range (k+1)).map (fun j=>Value.bool (D2 s j))=(List.range k).map (fun j=>Value.bool (D2 s j))++[.bool b]:=by
   rw[List.range_succ,List.map_append,hb]
   rfl
  rw[e]
  exact hown
 ·rcases hfr with e|⟨g',e,hg'⟩
  ·exact h.ne r (e.symm.trans hr)
  ·rw[e]at hr
   cases hr
   exact⟨by omega,h.p.lnew _ (by omega)⟩
end
noncomputable section
def I4:Code:=Tryd.f10.body.getD .skip
def v0P:=pC [zf] I4
def v0Q:=pC [zf] v0P
def v0R:=pC [zf] v0Q
def v0S:=pC [zf] v0R
def v0U:=pC [zf] v0S
def v0W:=pC [zf] v0U
def v0X:=pC [zf] v0W
def y0G:=pC [zf] v0X
def rps9:=pC [zf,zf,zf,zf,zf,zf,zf,zf,zf] I4
def rpr0:=pC [zt] I4
def rpr1:=pC [zf,zt] I4
def rpr2:=pC [zf,zf,zt] I4
def rpr3:=pC [zf,zf,zf,zt] I4
def rpb0:=pC [zf,zf,zf,zf,zt] I4
def rpr10:=pC [zf,zf,zf,zf,zf,zt] I4
def rpb2:=pC [zf,zf,zf,zf,zf,zf,zt] I4
def rpr15:=pC [zf,zf,zf,zf,zf,zf,zf,zt] I4
def rpb4:=pC [zf,zf,zf,zf,zf,zf,zf,zf,zt] I4
theorem s0S:I4= .seq rpr0 v0P:=by kernel_rfl
theorem y0n:v0P= .seq rpr1 v0Q:=by kernel_rfl
theorem y0o:v0Q= .seq rpr2 v0R:=by kernel_rfl
theorem y0p:v0R= .seq rpr3 v0S:=by kernel_rfl
theorem y0q:v0S= .seq rpb0 v0U:=by kernel_rfl
theorem y0r:v0U= .seq rpr10 v0W:=by kernel_rfl
theorem y0s:v0W= .seq rpb2 v0X:=by kernel_rfl
theorem y0v:v0X= .seq rpr15 y0G:=by kernel_rfl
theorem y06:y0G= .seq rpb4 rps9:=by kernel_rfl
def rpT(s:Nat→Value):Array Value:= #[s 0,s 1,s 2,s 3,s 4,s 5,s 6,s 7,s 8,s 9,s 10,s 11,s 12,s 13,s 14,s 15,s 16,s 17,s 18,s 19,s 20,s 21,s 22,s 23,s 24,s 25,s 26,s 27,s 28,s 29,s 30,s 31,s 32,s 33,s 34,s 35,s 36,s 37,s 38,s 39,s 40,s 41,s 42,s 43,s 44,s 45,s 46,s 47,s 48,s 49,s 50,s 51,s 52,s 53,s 54,s 55,s 56,s 57,s 58,s 59,s 60,s 61,s 62,s 63,s 64,s 65,s 66,s 67,s 68,s 69,s 70,s 71,s 72,s 73,s 74,s 75,s 76,s 77,s 78,s 79,s 80,s 81,s 82,s 83,s 84,s 85,s 86,s 87,s 88,s 89,s 90,s 91,s 92,s 93,s 94,s 95,s 96,s 97,s 98,s 99,s 100,s 101,s 102]
theorem d0W{A:Array Value}(h:A.size=103):∃s,A=rpT s:=by
 obtain⟨s,hs,_⟩:=Y4 A h
 exact⟨s,hs⟩
theorem t0z{P:Program}{a b:Code}{Q:Exit→Act→World→Prop}{x:Act}{w:World}(h:a.wp P (Exit.then (fun a' w'=>b.wp P Q a' w') Q) x w):(Code.seq a b).wp P Q x w:=by
 apply wp_seq_k
 intro K hK
 exact wp_mono h fun e a' w' hq=>by
  cases e<;>first|exact hK _ _ hq|exact hq
end
section
variable{w w':World}
theorem a9{P:Program}{a b:Code}{Q:Exit→Act→World→Prop}{x:Act}{w:World}(h:a.wp P (F7 fun a' w'=>b.wp P Q a' w') x w):(Code.seq a b).wp P Q x w:=
 t0z (wp_mono h fun e a' w' hq=>by cases e<;>first|exact hq|exact hq.elim)
theorem z0e{A:Array Value}{a0 a1 a2 a3:Value}(hA:G0 103 A [(0,a0),(1,a1),(2,a2),(3,a3)]){Q:Act→World→Prop}
 (hQ:∀A',G0 103 A' [(0,a0),(1,a1),(2,a2),(3,a3),(8,vP w.heap.size 0)]→Q ⟨A',[]⟩ (w.alloc (.cells #[.slice none 0 0,.slice none 0 0,.slice none 0 0,.bool false] 29))):rpr0.wp Tryd.prog (F7 Q) ⟨A,[]⟩ w:=by
 obtain⟨hsz,h0,h1,h2,h3,_⟩:=hA
 obtain⟨s,rfl⟩:=d0W hsz
 change s 0=_ at h0
 change s 1=_ at h1
 change s 2=_ at h2
 change s 3=_ at h3
 have HQ:Aside (∀A',G0 103 A' [(0,a0),(1,a1),(2,a2),(3,a3),(8,vP w.heap.size 0)]→Q ⟨A',[]⟩ (w.alloc (.cells #[.slice none 0 0,.slice none 0 0,.slice none 0 0,.bool false] 29))):=hQ
 clear hsz hQ
 simp only[rpr0,I4,pC,Tryd.f10,Option.getD_some,rpT,h0,h1,h2,h3]
 clear h0 h1 h2 h3
 go_wp2
 exact HQ.out _ ⟨rfl,rfl,rfl,rfl,rfl,rfl,trivial⟩
theorem z0f{A:Array Value}{a0 a1 a2 a3 v8:Value}{R:Nat→World→Prop}(hC:Calls Tryd.prog 31 #[a0] w fun e w'=>∃rq,e= .returned (vP rq 0)∧R rq w')(hA:G0 103 A [(0,a0),(1,a1),(2,a2),(3,a3),(8,v8)]){Q:Act→World→Prop}
 (hQ:∀A' rq w',G0 103 A' [(1,a1),(2,a2),(3,a3),(8,v8),(9,vP rq 0)]→R rq w'→Q ⟨A',[]⟩ w'):rpr1.wp Tryd.prog (F7 Q) ⟨A,[]⟩ w:=by
 obtain⟨hsz,h0,h1,h2,h3,h8,_⟩:=hA
 obtain⟨s,rfl⟩:=d0W hsz
 change s 0=_ at h0
 change s 1=_ at h1
 change s 2=_ at h2
 change s 3=_ at h3
 change s 8=_ at h8
 have HQ:Aside (∀A' rq w',G0 103 A' [(1,a1),(2,a2),(3,a3),(8,v8),(9,vP rq 0)]→R rq w'→Q ⟨A',[]⟩ w'):=hQ
 have H:Aside (Calls Tryd.prog 31 #[a0] w fun e w'=>∃rq,e= .returned (vP rq 0)∧R rq w'):=hC
 clear hsz hQ hC
 simp only[rpr1,I4,pC,Tryd.f10,Option.getD_some,rpT,h0,h1,h2,h3,h8]
 clear h0 h1 h2 h3 h8
 go_wp2_with (fail)
 go_at_call 31
 refine H.out.mono ?_
 rintro e w1 ⟨rq,rfl,hR⟩
 have R1:Aside (R rq w1):=hR
 clear hR
 go_wp2
 exact HQ.out _ _ _ ⟨rfl,rfl,rfl,rfl,rfl,rfl,trivial⟩ R1.out
theorem z0l{A:Array Value}{a1 a2 a3 v8 v9:Value}(hA:G0 103 A [(1,a1),(2,a2),(3,a3),(8,v8),(9,v9)]){Q:Act→World→Prop}
 (hQ:∀A',G0 103 A' [(1,a1),(2,a2),(3,a3),(8,v8),(9,v9),(10,.slice none 0 0)]→Q ⟨A',[]⟩ w):rpr2.wp Tryd.prog (F7 Q) ⟨A,[]⟩ w:=by
 obtain⟨hsz,h1,h2,h3,h8,h9,_⟩:=hA
 obtain⟨s,rfl⟩:=d0W hsz
 change s 1=_ at h1
 change s 2=_ at h2
 change s 3=_ at h3
 change s 8=_ at h8
 change s 9=_ at h9
 have HQ:Aside (∀A',G0 103 A' [(1,a1),(2,a2),(3,a3),(8,v8),(9,v9),(10,.slice none 0 0)]→Q ⟨A',[]⟩ w):=hQ
 clear hsz hQ
 simp only[rpr2,I4,pC,Tryd.f10,Option.getD_some,rpT,h1,h2,h3,h8,h9]
 clear h1 h2 h3 h8 h9
 go_wp2
 exact HQ.out _ ⟨rfl,rfl,rfl,rfl,rfl,rfl,rfl,trivial⟩
theorem z0q{A:Array Value}{a1 a2 a3 v8 v9 v10:Value}(hA:G0 103 A [(1,a1),(2,a2),(3,a3),(8,v8),(9,v9),(10,v10)]){Q:Act→World→Prop}
 (hQ:∀A',G0 103 A' [(1,a1),(2,a2),(3,a3),(8,v8),(9,v9),(10,v10),(11,.slice none 0 0)]→Q ⟨A',[]⟩ w):rpr3.wp Tryd.prog (F7 Q) ⟨A,[]⟩ w:=by
 obtain⟨hsz,h1,h2,h3,h8,h9,h10,_⟩:=hA
 obtain⟨s,rfl⟩:=d0W hsz
 change s 1=_ at h1
 change s 2=_ at h2
 change s 3=_ at h3
 change s 8=_ at h8
 change s 9=_ at h9
 change s 10=_ at h10
 have HQ:Aside (∀A',G0 103 A' [(1,a1),(2,a2),(3,a3),(8,v8),(9,v9),(10,v10),(11,.slice none 0 0)]→Q ⟨A',[]⟩ w):=hQ
 clear hsz hQ
 simp only[rpr3,I4,pC,Tryd.f10,Option.getD_some,rpT,h1,h2,h3,h8,h9,h10]
 clear h1 h2 h3 h8 h9 h10
 go_wp2
 exact HQ.out _ ⟨rfl,rfl,rfl,rfl,rfl,rfl,rfl,rfl,trivial⟩
theorem y0l{A:Array Value}{a2 a3 v8 v9 v10 v11:Value}{R:Nat→World→Prop}(hC:Calls Tryd.prog 35 #[a2,a3] w fun e w'=>∃ub,e= .returned (vP ub 0)∧R ub w')(hA:G0 103 A [(2,a2),(3,a3),(8,v8),(9,v9),(10,v10),(11,v11)]){Q:Act→World→Prop}
 (hQ:∀A' ub w',G0 103 A' [(8,v8),(9,v9),(10,v10),(11,v11),(14,vP ub 0)]→R ub w'→Q ⟨A',[]⟩ w'):rpr10.wp Tryd.prog (F7 Q) ⟨A,[]⟩ w:=by
 obtain⟨hsz,h2,h3,h8,h9,h10,h11,_⟩:=hA
 obtain⟨s,rfl⟩:=d0W hsz
 change s 2=_ at h2
 change s 3=_ at h3
 change s 8=_ at h8
 change s 9=_ at h9
 change s 10=_ at h10
 change s 11=_ at h11
 have HQ:Aside (∀A' ub w',G0 103 A' [(8,v8),(9,v9),(10,v10),(11,v11),(14,vP ub 0)]→R ub w'→Q ⟨A',[]⟩ w'):=hQ
 have H:Aside (Calls Tryd.prog 35 #[a2,a3] w fun e w'=>∃ub,e= .returned (vP ub 0)∧R ub w'):=hC
 clear hsz hQ hC
 simp only[rpr10,I4,pC,Tryd.f10,Option.getD_some,rpT,h2,h3,h8,h9,h10,h11]
 clear h2 h3 h8 h9 h10 h11
 go_wp2_with (fail)
 go_at_call 35
 refine H.out.mono ?_
 rintro e w1 ⟨rq,rfl,hR⟩
 have R1:Aside (R rq w1):=hR
 clear hR
 go_wp2
 exact HQ.out _ _ _ ⟨rfl,rfl,rfl,rfl,rfl,rfl,trivial⟩ R1.out
end
section
variable{W w w':World}
theorem r0o:∃i z,Tryd.prog.info? 83=some i∧i.zero=some z∧i.size=1∧i.bytes=8∧z.cells.size=1:=g03 (by kernel_rfl)
theorem r0l:∃i z,Tryd.prog.info? 4=some i∧i.zero=some z∧i.size=1∧i.bytes=1∧z.cells.size=1:=g03 (by kernel_rfl)
theorem f0q{m:Pl}{ops:Nat→List P3}{s:GS m}:∀k j,k≤j→(N6 m ops k s).th j=s.th j
 | 0,j,_=>rfl
 | k+1,j,h=>by
   show(if j=k then _ else(N6 m ops k s).th j)=_
   rw[if_neg (by omega)]
   exact f0q k j (by omega)
theorem f0o{ops:Nat→List P3}{s:GS BPl}{k:Nat}(h:(N6 BPl ops k s).th k=⟨0,none,[]⟩):N6 BPl ops (k+1) s=(N6 BPl ops k s).put k ((N6 BPl ops k s).q,(K4 BPl (ops k) (N6 BPl ops k s).q ⟨0,none,[]⟩).2):=by
 have e:N6 BPl ops (k+1) s=(N6 BPl ops k s).put k (K4 BPl (ops k) (N6 BPl ops k s).q ((N6 BPl ops k s).th k)):=rfl
 rw[e,h]
 exact congrArg _ (Prod.ext (m07 _ _ _) rfl)
theorem m0K{A:Array Value}{vs:List Int}{n b0 o tl tc xb wb:Nat}{lab0:Nat→Nat}{ops:Nat→List P3}{oa:Nat→Option Addr}{oc:Nat→Nat}{ta:Option Addr}{sv mv v8:Value}{ol0:Nat→Nat}{tb0:Nat→Nat}{ov0:Nat→Value}{cp0:Nat→Option Addr}{av0:Nat→List SA}(hn64:n≤64)(hnt:min tl 64=n)(htl:tl<1000000000000)(hta:0<n→ta=some ⟨b0,o,none⟩)(htb:0<n→b0<W.heap.size)
 (hth:∀j,j<n→W.cell? ⟨b0,o+j,none⟩=some (.slice (oa j) (ol0 j) (oc j))∧ol0 j≤oc j∧ol0 j<1000000000000∧(ops j).length=min (ol0 j) 65536∧(0<ol0 j→∃b o,oa j=some ⟨b,o,none⟩)) (hops:∀j,j<n→a7 W (oa j) (ops j))
 (hR:RBD W w lab0 xb wb 0 0 ops oa oc (bs0 vs) tb0 ov0 cp0 av0 none 0 none 0) (hA:G0 103 A [(1,.slice ta tl tc),(2,sv),(3,mv),(8,v8),(9,vP xb 0),(10,.slice none 0 0),(11,.slice none 0 0)]) {Q:Act→World→Prop}
 (hQ:∀A' w' lab tb ov cp av la lc ea ec,G0 103 A' [(2,sv),(3,mv),(8,v8),(9,vP xb 0),(10,.slice la n lc),(11,.slice ea n ec)]→RBD W w' lab xb wb n n ops oa oc (N6 BPl ops n (bs0 vs)) tb ov cp av la lc ea ec→Q ⟨A',[]⟩ w'):rpb0.wp Tryd.prog (F7 Q) ⟨A,[]⟩ w:=by
 obtain⟨i1,z1,hi1,hz10,hz11,hz12,hz13⟩:=r0o
 obtain⟨i2,z2,hi2,hz20,hz21,hz22,hz23⟩:=r0l
 obtain⟨s,rfl,h1,h2,h3,h8,h9,h10,h11,_⟩:=Y3 rpT hA
 have HT:Aside (∀u:World,Calls Tryd.prog 32 #[vI tl] u fun x w'=>x= .returned (vI n)∧w'=u):=fun u=>by
  have:=i0u (w:=u) htl
  rw[hnt]at this
  exact this
 have HO:Aside (∀k,k<n→∀u:World,Calls Tryd.prog 33 #[.slice (oa k) (ol0 k) (oc k)] u fun x w'=>x= .returned (.slice (oa k) (ops k).length (oc k))∧w'=u):=fun k hk u=>by
  obtain⟨_,g2,g3,g4,g5⟩:=hth k hk
  rw[g4]
  exact r0s g2 g5 g3
 have HI:Aside ((0<n→ta=some ⟨b0,o,none⟩)∧(0<n→b0<W.heap.size)∧(∀j,j<n→W.cell? ⟨b0,o+j,none⟩=some (.slice (oa j) (ol0 j) (oc j)))∧(∀j,j<n→a7 W (oa j) (ops j))∧∀j,j<n→(ops j).length≤65536):=⟨hta,htb,fun j hj=>(hth j hj).1,hops,fun j hj=>by have:=(hth j hj).2.2.2.1;omega⟩
 have H0:Aside (∀k,(N6 BPl ops k (bs0 vs)).th k=⟨0,none,[]⟩):=fun k=>f0q k k (Nat.le_refl _)
 have R0:Aside (RBD W w lab0 xb wb 0 0 ops oa oc (bs0 vs) tb0 ov0 cp0 av0 none 0 none 0):=hR
 have HQ:Aside (∀A' w' lab tb ov cp av la lc ea ec,G0 103 A' [(2,sv),(3,mv),(8,v8),(9,vP xb 0),(10,.slice la n lc),(11,.slice ea n ec)]→RBD W w' lab xb wb n n ops oa oc (N6 BPl ops n (bs0 vs)) tb ov cp av la lc ea ec→Q ⟨A',[]⟩ w'):=hQ
 have hntl:n≤tl:=by omega
 clear hta htb hth hops hR hQ hnt
 simp only[rpb0,I4,pC,Tryd.f10,Option.getD_some,rpT,h1,h2,h3,h8,h9,h10,h11]
 clear h1 h2 h3 h8 h9 h10 h11
 go_wp2
 go_loopg [10,11,12] n (fun g l e x wr=>∃k lab tb ov cp av la lc ea ec,l= .slice la k lc∧e= .slice ea k ec∧x=vI (k:Nat)∧k≤n∧g=n - k∧RBD W wr lab xb wb k k ops oa oc (N6 BPl ops k (bs0 vs)) tb ov cp av la lc ea ec)
 case atStart=>exact⟨0,lab0,tb0,ov0,cp0,av0,none,0,none,0,rfl,rfl,rfl,Nat.zero_le _,rfl,R0.out⟩
 case round=>
  obtain⟨k,lab,tb,ov,cp,av,la,lc,ea,ec,rfl,rfl,rfl,hkn,rfl,hB⟩:=hrel
  have B0:Aside (RBD W wr lab xb wb k k ops oa oc (N6 BPl ops k (bs0 vs)) tb ov cp av la lc ea ec):=hB
  clear hB
  go_wp2_with (fail)
  go_at_call 32
  refine(HT.out wr).mono ?_
  rintro e u ⟨rfl,hu⟩
  rw[hu]
  clear hu u
  rcases Nat.lt_or_ge k n with hlt|hge
  ·have hktl:k<tl:=by omega
   obtain⟨rfl⟩:ta=some ⟨b0,o,none⟩:=HI.out.1 (by omega)
   have f0:wr.cell? ⟨b0,o+k,none⟩=some (.slice (oa k) (ol0 k) (oc k)):=(Z2 (B0.out.p.old b0 (HI.out.2.1 (by omega)))).1.trans (HI.out.2.2.1 k hlt)
   have hwr:IntKind.i64.wrap ((k:Int)+1)=(k:Int)+1:=IntWalk.i64_in _ (by omega)
   go_wp2_with (fail)
   go_at_call 33
   refine(HO.out k hlt wr).mono ?_
   rintro e u ⟨rfl,hu⟩
   rw[hu]
   clear hu u f0
   have hrow:=B0.out.l
   go_wp2_with (at_builtin;refine I3 rfl (.tmp 35) (.tmp 37) 81 rfl 83 i1 z1 1 8 Tryd.underlying81 hi1 hz10 hz11 hz12 hz13 (by decide) (.slice la k lc) k ((List.range k).map fun j=>vP (tb j) 0) rfl ?c0 ⟨wr.heap.size+1,0,none⟩ 1 1 [vP wr.heap.size 0] rfl rfl ?c1 ?c2 ?c3 ?c4 ?_)
   case c0=>exact World.ownsRow.alloc (World.ownsRow.alloc hrow _) _
   case c1=>exact c0b (X:=wr.alloc (.cells #[.slice (oa k) (ops k).length (oc k),vI 0,.pointer none,.slice none 0 0] 86)) (l:=[vP wr.heap.size 0]) (by simp)
   case c2=>intro u hu;simp at hu;subst hu;rfl
   case c3=>unfold maxLen;omega
   case c4=>omega
   ·intro v' w1 hown hgrow hfr
    obtain⟨g,cap,rfl⟩:=j5 hown
    have C1:Aside (Calls Tryd.prog 34 #[vP xb 0,vP wr.heap.size 0] w1 fun y u'=>∃t':GT BPl,t'=(K4 BPl (ops k) (N6 BPl ops k (bs0 vs)).q ⟨0,none,[]⟩).2∧y= .returned (.bool t'.call.isNone)∧∃lab' ov' cp' av',RBD W u' lab' xb wb (k+1) k ops oa oc ((N6 BPl ops k (bs0 vs)).put k ((N6 BPl ops k (bs0 vs)).q,t')) (fun j=>if j=k then wr.heap.size else tb j) ov' cp' av' (some ⟨g,0,none⟩) cap ea ec):=
     B0.out.born (H0.out k) (HI.out.2.2.2.1 k hlt) (HI.out.2.2.2.2 k hlt) hown hgrow (hfr.imp id fun⟨g',e1,e2⟩=>⟨g',e1,by simpa using e2⟩)
    clear hown hgrow hfr hrow
    go_wp2_with (fail)
    go_at_call 34
    refine C1.out.mono ?_
    rintro e w2 ⟨t',ht',rfl,lab2,ov2,cp2,av2,hB2⟩
    have B2:Aside (RBD W w2 lab2 xb wb (k+1) k ops oa oc (N6 BPl ops (k+1) (bs0 vs)) (fun j=>if j=k then wr.heap.size else tb j) ov2 cp2 av2 (some ⟨g,0,none⟩) cap ea ec):=by
     have:RBD W w2 lab2 xb wb (k+1) k ops oa oc (N6 BPl ops (k+1) (bs0 vs)) (fun j=>if j=k then wr.heap.size else tb j) ov2 cp2 av2 (some ⟨g,0,none⟩) cap ea ec:=by
      rw[f0o (H0.out k),← ht']
      exact hB2
     exact this
    have hbe:t'.call.isNone=D2 (N6 BPl ops (k+1) (bs0 vs)) k:=by
     rw[f0o (H0.out k),← ht']
     simp only[D2,GS.live,GS.put,if_true]
     cases t'.call<;>rfl
    generalize t'.call.isNone=b at hbe ⊢
    have E2:Aside (b=D2 (N6 BPl ops (k+1) (bs0 vs)) k):=hbe
    have hrow3:=B2.out.e
    clear hB2 hbe ht' C1
    go_wp2_with (at_builtin;refine I3 rfl (.tmp 39) (.tmp 43) 69 rfl 4 i2 z2 1 1 Tryd.underlying69 hi2 hz20 hz21 hz22 hz23 (by decide) (.slice ea k ec) k ((List.range k).map fun j=>.bool (D2 (N6 BPl ops (k+1) (bs0 vs)) j)) rfl ?d0 ⟨w2.heap.size,0,none⟩ 1 1 [.bool b] rfl rfl ?d1 ?d2 ?d3 ?d4 ?_)
    case d0=>exact World.ownsRow.alloc hrow3 _
    case d1=>exact c0b (X:=w2) (l:=[.bool b]) rfl
    case d2=>intro u hu;simp at hu;subst hu;rfl
    case d3=>unfold maxLen;omega
    case d4=>omega
    ·intro v3 w3 hown3 hgrow3 hfr3
     obtain⟨g3,cap3,rfl⟩:=j5 hown3
     have B3:Aside (RBD W w3 lab2 xb wb (k+1) (k+1) ops oa oc (N6 BPl ops (k+1) (bs0 vs)) (fun j=>if j=k then wr.heap.size else tb j) ov2 cp2 av2 (some ⟨g,0,none⟩) cap (some ⟨g3,0,none⟩) cap3):=B2.out.endE E2.out hown3 hgrow3 (hfr3.imp id fun⟨g',e1,e2⟩=>⟨g',e1,by simpa using e2⟩)
     clear hown3 hgrow3 hfr3 hrow3 B2 E2
     go_wp2
     go_roundg (n - (k+1))
     case measure=>omega
     case rel=>exact⟨k+1,lab2,_,ov2,cp2,av2,_,cap,_,cap3,rfl,rfl,rfl,hlt,rfl,B3.out⟩
  ·obtain rfl:k=n:=by omega
   go_wp2
   exact HQ.out _ _ _ _ _ _ _ _ _ _ _ ⟨rfl,rfl,rfl,rfl,rfl,rfl,rfl,trivial⟩ B0.out
end
section
variable{W u u':World}{lab lab':Nat→Nat}{xb wb n:Nat}{ops:Nat→List P3}{oa:Nat→Option Addr}{oc:Nat→Nat}{s:GS BPl}{tb:Nat→Nat}{ov:Nat→Value}{cp:Nat→Option Addr}{av:Nat→List SA}
def Mid(W u:World)(lab:Nat→Nat)(xb wb n:Nat)(ops:Nat→List P3)(oa:Nat→Option Addr)(oc:Nat→Nat)(s:GS BPl)(tb:Nat→Nat)(ov:Nat→Value)(cp:Nat→Option Addr)(av:Nat→List SA)(y:Nat)(r:V0×BRs):Prop:=match r with
 | (q',.inl c')=>RPB W u lab xb wb n ops oa oc (s.put y (q',⟨(s.th y).k,some c',(s.th y).ans⟩)) tb ov cp av
 | (q',.inr a)=>h0G W u lab xb wb n ops oa oc s tb ov cp av y q' a
theorem RPB.turn1(h:RPB W u lab xb wb n ops oa oc s tb ov cp av){y:Nat}(hy:y<n){c:p9}(hc:(s.th y).call=some c):
 ∃cb,u.cell? ⟨tb y,2,none⟩=some (vP cb 0)∧Calls Tryd.prog 14 #[vP xb 0,vP cb 0] u fun e u'=>e= .returned (.tuple #[])∧∃lab',Kp u u' lab lab'∧Mid W u' lab' xb wb n ops oa oc s tb ov cp av y (V0.step s.q c):=by
 have hT:=h.th y hy
 have hcl:=hT.call
 rw[hc]at hcl
 obtain⟨cb,rc,c1,c2,c3,c4,c5,c6,c7,c8⟩:=hcl
 have ht2:=(V1 hT.m.o (j:=2) rfl).1
 rw[c1]at ht2
 refine⟨cb,ht2,(q0r h.rs h.wf c3 c4 c5 c6 (fun e=>?_) (fun e=>?_)).mono fun e u' hu=>⟨hu.1,?_⟩⟩
 ·have:=h.lw;rw[← e]at this;omega
 ·have:=h.lx;rw[← e]at this;omega
 ·obtain⟨lab',k1,k2⟩:=h.step hy hc c1 c2 c7 c8 hu.2
  exact⟨lab',k1,k2⟩
theorem Mid.turn2{y:Nat}{c:p9}(h:Mid W u lab xb wb n ops oa oc s tb ov cp av y (V0.step s.q c))(hy:y<n)(hc:(s.th y).call=some c)(hO:a7 W (oa y) (ops y))(hl:(ops y).length≤65536):
 Calls Tryd.prog 34 #[vP xb 0,vP (tb y) 0] u fun e u'=>e= .returned (.bool (stpG BPl (ops y) s.q (s.th y)).2.call.isNone)∧∃lab' ov' cp' av',Kp u u' lab lab'∧RPB W u' lab' xb wb n ops oa oc (s.put y (stpG BPl (ops y) s.q (s.th y))) tb ov' cp' av':=by
 have hst:∀q' r,V0.step s.q c=(q',r)→BPl.stp s.q c=(q',r):=fun _ _ e=>e
 rcases e:V0.step s.q c with⟨q',r⟩
 rw[e]at h
 cases r with
 | inl c'=>
   have hs:=e0f (m:=BPl) (ops:=ops y) hc (hst _ _ e)
   rw[hs]
   have hB:RPB W u lab xb wb n ops oa oc (s.put y (q',⟨(s.th y).k,some c',(s.th y).ans⟩)) tb ov cp av:=h
   have hT:=hB.th y hy
   have hth:(s.put y (q',⟨(s.th y).k,some c',(s.th y).ans⟩)).th y=⟨(s.th y).k,some c',(s.th y).ans⟩:=if_pos rfl
   rw[hth]at hT
   obtain⟨cb,rc,c1,c2,c3,c4,c5,c6,c7,c8⟩:=hT.call
   have hm:=hT.m
   rw[c1]at hm
   exact(m0F hm c3 c4.done c8).mono fun e u' hu=>⟨hu.1,lab,ov,cp,av,⟨by rw[hu.2];exact Nat.le_refl _,fun r _ h0=>⟨by rw[hu.2],h0⟩⟩,hB.dead hu.2⟩
 | inr a=>
   have hs:=h0D (m:=BPl) (ops:=ops y) hc (hst _ _ e)
   rw[hs]
   have hP:h0G W u lab xb wb n ops oa oc s tb ov cp av y q' a:=h
   refine(hP.next hy hO hl).mono fun e u' hu=>?_
   obtain⟨t',e1,e2,lab',ov',cp',av',k1,k2⟩:=hu
   have e3:K4 BPl ((ops y).drop ((s.th y).k+1)) q' ⟨(s.th y).k+1,none,HAppend.hAppend (α:=List BPl.A) (β:=List BPl.A) (s.th y).ans [a]⟩=(q',t'):=Prod.ext (m07 _ _ _) e1.symm
   refine⟨?_,lab',ov',cp',av',k1,?_⟩
   ·rw[e2]
    exact congrArg (fun z:GT BPl=>Ending.returned (Value.bool z.call.isNone)) (congrArg Prod.snd e3).symm
   ·have e4:=congrArg (fun z=>GS.put s y z) e3
    have e5:RPB W u' lab' xb wb n ops oa oc (GS.put s y (K4 BPl ((ops y).drop ((s.th y).k+1)) q' ⟨(s.th y).k+1,none,HAppend.hAppend (α:=List BPl.A) (β:=List BPl.A) (s.th y).ans [a]⟩)) tb ov' cp' av':=by
     rw[e3]
     exact k2
    exact e5
end
section
variable{W u u':World}{lab lab':Nat→Nat}{xb wb n:Nat}{ops:Nat→List P3}{oa:Nat→Option Addr}{oc:Nat→Nat}{s:GS BPl}{tb:Nat→Nat}{ov:Nat→Value}{cp:Nat→Option Addr}{av:Nat→List SA}
 {la ea ta:Option Addr} {lc ec tc ub M p rd:Nat} {e:Nat→Bool} {tv:Value} {order:List Nat} {S:List Int}
structure RX(W u:World)(lab:Nat→Nat)(n:Nat)(tb:Nat→Nat)(e:Nat→Bool)(la:Option Addr)(lc:Nat)(ea:Option Addr)(ec:Nat)(ub:Nat)(ta:Option Addr)(tc M p rd:Nat)(tv:Value)(order:List Nat)(S:List Int):Prop where
 l:u.ownsRow 0 83 1 (.slice la n lc) n ((List.range n).map fun j=>vP (tb j) 0)
 e:u.ownsRow 0 4 1 (.slice ea n ec) n ((List.range n).map fun j=>.bool (e j))
 t:D7 u ub ta S.length tc M p rd tv order
 s:u.ownsRow 0 3 1 (.slice ta S.length tc) S.length (S.map fun i:Int=>Value.int .i64 i)
 nl:∀g,(Value.slice la n lc).ownBlock=some g→W.heap.size≤g∧lab g=0
 ne:∀g,(Value.slice ea n ec).ownBlock=some g→W.heap.size≤g∧lab g=0
 nu:W.heap.size≤ub∧lab ub=0
 ns:∀g,(Value.slice ta S.length tc).ownBlock=some g→W.heap.size≤g∧lab g=0
 no:∀g,tv.ownBlock=some g→W.heap.size≤g∧lab g=0
 dj:∀g,tv.ownBlock=some g→(Value.slice ta S.length tc).ownBlock≠some g
theorem RX.kp(h:RX W u lab n tb e la lc ea ec ub ta tc M p rd tv order S)(k:Kp u u' lab lab'):RX W u' lab' n tb e la lc ea ec ub ta tc M p rd tv order S:=by
 have hub:=(Array.getElem?_eq_some_iff.1 h.t.o).1
 have k1:∀{base n size:Nat} {ty:TypeId} {v:Value} {xs:List Value},u.ownsRow base ty size v n xs→(∀g,v.ownBlock=some g→W.heap.size≤g∧lab g=0)→u'.ownsRow base ty size v n xs∧∀g,v.ownBlock=some g→W.heap.size≤g∧lab' g=0:=fun hr hz=>
  ⟨p08 hr fun b c hb _=>(k.k b (o5 hr hb).1 (hz b hb).2).1,fun g hg=>⟨(hz g hg).1,(k.k g (o5 hr hg).1 (hz g hg).2).2⟩⟩
 exact⟨(k1 h.l h.nl).1,(k1 h.e h.ne).1,⟨(k.k ub hub h.nu.2).1.trans h.t.o,(k1 h.t.row h.no).1⟩,(k1 h.s h.ns).1,(k1 h.l h.nl).2,(k1 h.e h.ne).2,⟨h.nu.1,(k.k ub hub h.nu.2).2⟩,(k1 h.s h.ns).2,(k1 h.t.row h.no).2,h.dj⟩
theorem Kp.heap(hu:u'.heap=u.heap):Kp u u' lab lab:=⟨by rw[hu];exact Nat.le_refl _,fun r _ h0=>⟨by rw[hu],h0⟩⟩
theorem RX.picked{y p1 r1:Nat}{tv':Value}(hB:RPB W u lab xb wb n ops oa oc s tb ov cp av)(h:RX W u lab n tb e la lc ea ec ub ta tc M p rd tv order S)(h1:D7 u' ub ta S.length tc M p1 r1 tv' (order++[y]))(hK:m00 u u' ub tv tv'):
 RPB W u' lab xb wb n ops oa oc s tb ov cp av∧RX W u' lab n tb e la lc ea ec ub ta tc M p1 r1 tv' (order++[y]) S:=by
 have hz:=hB.sz
 have hkeep:∀r,r<u.heap.size→r≠ub→tv.ownBlock≠some r→u'.heap[r]? =u.heap[r]?:=fun r hr h1 h2=>hK.old r hr h1 fun e=>h2 e.symm
 have ht:∀{b:Nat} {c:Array Value} {ty:TypeId},u.heap[b]? =some (.cells c ty (0,0))→ty≠93→ty≠3→u'.heap[b]? =u.heap[b]?:=fun{b c ty} hb h9 h3=>hkeep b (Q3 hb) (fun e2=>by
  have:=h.t.o
  rw[← e2,hb]at this
  simp only[Option.some.injEq,Obj.cells.injEq]at this
  exact h9 this.2.1) fun e2=>Q9 h.t.row hb (fun e3=>h3 e3.symm) e2.symm
 refine⟨hB.frame hK.size fun r hr h2=>hkeep r hr (fun e2=>?_) (fun e2=>?_),p08 h.l fun b c _ hb=>ht hb (by decide) (by decide),p08 h.e fun b c _ hb=>ht hb (by decide) (by decide),h1,p08 h.s fun b c hb hc=>?_,h.nl,h.ne,h.nu,h.ns,fun g hg=>?_,fun g hg=>?_⟩
 ·subst e2
  have:=h.nu
  rcases h2 with h2|h2<;>omega
 ·have:=h.no r e2
  rcases h2 with h2|h2<;>omega
 ·refine hkeep b (o5 h.s hb).1 (fun e2=>?_) fun e2=>h.dj b e2 hb
  have:=h.t.o
  rw[← e2,hc]at this
  simp at this
 ·rcases hK.fo with e2|⟨g',e2,hg'⟩
  ·exact h.no g (e2 ▸ hg)
  ·rw[e2]at hg;cases hg
   exact⟨by omega,hB.lnew _ hg'⟩
 ·rcases hK.fo with e2|⟨g',e2,hg'⟩
  ·exact h.dj g (e2 ▸ hg)
  ·rw[e2]at hg;cases hg
   intro hb
   have:=(o5 h.s hb).1
   omega
theorem q0w{w:World}{ty:TypeId}{b cap n y:Nat}{xs:List Value}{x:Value}(h:w.ownsRow 0 ty 1 (vL b 0 n cap) n xs):(w.setCell ⟨b,y,none⟩ x).ownsRow 0 ty 1 (vL b 0 n cap) n (xs.set y x):=by
 refine⟨by simpa using h.1,.inr ?_⟩
 rcases h.2 with⟨h0,_⟩|⟨g,cap',cur,h1,h2,h3,h4,h5,h6,h7⟩
 ·cases h0
 ·cases h1
  refine⟨_,_,cur.setIfInBounds y x,rfl,h2,U1 h3 x,h4,h5,by simpa using h6,?_⟩
  rw[← h7]
  simp[List.take_set]
theorem q0j{α:Type}{n y:Nat}{f f':Nat→α}(hy:y<n)(h:∀j,j≠y→f' j=f j):((List.range n).map f).set y (f' y)=(List.range n).map f':=by
 apply List.ext_getElem?
 intro j
 rw[List.getElem?_set]
 by_cases e:y=j
 ·subst e
  simp[hy]
 ·rw[if_neg e]
  rcases Nat.lt_or_ge j n with hj|hj
  ·simp[hj,h j (Ne.symm e)]
  ·rw[List.getElem?_eq_none (by simpa using hj),List.getElem?_eq_none (by simpa using hj)]
theorem RX.noted{eb y:Nat}{e':Nat→Bool}(hB:RPB W u lab xb wb n ops oa oc s tb ov cp av)(h:RX W u lab n tb e la lc (some ⟨eb,0,none⟩) ec ub ta tc M p rd tv order S)(hy:y<n)(he:∀j,j≠y→e' j=e j):
 RPB W (u.setCell ⟨eb,y,none⟩ (.bool (e' y))) lab xb wb n ops oa oc s tb ov cp av∧RX W (u.setCell ⟨eb,y,none⟩ (.bool (e' y))) lab n tb e' la lc (some ⟨eb,0,none⟩) ec ub ta tc M p rd tv order S:=by
 obtain⟨q1,q2⟩:=h.ne eb rfl
 obtain⟨_,c,hc⟩:=o5 h.e rfl
 have hk:∀r,r≠eb→(u.setCell ⟨eb,y,none⟩ (.bool (e' y))).heap[r]? =u.heap[r]?:=fun r hr=>I0 _ _ _ hr
 have ht:∀{b:Nat} {c2:Array Value} {ty:TypeId},u.heap[b]? =some (.cells c2 ty (0,0))→ty≠4→(u.setCell ⟨eb,y,none⟩ (.bool (e' y))).heap[b]? =u.heap[b]?:=fun{b c2 ty} hb h4=>hk b fun e2=>by
  have hc':u.heap[eb]? =some (.cells c 4 (0,0)):=hc
  rw[← e2,hb]at hc'
  simp only[Option.some.injEq,Obj.cells.injEq]at hc'
  exact h4 hc'.2.1
 refine⟨hB.frame (by rw[World.size_setCell];exact Nat.le_refl _) fun r hr h2=>hk r fun e2=>?_,p08 h.l fun b c _ hb=>ht hb (by decide),?_,⟨(ht h.t.o (by decide)).trans h.t.o,p08 h.t.row fun b c _ hb=>ht hb (by decide)⟩,p08 h.s fun b c _ hb=>ht hb (by decide),h.nl,h.ne,h.nu,h.ns,h.no,h.dj⟩
 ·subst e2
  rcases h2 with h2|h2<;>omega
 ·have:=q0w (y:=y) (x:=.bool (e' y)) h.e
  rw[q0j (f:=fun j=>Value.bool (e j)) (f':=fun j=>Value.bool (e' j)) hy fun j hj=>by rw[he j hj]]at this
  exact this
end
section
variable{W w:World}{ops:Nat→List P3}{oa:Nat→Option Addr}{oc:Nat→Nat}
structure b0j(W:World)(ops:Nat→List P3)(oa:Nat→Option Addr)(oc:Nat→Nat)(n M:Nat)(S:List Int)(s0:GS BPl)(xb wb:Nat)(tb:Nat→Nat)(la:Option Addr)(lc:Nat)(ea:Option Addr)(ec:Nat)(ub:Nat)(ta:Option Addr)(tc:Nat)(s:GS BPl)(order:List Nat)(p rd:Nat)(lab:Nat→Nat)(ov:Nat→Value)(cp:Nat→Option Addr)(av:Nat→List SA)(tv:Value)(wr:World):Prop where
 b:RPB W wr lab xb wb n ops oa oc s tb ov cp av
 x:RX W wr lab n tb (D2 s) la lc ea ec ub ta tc M p rd tv order S
 r:k0k ops n M S s0 s order p rd
 om:order.length≤M
 pl:p≤S.length
 rl:rd≤n
theorem d05{s:GS BPl}{n:Nat}:(List.range n).all (D2 s)=true↔L5 s.live n=0:=by
 rw[List.all_eq_true,a0I]
 constructor
 ·intro h j hj
  have:=h j (List.mem_range.2 hj)
  simpa [D2]using this
 ·intro h j hj
  have:=h j (List.mem_range.1 hj)
  simp[D2,this]
theorem q0D{A:Array Value}{n M xb wb lc ec ub tc:Nat}{S:List Int}{s0 s1:GS BPl}{tb:Nat→Nat}{la ea ta:Option Addr}{v8:Value}{lab0:Nat→Nat}{ov0:Nat→Value}{cp0:Nat→Option Addr}{av0:Nat→List SA}(hn:n≤64)(hM:M≤1048576)(hSl:S.length<10000000)(hops:∀j,j<n→a7 W (oa j) (ops j)∧(ops j).length≤65536)
 (h0:b0j W ops oa oc n M S s0 xb wb tb la lc ea ec ub ta tc s1 [] 0 0 lab0 ov0 cp0 av0 (.slice none 0 0) w)
 (hA:G0 103 A [(8,v8),(9,vP xb 0),(10,.slice la n lc),(11,.slice ea n ec),(14,vP ub 0)]) {Q:Act→World→Prop}
 (hQ:∀A' w' s order p rd lab ov cp av tv,G0 103 A' [(8,v8),(9,vP xb 0),(10,.slice la n lc),(11,.slice ea n ec),(14,vP ub 0)]→b0j W ops oa oc n M S s0 xb wb tb la lc ea ec ub ta tc s order p rd lab ov cp av tv w'→(L5 s.live n=0∨order.length=M)→Q ⟨A',[]⟩ w'):rpb2.wp Tryd.prog (F7 Q) ⟨A,[]⟩ w:=by
 obtain⟨s,rfl,h8,h9,h10,h11,h14,_⟩:=Y3 rpT hA
 have T0:Aside (b0j W ops oa oc n M S s0 xb wb tb la lc ea ec ub ta tc s1 [] 0 0 lab0 ov0 cp0 av0 (.slice none 0 0) w):=h0
 have HQ:Aside (∀A' w' s order p rd lab ov cp av tv,G0 103 A' [(8,v8),(9,vP xb 0),(10,.slice la n lc),(11,.slice ea n ec),(14,vP ub 0)]→b0j W ops oa oc n M S s0 xb wb tb la lc ea ec ub ta tc s order p rd lab ov cp av tv w'→(L5 s.live n=0∨order.length=M)→Q ⟨A',[]⟩ w'):=hQ
 have HO:Aside ((∀j,j<n→a7 W (oa j) (ops j)∧(ops j).length≤65536)∧n≤64∧M≤1048576∧S.length<10000000):=⟨hops,hn,hM,hSl⟩
 clear h0 hQ hops hM hSl
 simp only[rpb2,I4,pC,Tryd.f10,Option.getD_some,rpT,h8,h9,h10,h11,h14]
 clear h8 h9 h10 h11 h14
 go_wp2
 go_loopg [] M (fun g wr=>∃s order p rd lab ov cp av tv,b0j W ops oa oc n M S s0 xb wb tb la lc ea ec ub ta tc s order p rd lab ov cp av tv wr∧g=M - order.length)
 case atStart=>exact⟨s1,[],0,0,lab0,ov0,cp0,av0,_,T0.out,rfl⟩
 case round=>
  obtain⟨s,order,p,rd,lab,ov,cp,av,tv,hT,rfl⟩:=hrel
  have T:Aside (b0j W ops oa oc n M S s0 xb wb tb la lc ea ec ub ta tc s order p rd lab ov cp av tv wr):=hT
  clear hT
  by_cases hdone:(List.range n).all (D2 s)=true∨order.length=M
  ·have D:Aside ((List.range n).all (D2 s)=true∨order.length=M):=hdone
   clear hdone
   go_wp2_with (fail)
   go_at_call 36
   refine(m0G HO.out.2.1 T.out.x.e T.out.x.t D.out HO.out.2.2.1 T.out.om).mono ?_
   rintro e w1 ⟨rfl,hw1⟩
   have T1:Aside (b0j W ops oa oc n M S s0 xb wb tb la lc ea ec ub ta tc s order p rd lab ov cp av tv w1):=by
    obtain⟨a1,a2,a3,a4,a5,a6⟩:=T.out
    exact(⟨a1.dead hw1,a2.kp (.heap hw1),a3,a4,a5,a6⟩:b0j W ops oa oc n M S s0 xb wb tb la lc ea ec ub ta tc s order p rd lab ov cp av tv w1)
   clear hw1
   go_wp2
   exact HQ.out _ _ _ _ _ _ _ _ _ _ _ ⟨rfl,rfl,rfl,rfl,rfl,rfl,trivial⟩ T1.out (D.out.imp d05.1 id)
  ·have D:Aside (¬((List.range n).all (D2 s)=true∨order.length=M)):=hdone
   clear hdone
   have hn0:0<n:=by
    rcases Nat.eq_zero_or_pos n with e|e
    ·exact absurd (.inl (by rw[e];rfl)) D.out
    ·exact e
   go_wp2_with (fail)
   go_at_call 36
   refine(m0I HO.out.2.1 hn0 T.out.x.e T.out.x.s T.out.x.t T.out.pl (by have:=T.out.rl;have:=HO.out.2.1;omega) (by have:=D.out;cases h:(List.range n).all (D2 s)with
    | false=>rfl
    | true=>exact absurd (.inl h) this) (fun h=>D.out (.inr h)) HO.out.2.2.1 T.out.om HO.out.2.2.2).mono ?_
   rintro e w1 ⟨y,p1,r1,tv',rfl,hpick,hT1,hK1⟩
   obtain⟨hB1,hX1⟩:=T.out.x.picked T.out.b hT1 hK1
   obtain⟨hRI,hok,hp1,hr1⟩:=m0J T.out.r hpick (fun h=>D.out (.inr h)) T.out.om T.out.rl hn0
   have hy:y<n:=by have:=hok.2.1;omega
   obtain⟨c,hc⟩:∃c,(s.th y).call=some c:=by
    have:=hok.2.2
    simp only[Int.toNat_natCast,D2,GS.live,Bool.not_eq_false']at this
    exact Option.isSome_iff_exists.1 this
   obtain⟨cb,f2,C1⟩:=hB1.turn1 hy hc
   obtain⟨lb,cap,el,f1⟩:=M5 (k:=y) hX1.l (x:=vP (tb y) 0) (by simp[hy])
   cases el
   have f1:=f1.c
   have K1:Aside (RX W w1 lab n tb (D2 s) (some ⟨lb,0,none⟩) lc ea ec ub ta tc M p1 r1 tv' (order++[y]) S∧k0k ops n M S s0 (s.put y (stpG BPl (ops y) s.q (s.th y))) (order++[y]) p1 r1∧p1≤S.length∧r1≤n∧(s.th y).call=some c∧y<n):=⟨hX1,hRI,hp1,hr1,hc,hy⟩
   have C1':Aside (Calls Tryd.prog 14 #[vP xb 0,vP cb 0] w1 fun e u'=>e= .returned (.tuple #[])∧∃lab',Kp w1 u' lab lab'∧Mid W u' lab' xb wb n ops oa oc s tb ov cp av y (V0.step s.q c)):=C1
   have hom:order.length<M:=by
    rcases Nat.lt_or_ge order.length M with h|h
    ·exact h
    ·exact absurd (.inr (Nat.le_antisymm T.out.om h)) D.out
   clear hT1 hK1 hB1 hX1 hRI hp1 hr1 hc C1 hok hpick
   go_wp2_with (fail)
   go_at_call 14
   refine C1'.out.mono ?_
   rintro e w2 ⟨rfl,lab2,hk2,hM2⟩
   have X2:Aside (RX W w2 lab2 n tb (D2 s) (some ⟨lb,0,none⟩) lc ea ec ub ta tc M p1 r1 tv' (order++[y]) S):=K1.out.1.kp hk2
   have C2:=hM2.turn2 K1.out.2.2.2.2.2 K1.out.2.2.2.2.1 (HO.out.1 y K1.out.2.2.2.2.2).1 (HO.out.1 y K1.out.2.2.2.2.2).2
   have C2':Aside (Calls Tryd.prog 34 #[vP xb 0,vP (tb y) 0] w2 fun e u'=>e= .returned (.bool (stpG BPl (ops y) s.q (s.th y)).2.call.isNone)∧∃lab' ov' cp' av',Kp w2 u' lab2 lab'∧RPB W u' lab' xb wb n ops oa oc (s.put y (stpG BPl (ops y) s.q (s.th y))) tb ov' cp' av'):=C2
   obtain⟨lb',cap',el',f1'⟩:=M5 (k:=y) X2.out.l (x:=vP (tb y) 0) (by simp[hy])
   cases el'
   have f1':=f1'.c
   clear f1 f2 hk2 hM2 C2
   go_wp2_with (fail)
   go_at_call 34
   refine C2'.out.mono ?_
   rintro e w3 ⟨rfl,lab3,ov3,cp3,av3,hk3,hB3⟩
   have hX3:=X2.out.kp hk3
   obtain⟨eb,cap3,ee,g1⟩:=M5 (k:=y) hX3.e (x:=.bool (D2 s y)) (by simp[hy])
   cases ee
   have hEy:D2 (s.put y (stpG BPl (ops y) s.q (s.th y))) y=(stpG BPl (ops y) s.q (s.th y)).2.call.isNone:=by
    simp only[D2,GS.live,GS.put,if_true]
    cases(stpG BPl (ops y) s.q (s.th y)).2.call<;>rfl
   have hne:∀j,j≠y→D2 (s.put y (stpG BPl (ops y) s.q (s.th y))) j=D2 s j:=fun j hj=>by simp only[D2,GS.live,GS.put,if_neg hj]
   obtain⟨hB4,hX4⟩:=hX3.noted hB3 hy hne
   rw[hEy]at hB4 hX4
   have e1:=g1.c
   have e2:=g1.z
   have T3:Aside (∃wx,wx=w3.setCell ⟨eb,y,none⟩ (.bool (stpG BPl (ops y) s.q (s.th y)).2.call.isNone)∧b0j W ops oa oc n M S s0 xb wb tb (some ⟨lb,0,none⟩) lc (some ⟨eb,0,none⟩) ec ub ta tc (s.put y (stpG BPl (ops y) s.q (s.th y))) (order++[y]) p1 r1 lab3 ov3 cp3 av3 tv' wx):=by
    have:∃wx,wx=w3.setCell ⟨eb,y,none⟩ (.bool (stpG BPl (ops y) s.q (s.th y)).2.call.isNone)∧b0j W ops oa oc n M S s0 xb wb tb (some ⟨lb,0,none⟩) lc (some ⟨eb,0,none⟩) ec ub ta tc (s.put y (stpG BPl (ops y) s.q (s.th y))) (order++[y]) p1 r1 lab3 ov3 cp3 av3 tv' wx:=
     ⟨_,rfl,hB4,hX4,K1.out.2.1,by simp;omega,K1.out.2.2.1,K1.out.2.2.2.1⟩
    exact this
   clear hX3 hB3 hB4 hX4 hEy hne hk3 g1 f1'
   go_wp2
   go_roundg (M - (order++[y]).length)
   case measure=>simp;omega
   case rel=>
    obtain⟨wx,rfl,h⟩:=T3.out
    exact⟨_,_,_,_,_,_,_,_,_,h,rfl⟩
end
section
variable{w w':World}
structure e07(w wr:World)(ob:Nat)(ov sv sb:Value)(ovs:Nat→Value)(i:Nat)(xa:Option Addr)(xc:Nat):Prop where
 o:wr.heap[ob]? =some (.cells #[.slice xa i xc,ov,sv,sb] 29 (0,0))
 row:wr.ownsRow 0 55 1 (.slice xa i xc) i ((List.range i).map ovs)
 old:∀r,r<w.heap.size→r≠ob→wr.heap[r]? =w.heap[r]?
 size:w.heap.size≤wr.heap.size
 new:∀g,(Value.slice xa i xc).ownBlock=some g→w.heap.size≤g
theorem e07.more{wr w1 u:World}{ob:Nat}{ov sv sb:Value}{ovs:Nat→Value}{i:Nat}{xa:Option Addr}{xc g cap:Nat}(h:e07 w wr ob ov sv sb ovs i xa xc)(hob:ob<w.heap.size)(hown:w1.ownsRow 0 55 1 (vL g 0 (i+1) cap) (i+1) ((List.range i).map ovs++[ovs i]))
 (hold:∀r,r<wr.heap.size→some r≠(Value.slice xa i xc).ownBlock→w1.heap[r]? =wr.heap[r]?) (hsz:wr.heap.size≤w1.heap.size) (hfr:(Value.slice (some ⟨g,0,none⟩) (i+1) cap).ownBlock=(Value.slice xa i xc).ownBlock∨∃g',(Value.slice (some ⟨g,0,none⟩) (i+1) cap).ownBlock=some g'∧wr.heap.size≤g')
 (hu:u.heap=(w1.setCell ⟨ob,0,none⟩ (vL g 0 (i+1) cap)).heap):e07 w u ob ov sv sb ovs (i+1) (some ⟨g,0,none⟩) cap:=by
 have hs:=h.size
 have hob2:some ob≠(Value.slice xa i xc).ownBlock:=Q9 h.row h.o (by decide)
 have ho1:w1.heap[ob]? =_:=(hold ob (by omega) hob2).trans h.o
 have hne:ob≠g:=by
  rintro rfl
  rcases hown.2 with⟨h0,_⟩|⟨g',cap',cur,h3,_,h4,_⟩
  ·cases h0
  ·cases h3
   rw[ho1]at h4
   simp only[Option.some.injEq,Obj.cells.injEq]at h4
   exact absurd h4.2.1 (by decide)
 have hnew:∀g',(Value.slice (some ⟨g,0,none⟩) (i+1) cap).ownBlock=some g'→w.heap.size≤g':=fun g' hg=>by
  rcases hfr with e|⟨g2,e,h2⟩
  ·exact h.new g' (e ▸ hg)
  ·rw[e]at hg;cases hg;omega
 refine⟨?_,?_,fun r h1 h2=>?_,by rw[hu,World.size_setCell];omega,hnew⟩
 ·rw[hu,U1 ho1];rfl
 ·rw[List.range_succ,List.map_append]
  exact G1 hown fun b hb _=>by
   simp only[Value.ownBlock,Option.some.injEq]at hb
   subst hb
   rw[hu,I0 _ _ _ hne.symm]
 ·rw[hu,I0 _ _ _ h2,hold r (by omega) fun e=>by have:=h.new r e.symm;omega]
  exact h.old r h1 h2
theorem v0N{A:Array Value}{t8 ob n lc:Nat}{la:Option Addr}{ov sv sb:Value}{tbs:Nat→Nat}{va:Nat→Option Addr}{vl vc:Nat→Nat}(hn:n≤64)(hA:G0 103 A [(8,.pointer (some ⟨t8,0,none⟩)),(10,.slice la n lc),(17,.pointer (some ⟨ob,0,none⟩))])
 (ho:w.heap[ob]? =some (.cells #[.slice none 0 0,ov,sv,sb] 29 (0,0))) (hl:∀j,j<n→∃lb,la=some ⟨lb,0,none⟩∧lb≠ob∧w.cell? ⟨lb,j,none⟩=some (.pointer (some ⟨tbs j,0,none⟩))∧tbs j≠ob∧w.cell? ⟨tbs j,3,none⟩=some (.slice (va j) (vl j) (vc j)))
 {Q:Act→World→Prop} (hQ:∀A' w' xa xc,G0 103 A' [(8,.pointer (some ⟨t8,0,none⟩)),(17,.pointer (some ⟨ob,0,none⟩))]→e07 w w' ob ov sv sb (fun j=>.slice (va j) (vl j) (vc j)) n xa xc→Q ⟨A',[]⟩ w'):rpb4.wp Tryd.prog (F7 Q) ⟨A,[]⟩ w:=by
 obtain⟨i0,z0,hi,hz0,hz1,hz2,hz3⟩:=r0n
 obtain⟨hsz,h8,h10,h17,_⟩:=hA
 obtain⟨s,rfl⟩:=d0W hsz
 change s 8=_ at h8
 change s 10=_ at h10
 change s 17=_ at h17
 clear hsz
 have L:Aside ((∀j,j<n→∃lb,la=some ⟨lb,0,none⟩∧lb≠ob∧w.cell? ⟨lb,j,none⟩=some (.pointer (some ⟨tbs j,0,none⟩))∧tbs j≠ob∧w.cell? ⟨tbs j,3,none⟩=some (.slice (va j) (vl j) (vc j)))∧ob<w.heap.size):=⟨hl,(Q3 ho)⟩
 have O:Aside (w.heap[ob]? =some (.cells #[.slice none 0 0,ov,sv,sb] 29 (0,0))):=ho
 have HQ:Aside (∀A' w' xa xc,G0 103 A' [(8,.pointer (some ⟨t8,0,none⟩)),(17,.pointer (some ⟨ob,0,none⟩))]→e07 w w' ob ov sv sb (fun j=>.slice (va j) (vl j) (vc j)) n xa xc→Q ⟨A',[]⟩ w'):=hQ
 clear hl ho hQ
 simp only[rpb4,I4,pC,Tryd.f10,Option.getD_some,rpT,h8,h10,h17]
 go_wp2
 go_loopg [18] n (fun g x wr=>∃(i:Nat) (xa:Option Addr) (xc:Nat),x= .int .i64 i∧i≤n∧g=n - i∧e07 w wr ob ov sv sb (fun j=>.slice (va j) (vl j) (vc j)) i xa xc)
 case atStart=>exact⟨0,none,0,rfl,Nat.zero_le _,rfl,⟨O.out,⟨rfl,.inl ⟨rfl,rfl⟩⟩,fun r _ _=>rfl,Nat.le_refl _,fun g h=>by cases h⟩⟩
 case round=>
  obtain⟨i,xa,xc,rfl,hin,rfl,hA⟩:=hrel
  have R:Aside (e07 w wr ob ov sv sb (fun j=>.slice (va j) (vl j) (vc j)) i xa xc):=hA
  have ho:=hA.o
  have hrow:=hA.row
  have hsz:=hA.size
  have hobl:=L.out.2
  rcases Nat.lt_or_ge i n with hlt|hge
  ·obtain⟨lb,rfl,e1,e2,e3,e4⟩:=L.out.1 i hlt
   have f0:wr.cell? ⟨ob,0,none⟩=some (.slice xa i xc):=by simp[World.cell?,ho]
   have z0':wr.frozen? ⟨ob,0,none⟩=false:=by simp[World.frozen?,ho]
   have hkeep:∀{a:Addr} {v:Value},a.block≠ob→w.cell? a=some v→wr.cell? a=some v:=fun{a v} hne h=>by
    obtain⟨c,e,z,hb⟩:=M3 h
    have:=hA.old a.block (Q3 hb) hne
    rw[← h];unfold World.cell?;simp only[this]
   have f1:=hkeep e1 e2
   have f2:=hkeep e3 e4
   have p0:=(O0 f0 (.cells #[.slice (va i) (vl i) (vc i)] 55)).1
   have hwr:IntKind.i64.wrap ((i:Int)+1)=(i:Int)+1:=IntWalk.i64_in _ (by omega)
   have hoblt:ob<wr.heap.size:=by omega
   clear hkeep e1 e2 e3 e4 hA ho
   go_wp2
   go_region_law (refine H6 rfl (.tmp 91) (.tmp 99) 27 rfl 55 i0 z0 1 24 Tryd.underlying27 hi hz0 hz1 hz2 hz3 (by decide) (.slice xa i xc) i ((List.range i).map fun j=>.slice (va j) (vl j) (vc j)) (by simp[Act.eval,Act.put]) ((show wr.drew.ownsRow 0 55 1 _ _ _ from hrow).alloc _) ⟨wr.heap.size,0,none⟩ 1 1 [.slice (va i) (vl i) (vc i)] (by simp[Act.eval,Act.put]) rfl (c0b (X:=wr.drew) (l:=[.slice (va i) (vl i) (vc i)]) rfl) (by intro u hu;simp at hu;subst hu;rfl) (by unfold maxLen;omega) (by omega) ?_;intro v' w1 hown hgrow hfr;obtain⟨g,cap,rfl⟩:=j5 hown;have hk1:=K3 (W:=wr.drew) hgrow (r:=ob) hoblt (Q9 hrow R.out.o (by decide));have k0:=(F1 (j:=0) hk1).1.trans f0;have k1:=(F1 (j:=0) hk1).2.trans z0';have F:Aside (w1.ownsRow 0 55 1 (.slice (some ⟨g,0,none⟩) (i+1) cap) (i+1) ((List.range i).map (fun j=>.slice (va j) (vl j) (vc j))++[.slice (va i) (vl i) (vc i)])∧(∀r,r<wr.heap.size→some r≠(Value.slice xa i xc).ownBlock→w1.heap[r]? =wr.heap[r]?)∧wr.heap.size≤w1.heap.size∧((Value.slice (some ⟨g,0,none⟩) (i+1) cap).ownBlock=(Value.slice xa i xc).ownBlock∨∃g',(Value.slice (some ⟨g,0,none⟩) (i+1) cap).ownBlock=some g'∧wr.heap.size≤g')):=⟨hown,fun r hr hn=>K3 (W:=wr.drew) hgrow hr hn,Nat.le_trans (by simp[World.drew]) hgrow.size,hfr.imp id fun⟨g',h1,h2⟩=>⟨g',h1,Nat.le_trans (by simp[World.drew]) h2⟩⟩;clear hown hgrow hfr hk1)
   all_goals go_wp2
   all_goals(
    go_roundg (n - (i+1))
    case measure=>omega
    case rel=>exact⟨i+1,_,_,rfl,hlt,rfl,R.out.more L.out.2 F.out.1 F.out.2.1 F.out.2.2.1 F.out.2.2.2 rfl⟩)
  ·obtain rfl:i=n:=by omega
   clear hA ho hrow
   go_wp2
   exact(HQ.out _ _ _ _ ⟨rfl,rfl,rfl,trivial⟩ R.out)
theorem v0O{A:Array Value}{t8 ob:Nat}{xa oa sa:Option Addr}{xl xc ol oc sl sc:Nat}{st:Bool}(hA:G0 103 A [(8,vP t8 0),(17,vP ob 0)])(h1:w.heap[ob]? =some (.cells #[.slice xa xl xc,.slice oa ol oc,.slice sa sl sc,.bool st] 29 (0,0)))(h2:w.heap[t8]? =some (.cells #[.slice none 0 0,.slice none 0 0,.slice none 0 0,.bool false] 29 (0,0)))(hne:¬ob=t8)
 {R:Value→World→Prop} (hR:∀w',(∀r,r≠t8→w'.heap[r]? =w.heap[r]?)→w'.heap.size=w.heap.size→R (.agg #[.slice xa xl xc,.slice oa ol oc,.slice sa sl sc,.bool st]) w'):rps9.wp Tryd.prog (bodyPost Tryd.prog Tryd.f10 fun x w'=>∃v,x= .returned v∧R v w') ⟨A,[]⟩ w:=by
 obtain⟨s,rfl,h8,h17,_⟩:=Y3 rpT hA
 have e0:w.cell? ⟨ob,0,none⟩=some (.slice xa xl xc):=by simp[World.cell?,h1]
 have e1:w.cell? ⟨ob,1,none⟩=some (.slice oa ol oc):=by simp[World.cell?,h1]
 have e2:w.cell? ⟨ob,2,none⟩=some (.slice sa sl sc):=by simp[World.cell?,h1]
 have e3:w.cell? ⟨ob,3,none⟩=some (.bool st):=by simp[World.cell?,h1]
 have g0:w.cell? ⟨t8,0,none⟩=some (.slice none 0 0):=by simp[World.cell?,h2]
 have g1:w.cell? ⟨t8,1,none⟩=some (.slice none 0 0):=by simp[World.cell?,h2]
 have g2:w.cell? ⟨t8,2,none⟩=some (.slice none 0 0):=by simp[World.cell?,h2]
 have g3:w.cell? ⟨t8,3,none⟩=some (.bool false):=by simp[World.cell?,h2]
 have z:∀k,w.frozen? ⟨t8,k,none⟩=false:=fun k=>by simp[World.frozen?,h2]
 have z0:=z 0
 have z1:=z 1
 have z2:=z 2
 have z3:=z 3
 have HR:Aside (∀w',(∀r,r≠t8→w'.heap[r]? =w.heap[r]?)→w'.heap.size=w.heap.size→R (.agg #[.slice xa xl xc,.slice oa ol oc,.slice sa sl sc,.bool st]) w'):=hR
 have H2:Aside (w.heap[t8]? =some (.cells #[.slice none 0 0,.slice none 0 0,.slice none 0 0,.bool false] 29 (0,0))):=h2
 clear z h1 h2 hR
 simp only[rps9,I4,pC,Tryd.f10,Option.getD_some,rpT,h8,h17]
 go_wp2
 have hb:((((w.setCell ⟨t8,0,none⟩ (.slice xa xl xc)).setCell ⟨t8,1,none⟩ (.slice oa ol oc)).setCell ⟨t8,2,none⟩ (.slice sa sl sc)).setCell ⟨t8,3,none⟩ (.bool st)).heap[t8]? =some (.cells #[.slice xa xl xc,.slice oa ol oc,.slice sa sl sc,.bool st] 29 (0,0)):=by
  rw[U1 (U1 (U1 (U1 H2.out _) _) _) _];rfl
 have hold:∀r,r≠t8→((((w.setCell ⟨t8,0,none⟩ (.slice xa xl xc)).setCell ⟨t8,1,none⟩ (.slice oa ol oc)).setCell ⟨t8,2,none⟩ (.slice sa sl sc)).setCell ⟨t8,3,none⟩ (.bool st)).heap[r]? =w.heap[r]?:=fun r hr=>by
  rw[I0 _ _ _ hr,I0 _ _ _ hr,I0 _ _ _ hr,I0 _ _ _ hr]
 have hsz:((((w.setCell ⟨t8,0,none⟩ (.slice xa xl xc)).setCell ⟨t8,1,none⟩ (.slice oa ol oc)).setCell ⟨t8,2,none⟩ (.slice sa sl sc)).setCell ⟨t8,3,none⟩ (.bool st)).heap.size=w.heap.size:=by simp
 have HR2:=HR.out _ hold hsz
 clear hold hsz HR e0 e1 e2 e3 g0 g1 g2 g3 z0 z1 z2 z3
 generalize (((w.setCell ⟨t8,0,none⟩ (.slice xa xl xc)).setCell ⟨t8,1,none⟩ (.slice oa ol oc)).setCell ⟨t8,2,none⟩ (.slice sa sl sc)).setCell ⟨t8,3,none⟩ (.bool st)=W3 at hb HR2 ⊢
 have q0:W3.cell? ⟨t8,0,none⟩=some (.slice xa xl xc):=by simp[World.cell?,hb]
 have q1:W3.cell? ⟨t8,1,none⟩=some (.slice oa ol oc):=by simp[World.cell?,hb]
 have q2:W3.cell? ⟨t8,2,none⟩=some (.slice sa sl sc):=by simp[World.cell?,hb]
 have q3:W3.cell? ⟨t8,3,none⟩=some (.bool st):=by simp[World.cell?,hb]
 exact⟨rfl,.agg #[.slice xa xl xc,.slice oa ol oc,.slice sa sl sc,.bool st],by simp[results,Tryd.f10,go_sem,q0,q1,q2,q3],_,rfl,HR2⟩
end
section
variable{w w':World}
theorem y0m{A:Array Value}{n lc ec ub xb wb:Nat}{k:V0}{la ea:Option Addr}{v8:Value}{e:Nat→Bool}{c0 c1 c2 c3:Value}{xo:Option Addr}{xl xc:Nat}(hn:n≤64)(hS:RS xb wb k w)(hwf:BDm k)(hE:r0a w ea n e)(hu:w.heap[ub]? =some (.cells #[c0,c1,c2,c3,.slice xo xl xc] 93 (0,0)))
 (hA:G0 103 A [(8,v8),(9,vP xb 0),(10,.slice la n lc),(11,.slice ea n ec),(14,vP ub 0)]) {Q:Act→World→Prop}
 (hQ:∀A' w' ob na nc,G0 103 A' [(8,v8),(10,.slice la n lc),(17,vP ob 0)]→w'.heap[ob]? =some (.cells #[.slice none 0 0,.slice xo xl xc,.slice na k.nums.length nc,.bool (!(List.range n).all e)] 29 (0,0))→w.heap.size≤ob→v5 w w' (.slice na k.nums.length nc) k.nums→Q ⟨A',[]⟩ w'):rpr15.wp Tryd.prog (F7 Q) ⟨A,[]⟩ w:=by
 obtain⟨s,rfl,h8,h9,h10,h11,h14,_⟩:=Y3 rpT hA
 have RS1:Aside (∀u:World,(∀r,r<w.heap.size→u.heap[r]? =w.heap[r]?)→Calls Tryd.prog 37 #[vP xb 0] u fun y w'=>∃v,y= .returned v∧∃oa oc,v= .slice oa k.nums.length oc∧v5 u w' (.slice oa k.nums.length oc) k.nums):=by
  have:∀u:World,(∀r,r<w.heap.size→u.heap[r]? =w.heap[r]?)→Calls Tryd.prog 37 #[vP xb 0] u fun y w'=>∃v,y= .returned v∧∃oa oc,v= .slice oa k.nums.length oc∧v5 u w' (.slice oa k.nums.length oc) k.nums:=fun u hu=>
   (h04 (hS.same (hu _ (Array.getElem?_eq_some_iff.1 hS.o).1) (hu _ (Array.getElem?_eq_some_iff.1 hS.ws).1)) hwf).mono fun y w' ⟨oa,oc,h1,h2⟩=>⟨_,h1,oa,oc,rfl,h2⟩
  exact this
 have H:Aside (∀u:World,(∀r,r<w.heap.size→u.heap[r]? =w.heap[r]?)→Calls Tryd.prog 38 #[.slice ea n ec] u fun x w'=>x= .returned (.bool ((List.range n).all e))∧w'=u):=fun u hu=>f0M hn ⟨fun j hj=>by
  obtain⟨eb,h1,h2⟩:=hE.c j hj
  exact⟨eb,h1,D5 h2 hu⟩⟩
 have HQ:Aside (∀A' w' ob na nc,G0 103 A' [(8,v8),(10,.slice la n lc),(17,vP ob 0)]→w'.heap[ob]? =some (.cells #[.slice none 0 0,.slice xo xl xc,.slice na k.nums.length nc,.bool (!(List.range n).all e)] 29 (0,0))→w.heap.size≤ob→v5 w w' (.slice na k.nums.length nc) k.nums→Q ⟨A',[]⟩ w'):=hQ
 have u4:w.cell? ⟨ub,4,none⟩=some (.slice xo xl xc):=by simp[World.cell?,hu]
 have hub:=(Q3 hu)
 have hne:¬ub=w.heap.size:=by omega
 clear hQ hE hu hS hwf
 have K0:Aside (∀u:World,(∀r,r<w.heap.size→u.heap[r]? =w.heap[r]?)→u.cell? ⟨ub,4,none⟩=some (.slice xo xl xc)):=fun u hu=>D5 u4 hu
 generalize (List.range n).all e=b at H HQ
 simp only[rpr15,I4,pC,Tryd.f10,Option.getD_some,rpT,h8,h9,h10,h11,h14]
 clear h8 h9 h10 h11 h14
 go_wp2
 go_region_held3 (fun u:World=>u.cell? ⟨ub,4,none⟩=some (.slice xo xl xc))
  (first
    | (refine K0.out _ fun r hr=>?_;rw[I0 _ _ _ (show r≠_ from Nat.ne_of_lt hr),I0 _ _ _ (show r≠_ from Nat.ne_of_lt hr),I0 _ _ _ (show r≠_ from Nat.ne_of_lt hr),I0 _ _ _ (show r≠_ from Nat.ne_of_lt hr)];exact V.out.old r hr)
    | (refine K0.out _ fun r hr=>?_;(first|exact(D0 _ _ (Nat.lt_of_lt_of_le hr V.out.size)).trans (V.out.old r hr)|exact V.out.old r hr|exact D0 _ _ hr|rfl);done))
  (first
    | (go_at_call_of 37 xb;refine(RS1.out _ (fun r hr=>by first|exact D0 _ _ hr|rfl)).mono ?_;rintro y w1 ⟨v,rfl,na,nc,rfl,hV⟩;have hold1:∀r,r<w.heap.size→w1.heap[r]? =w.heap[r]?:=(fun r hr=>(hV.old r (by first|(simp;omega)|exact hr)).trans (by first|exact D0 _ _ hr|rfl));have hsz1:w.heap.size≤w1.heap.size:=(by have:=hV.size;first|exact this|(simp at this;omega));have u4:=D5 (w:=w) (u:=w1) u4 hold1;have hne1:¬ub=w1.heap.size:=(by omega);have u5:=(O0 u4 (.cells #[.slice none 0 0,.slice none 0 0,.slice none 0 0,.bool false] 29)).1;(first|(have hob:w1.heap[w.heap.size]? =some (.cells #[.slice none 0 0,.slice none 0 0,.slice none 0 0,.bool false] 29 (0,0)):=(hV.old w.heap.size (by simp)).trans (heap_alloc_new _ _);have b0:=(V1 hob (j:=0) rfl).1;have b1:=(V1 hob (j:=1) rfl).1;have b2:=(V1 hob (j:=2) rfl).1;have b3:=(V1 hob (j:=3) rfl).1;have z0:=(V1 hob (j:=0) rfl).2;have z1:=(V1 hob (j:=1) rfl).2;have z2:=(V1 hob (j:=2) rfl).2;have z3:=(V1 hob (j:=3) rfl).2;have OB:Aside (w1.heap[w.heap.size]? =some (.cells #[.slice none 0 0,.slice none 0 0,.slice none 0 0,.bool false] 29 (0,0))):=hob;clear hob)|skip);have V:Aside (v5 w w1 (.slice na k.nums.length nc) k.nums):=⟨hV.row,hsz1,hold1,(fun g hg=>by have:=hV.new g hg;first|exact this|(simp at this;omega))⟩;clear hV)
    | (go_at_call 38;refine(H.out _ (fun r hr=>by first|exact V.out.old r hr|exact(D0 _ _ (Nat.lt_of_lt_of_le hr V.out.size)).trans (V.out.old r hr)|exact D0 _ _ hr|rfl)).mono ?_;rintro y w2 ⟨rfl,hw2⟩;subst w2))
 all_goals(first
  | (have hob:w1.heap[w.heap.size]? =some (.cells #[.slice none 0 0,.slice none 0 0,.slice none 0 0,.bool false] 29 (0,0)):=OB.out
     refine HQ.out _ _ w.heap.size na nc ⟨rfl,rfl,rfl,rfl,trivial⟩ (by rw[U1 (U1 (U1 (U1 hob _) _) _) _];rfl) (Nat.le_refl _) ⟨p08 V.out.row fun g c hg _=>?_,by simp only[World.size_setCell];exact V.out.size,fun r hr=>?_,V.out.new⟩
     ·have hne:g≠w.heap.size:=fun e=>Q9 V.out.row hob (by decide) (by rw[← e];exact hg.symm)
      rw[I0 _ _ _ hne,I0 _ _ _ hne,I0 _ _ _ hne,I0 _ _ _ hne]
     ·rw[I0 _ _ _ (show r≠_ from Nat.ne_of_lt hr),I0 _ _ _ (show r≠_ from Nat.ne_of_lt hr),I0 _ _ _ (show r≠_ from Nat.ne_of_lt hr),I0 _ _ _ (show r≠_ from Nat.ne_of_lt hr)];exact V.out.old r hr)
  | exact HQ.out _ _ _ na nc ⟨rfl,rfl,rfl,rfl,trivial⟩ (heap_alloc_new _ _) V.out.size ⟨V.out.row.alloc _,Nat.le_trans V.out.size (by simp),fun r hr=>(D0 _ _ (Nat.lt_of_lt_of_le hr V.out.size)).trans (V.out.old r hr),V.out.new⟩)
end
section
variable{w w':World}
def a0d(w:World)(ops:Nat→List P3)(n M:Nat)(S:List Int)(vs:List Int)(v:Value)(w':World):Prop:=
 ∃(s:GS BPl) (order:List Nat) (xa xo xs:Option Addr) (xc xoc xsc:Nat) (Y:Nat→List SA) (va:Nat→Option Addr) (vc:Nat→Nat),
  v= .agg #[.slice xa n xc,.slice xo order.length xoc,.slice xs (V0.nums s.q).length xsc,.bool (decide (0<L5 s.live n))]∧(∃k,∀f,k≤f→a0K ops n M S f (bs0 vs)=(s,order))∧
  B5 w' xo (order.map fun i:Nat=>vI i)∧B5 w' xs ((V0.nums s.q).map fun v=>vI v)∧B5 w' xa ((List.range n).map fun j=>.slice (va j) (Y j).length (vc j))∧
  (∀j,j<n→B5 w' (va j) (i5 (Y j))∧(Y j).map SA.an=(s.th j).ans∧∀a∈Y j,SAL a w')∧(∀r,r<w.heap.size→w'.heap[r]? =w.heap[r]?)∧w.heap.size≤w'.heap.size∧BDm s.q
theorem s0T:Tryd.f10.body=some I4:=by
 have h:∃c,Tryd.f10.body=some c:=⟨_,rfl⟩
 obtain⟨c,h⟩:=h
 rw[I4,h]
 rfl
theorem j0M{n m:Nat}{a b c d:Value}(h:4+m=n):G0 n (#[a,b,c,d]++Array.replicate m undef) [(0,a),(1,b),(2,c),(3,d)]:=by
 refine⟨by simp;omega,?_,?_,?_,?_,trivial⟩<;>simp[Array.getD_eq_getD_getElem?,Array.getElem?_append]
theorem m0E{S:List Int}{sa:Option Addr}{sc M:Nat}{mo:Int}(hM:min (max mo 0) 1048576=(M:Int))(hl:S.length<10000000)(hS:0<S.length→∃sb so,sa=some ⟨sb,so,none⟩∧∀(j:Nat) (u:Value),(S.map fun i:Int=>Value.int .i64 i)[j]? =some u→w.cell? ⟨sb,so+j,none⟩=some u):Calls Tryd.prog 35 #[.slice sa S.length sc,vI mo] w fun x w'=>m0Y w S M x w':=by
 rcases Nat.eq_zero_or_pos S.length with h0|h0
 ·obtain rfl:S=[]:=List.eq_nil_of_length_eq_zero h0
  exact h0z hM
 ·obtain⟨sb,so,rfl,h⟩:=hS h0
  refine f09 hM hl h0 fun j u hu=>?_
  have e:(⟨sb,so,none⟩:Addr).add j=⟨sb,so+j,none⟩:=by simp[Addr.add]
  rw[e]
  exact h j u hu
theorem q0l{vs:List Int}{va0:Option Addr}{vc0:Nat}(hv:c0K w va0 vs)(hvl:vs.length<9223372036854775807)
 {N:Nat→Prop} {n tb o tl tc sc M:Nat} {mo:Int} {ta sa:Option Addr} {oa:Nat→Option Addr} {ol0 oc:Nat→Nat} {ops:Nat→List P3} {S:List Int} (hI:x8 w N n tb o tl ta oa ol0 oc ops S sa) (htl:tl<1000000000000) (hol:∀j,j<n→ol0 j<1000000000000) (hM:min (max mo 0) 1048576=(M:Int)) (hSl:S.length<10000000):
 Y6 Tryd.prog Tryd.f10 #[.slice va0 vs.length vc0,.slice ta tl tc,.slice sa S.length sc,vI mo] w (a0d w ops n M S vs):=by
 have hn64:n≤64:=by have:=hI.hn;omega
 have hM2:M≤1048576:=by omega
 have hopl:∀j,j<n→(ops j).length≤65536:=fun j hj=>by have:=hI.hlen j hj;omega
 refine I8 s0T ?_
 have hA0:G0 103 (#[.slice va0 vs.length vc0,.slice ta tl tc,.slice sa S.length sc,vI mo]++Array.replicate 99 undef) [(0,.slice va0 vs.length vc0),(1,.slice ta tl tc),(2,.slice sa S.length sc),(3,vI mo)]:=j0M rfl
 simp only[Tryd.ntmps10,List.size_toArray,List.length_cons,List.length_nil,Nat.reduceAdd,Nat.reduceSub]
 generalize #[Value.slice va0 vs.length vc0,.slice ta tl tc,.slice sa S.length sc,vI mo]++Array.replicate 99 undef=A0 at hA0 ⊢
 rw[s0S]
 refine a9 (z0e hA0 fun A1 h1=>?_)
 have hWo:∀r,r<w.heap.size→(w.alloc (.cells #[.slice none 0 0,.slice none 0 0,.slice none 0 0,.bool false] 29)).heap[r]? =w.heap[r]?:=fun r hr=>D0 _ _ hr
 have hW8:=heap_alloc_new w (.cells #[.slice none 0 0,.slice none 0 0,.slice none 0 0,.bool false] 29)
 have hWs:(w.alloc (.cells #[.slice none 0 0,.slice none 0 0,.slice none 0 0,.bool false] 29)).heap.size=w.heap.size+1:=by simp
 generalize w.alloc (.cells #[.slice none 0 0,.slice none 0 0,.slice none 0 0,.bool false] 29)=W at hWo hW8 hWs ⊢
 have hWc:∀{a:Addr} {v:Value},w.cell? a=some v→W.cell? a=some v:=fun h=>D5 h hWo
 have hvW:c0K W va0 vs:=fun i x hx=>by
  obtain⟨b,o,e,h1⟩:=hv i x hx
  exact⟨b,o,e,hWc h1⟩
 rw[y0n]
 refine a9 (z0f (R:=fun rq w'=>rq=W.heap.size+1∧RS (W.heap.size+1) W.heap.size (b09 vs) w'∧w'.heap.size=W.heap.size+2∧∀r,r<W.heap.size→w'.heap[r]? =W.heap[r]?) ((m0N hvW hvl).mono fun e w' ⟨h1,h2⟩=>⟨W.heap.size+1,h1,rfl,h2⟩) h1 fun A2 rq w2 h2 ⟨hrq,hS2,hs2,ho2⟩=>?_)
 subst hrq
 rw[y0o]
 refine a9 (z0l h2 fun A3 h3=>?_)
 rw[y0p]
 refine a9 (z0q h3 fun A4 h4=>?_)
 rw[y0q]
 have hopm:∀j,j<n→a7 W (oa j) (ops j):=fun j hj=>⟨fun k x hx=>by
  obtain⟨opb,oo,e1,_,c0,c1,c2,c3,_⟩:=hI.hop j hj k x hx
  exact⟨opb,oo,e1,hWc c0,hWc c1,hWc c2,hWc c3⟩⟩
 have hwf:BDm (b09 vs):=(h0R (n:=B6 vs) (by unfold B6;omega) vs.tail).dm
 have hB0:RBD W w2 (fun r=>if r=W.heap.size+1 then 1 else if r=W.heap.size then 2 else 0) (W.heap.size+1) W.heap.size 0 0 ops oa oc (bs0 vs) (fun _=>0) (fun _=>.slice none 0 0) (fun _=>none) (fun _=>[]) none 0 none 0:=
  ⟨⟨hS2,hwf,by simp,by simp,by omega,ho2,fun r hr=>by rw[if_neg (by omega),if_neg (by omega)],fun r hr=>by rw[if_neg (by omega),if_neg (by omega)],fun i hi=>absurd hi (Nat.not_lt_zero _)⟩,⟨rfl,.inl ⟨rfl,rfl⟩⟩,⟨rfl,.inl ⟨rfl,rfl⟩⟩,fun g h=>(by cases h),fun g h=>(by cases h)⟩
 refine a9 (m0K (vs:=vs) (ol0:=ol0) hn64 hI.hn htl hI.hta (fun h=>by have:=hI.htb h;omega) (fun j hj=>⟨hWc (hI.hth j hj).1,(hI.hth j hj).2.2,hol j hj,hI.hlen j hj,fun h0=>by
  have hl:=hI.hlen j hj
  obtain⟨x,hx⟩:∃x,(ops j)[0]? =some x:=⟨_,List.getElem?_eq_getElem (by omega)⟩
  obtain⟨opb,oo,e1,_⟩:=hI.hop j hj 0 x hx
  exact⟨opb,oo,e1⟩⟩) hopm hB0 h4 fun A5 w5 lab tbs ov cp av la lc ea ec h5 hB5=>?_)
 rw[y0r]
 have h5s:=hB5.p.sz
 have h5o:=hB5.p.old
 have hSch:0<S.length→∃sb so,sa=some ⟨sb,so,none⟩∧∀(j:Nat) (u:Value),(S.map fun i:Int=>Value.int .i64 i)[j]? =some u→w5.cell? ⟨sb,so+j,none⟩=some u:=fun h0=>by
  obtain⟨sb,so,c,e,z,e1,_,e3,e4⟩:=hI.hS h0
  have hlt:=(Q3 e3)
  have hb:=((h5o sb (by omega)).trans (hWo sb hlt)).trans e3
  refine⟨sb,so,e1,fun j u hu=>?_⟩
  simp only[World.cell?,hb]
  simpa using(e4 j u hu).1
 refine a9 (y0l (R:=fun ub w'=>∃la' lc',D7 w' ub la' S.length lc' M 0 0 (.slice none 0 0) []∧w'.ownsRow 0 3 1 (.slice la' S.length lc') S.length (S.map fun i:Int=>Value.int .i64 i)∧w5.heap.size≤ub∧(∀g,(Value.slice la' S.length lc').ownBlock=some g→w5.heap.size≤g)∧(∀r,r<w5.heap.size→w'.heap[r]? =w5.heap[r]?)∧w5.heap.size≤w'.heap.size)
  ((m0E hM hSl hSch).mono fun e w' ⟨ub,la',lc',h1,h2⟩=>⟨ub,h1,la',lc',h2⟩) h5 fun A6 ub w6 h6 ⟨ta',tc',t1,t2,t3,t4,t5,t6⟩=>?_)
 have hB6:RPB W w6 lab (W.heap.size+1) W.heap.size n ops oa oc (N6 BPl ops n (bs0 vs)) tbs ov cp av:=hB5.p.frame t6 fun r hr _=>t5 r hr
 have hX6:RX W w6 lab n tbs (D2 (N6 BPl ops n (bs0 vs))) la lc ea ec ub ta' tc' M 0 0 (.slice none 0 0) [] S:=
  ⟨p08 hB5.l fun b c hb _=>t5 b (o5 hB5.l hb).1,p08 hB5.e fun b c hb _=>t5 b (o5 hB5.e hb).1,t1,t2,hB5.nl,hB5.ne,⟨by omega,hB5.p.lnew ub t3⟩,fun g hg=>⟨by have:=t4 g hg;omega,hB5.p.lnew g (t4 g hg)⟩,fun g h=>(by cases h),fun g h=>(by cases h)⟩
 have hT6:b0j W ops oa oc n M S (bs0 vs) (W.heap.size+1) W.heap.size tbs la lc ea ec ub ta' tc' (N6 BPl ops n (bs0 vs)) [] 0 0 lab ov cp av (.slice none 0 0) w6:=
  ⟨hB6,hX6,j0C _,Nat.zero_le _,Nat.zero_le _,Nat.zero_le _⟩
 rw[y0s]
 refine a9 (q0D hn64 hM2 hSl (fun j hj=>⟨hopm j hj,hopl j hj⟩) hT6 h6 fun A7 w7 s order p rd lab7 ov7 cp7 av7 tv h7 hT7 hend=>?_)
 obtain⟨xo,xoc,rfl⟩:=S2 hT7.x.t.row
 rw[y0v]
 refine a9 (y0m hn64 hT7.b.rs hT7.b.wf (h0w hT7.x.e) hT7.x.t.o h7 fun A8 w8 ob na nc h8 ho8 hob hV8=>?_)
 have k8:=hV8.old
 have s8:=hV8.size
 have h7s:=hT7.b.sz
 have ob8:=(Q3 ho8)
 rw[y06]
 refine a9 (v0N (t8:=w.heap.size) (tbs:=tbs) (va:=fun j=>x0v (ov7 j)) (vl:=fun j=>(av7 j).length) (vc:=fun j=>y0i (ov7 j)) hn64 h8 ho8 (fun j hj=>?_) fun A9 w9 xa xc h9 hAns=>?_)
 ·obtain⟨lb',cap',e1,h1⟩:=M5 (k:=j) hT7.x.l (x:=vP (tbs j) 0) (by simp[hj])
  cases e1
  have hlbl:lb'<w7.heap.size:=(o5 hT7.x.l rfl).1
  have hT:=hT7.b.th j hj
  have htl:=(Array.getElem?_eq_some_iff.1 hT.m.o).1
  refine⟨lb',rfl,by omega,(Z2 (k8 _ hlbl)).1.trans h1.c,by omega,(Z2 (k8 _ htl)).1.trans ?_⟩
  rw[← i0g hT.m.row]
  simp[World.cell?,hT.m.o]
 ·have k9:=hAns.old
  have s9:=hAns.size
  have hw8:w.heap.size<W.heap.size:=by omega
  have z9:w9.heap[w.heap.size]? =some (.cells #[.slice none 0 0,.slice none 0 0,.slice none 0 0,.bool false] 29 (0,0)):=(k9 _ (by omega) (by omega)).trans ((k8 _ (by omega)).trans ((hT7.b.old _ hw8).trans hW8))
  refine v0O h9 hAns.o z9 (by omega) fun w10 hw10 hs10=>?_
  have k10:∀r,r<w7.heap.size→r≠w.heap.size→w10.heap[r]? =w7.heap[r]?:=fun r hr hne=>(hw10 r hne).trans ((k9 r (by omega) (by omega)).trans (k8 r hr))
  have hlab:∀r,r<w7.heap.size→lab7 r≠0→w10.heap[r]? =w7.heap[r]?:=fun r hr h0=>k10 r hr fun e=>h0 (hT7.b.lold r (by omega))
  have hst:(!(List.range n).all (D2 s))=decide (0<L5 s.live n):=by
   have:=d05 (s:=s) (n:=n)
   cases h:(List.range n).all (D2 s)
   ·have:L5 s.live n≠0:=fun e=>by rw[this.2 e]at h;cases h
    simp;omega
   ·simp[this.1 h]
  refine⟨s,order,xa,xo,na,xc,xoc,nc,av7,fun j=>x0v (ov7 j),fun j=>y0i (ov7 j),by rw[hst],q0m hT7.r hend,?_,?_,?_,fun j hj=>⟨?_,(hT7.b.th j hj).an,fun a ha=>?_⟩,fun r hr=>(k10 r (by omega) (by omega)).trans ((hT7.b.old r (by omega)).trans (hWo r hr)),by omega,hT7.b.wf⟩
  ·exact c0E (p08 hT7.x.t.row fun b c hb _=>k10 b (o5 hT7.x.t.row hb).1 (by have:=(hT7.x.no b hb).1;omega))
  ·refine c0E (p08 hV8.row fun b c hb hc=>?_)
   have hn8:=hV8.new b hb
   have hb8:=(o5 hV8.row hb).1
   have hne:b≠ob:=fun e=>by
    rw[e,ho8]at hc
    simp only[Option.some.injEq,Obj.cells.injEq]at hc
    exact absurd hc.2.1 (by decide)
   exact(hw10 b (by omega)).trans (k9 b hb8 hne)
  ·exact c0E (p08 hAns.row fun b c hb _=>hw10 b (by have:=hAns.new b hb;omega))
  ·have hT:=hT7.b.th j hj
   have hrow:=hT.m.row
   have h':w10.ownsRow 0 49 3 (ov7 j) (av7 j).length (i5 (av7 j)):=p08 hrow fun b c hb _=>hlab b (hT.m.lt hb) (by rw[hT.lo b hb];omega)
   rw[i0g hrow]at h'
   exact c0E h'
  ·have hT:=hT7.b.th j hj
   obtain⟨a1,a2⟩:=hT.ls a ha
   exact SAL.of (a1.at' fun g hg=>hlab g (a1.lt hg) (by rw[a2 g hg];omega))
end
section
variable{An:G3}{W w w':World}
def BpL:List Nat:=[8,10,12,13,14,16,25,26,31,32,33,34,35,36,37,38,39,40,41,42,56,57,58,59]
def BpS(f:FuncId):Bool:=BpL.contains f
theorem f0n:BpL.all (codeOkF Tryd.prog fun f=>BpL.contains f)=true:=by kernel_rfl
theorem o04:Z5 Tryd.prog BpS true:=m0l f0n
theorem f0O{f:Nat}(hS:BpS f=true){fn:Func}(hf:Tryd.prog.funcs[f]? =some fn){args:Array Value}{R:Value→World→Prop}
 (H:∀τ e,Y6 Tryd.prog fn args (retape w τ e) R) {cl:Frame} {cs:List Frame} {main:Bool} {Stop:Goroutine→World→Prop}
 (K:∀v w' τ e,R v (retape w' τ e)→Gd F0 w w'→J0 Tryd.prog main F0 Stop (G (cl.finish v) cs) w'):J0 Tryd.prog main F0 Stop (G (Frame.enter Tryd.prog f args .normal) (cl::cs)) w:=by
 obtain⟨fn',h1,h2,c,h3,h4⟩:=k0b (List.all_eq_true.1 f0n f (List.contains_iff_mem.1 hS))
 rw[hf]at h1
 cases h1
 exact N7 o04 F6 hf h3 h4 H K
theorem c0K.keepP{va:Option Addr}{xs:List Int}(h:c0K w va xs)(hk:C9 w w'):c0K w' va xs:=fun i x hx=>by
 obtain⟨b,o,e,h1⟩:=h i x hx
 refine⟨b,o,e,?_⟩
 obtain⟨c,e2,z,ho⟩:=M3 h1
 have:=hk.2 _ _ _ _ ho
 rw[← h1];unfold World.cell?;simp only[this,ho]
theorem x8.keepP{N:Nat→Prop}{n tb o tl:Nat}{ta:Option Addr}{oa:Nat→Option Addr}{ol oc:Nat→Nat}{ops:Nat→List P3}{S:List Int}{sa:Option Addr}(h:x8 w N n tb o tl ta oa ol oc ops S sa)(hk:C9 w w'):x8 w' N n tb o tl ta oa ol oc ops S sa:=by
 have hc:∀{a:Addr} {v:Value},w.cell? a=some v→w'.cell? a=some v∧w'.frozen? a=w.frozen? a:=fun{a v} h=>by
  obtain⟨c,e,z,ho⟩:=M3 h
  have e1:w'.heap[a.block]? =w.heap[a.block]?:=(hk.2 _ _ _ _ ho).trans ho.symm
  exact⟨by rw[← h];unfold World.cell?;simp only[e1],by unfold World.frozen?;simp only[e1]⟩
 have hs:=hk.1
 refine⟨h.hn,h.hta,fun hp=>by have:=h.htb hp;omega,fun j hj=>?_,h.hlen,fun j hj k x hx=>?_,h.hsl,fun hp=>?_⟩
 ·obtain⟨h1,h2,h3⟩:=h.hth j hj
  exact⟨(hc h1).1,(hc h1).2.trans h2,h3⟩
 ·obtain⟨opb,oo,h1,h2,f0,f1,f2,f3,g0,g1,g2,g3⟩:=h.hop j hj k x hx
  exact⟨opb,oo,h1,h2,(hc f0).1,(hc f1).1,(hc f2).1,(hc f3).1,(hc f0).2.trans g0,(hc f1).2.trans g1,(hc f2).2.trans g2,(hc f3).2.trans g3⟩
 ·obtain⟨sb,so,c,e,z,h1,h2,h3,h4⟩:=h.hS hp
  exact⟨sb,so,c,e,z,h1,h2,hk.2 _ _ _ _ h3,h4⟩
section
variable{va ta sa:Option Addr}{vc tl tc sc n tb o M:Nat}{vs:List Int}{mo:Int}{oa:Nat→Option Addr}{ol oc:Nat→Nat}{ops:Nat→List P3}{S:List Int}
theorem a0d.same{u u':World}{v:Value}(h:a0d w ops n M S vs v u)(e:u'.heap=u.heap):a0d w ops n M S vs v u':=by
 obtain⟨s,order,xa,xo,xs,xc,xoc,xsc,Y,va,vc,h1,h2,h3,h4,h5,h6,h7,h8,h9⟩:=h
 exact⟨s,order,xa,xo,xs,xc,xoc,xsc,Y,va,vc,h1,h2,h3.heap e,h4.heap e,h5.heap e,fun j hj=>⟨(h6 j hj).1.heap e,(h6 j hj).2.1,fun a ha=>((h6 j hj).2.2 a ha).heap e⟩,fun r hr=>by rw[e];exact h7 r hr,by rw[e];exact h8,h9⟩
theorem m0M{w1 w2 w3:World}(hn64:n≤64)(hM1:M≤1048576){s:GS BPl}{order:List Nat}{aa:Nat}{rows:Nat→Value}{av:Nat→List SA}{oa1:Option Addr}{oc1:Nat}{xa1:Option Addr}{xc1:Nat}(hov:∃k,∀f,k≤f→a0K ops n M S f (bs0 vs)=(s,order))
 (hU:e0n w1 n (fun i=>(s.th i).ans) (V0.nums s.q) order aa rows av (.slice oa1 order.length oc1) (.slice xa1 (V0.nums s.q).length xc1) w2) {v:Value} (hR:a0d w2 ops n M S vs v w3):
 Y6 Tryd.prog Tryd.f8 #[.agg #[vL aa 0 n n,.slice oa1 order.length oc1,.slice xa1 (V0.nums s.q).length xc1,.bool (decide (0<L5 s.live n))],v] w3 fun v w'=>v= .bool true∧∀r,r<w3.heap.size→w'.heap[r]? =w3.heap[r]?:=by
 obtain⟨s2,order2,xa2,oa2,sa2,xc2,oc2,sc2,Y,va2,vc2,rfl,hov2,r1,r2,r3,r4,hk,hks,hdm⟩:=hR
 have e12:(s2,order2)=(s,order):=by
  obtain⟨k1,hk1⟩:=hov
  obtain⟨k2,hk2⟩:=hov2
  exact(hk2 (max k1 k2) (Nat.le_max_right _ _)).symm.trans (hk1 (max k1 k2) (Nat.le_max_left _ _))
 cases e12
 obtain⟨ca,hca,hcs,hci⟩:=hU.arr
 have hrow:∀i,i<n→∃a c,rows i= .slice a (av i).length c:=fun i hi=>by
  have h:=(hU.row i hi).2.2.1
  exact S2 h
 obtain⟨va1,hva1⟩:=Classical.axiomOfChoice (r:=fun i (p:Option Addr×Nat)=>i<n→rows i= .slice p.1 (av i).length p.2) (fun i=>by
  by_cases hi:i<n
  ·obtain⟨a,c,e⟩:=hrow i hi
   exact⟨(a,c),fun _=>e⟩
  ·exact⟨(none,0),fun h=>absurd h hi⟩)
 have el:(order.map fun i:Nat=>(i:Int)).length=order.length:=List.length_map _
 have eo:((order.map fun i:Nat=>(i:Int)).map fun v=>Value.int .i64 v)=order.map fun i:Nat=>vI i:=by rw[List.map_map];rfl
 have hol1:order.length<10000000:=by
  obtain⟨k,hk⟩:=hov
  have e:=hk k (Nat.le_refl _)
  have h1:=m0h (ops:=ops) (n:=n) (M:=M) (S:=S) (f:=k) (s:=bs0 vs)
  rw[e]at h1
  simp only at h1
  omega
 have hsl1:(V0.nums s.q).length<20000000:=by
  have h1:=j0z s.q
  have h2:=hdm.l
  have h3:=hdm.n
  omega
 have hlist:∀i,i<n→∀a∈av i,a.an.2.2.length≤65536:=fun i hi a ha=>by
  have h0:=(hU.row i hi).1
  have hm:a.an∈(av i).map SA.an:=List.mem_map_of_mem ha
  rw[h0]at hm
  obtain⟨k,hk⟩:=hov
  have e:=hk k (Nat.le_refl _)
  refine j0g (vs:=vs) (ops:=ops) (n:=n) (M:=M) (S:=S) (f:=k) i a.an ?_
  rw[e]
  exact hm
 rw[← el]
 refine y07 (w:=w3) (X:=av) (Y:=Y) (va:=fun i=>(va1 i).1) (ca:=fun i=>(va1 i).2) hn64 (by rw[el];exact hol1) hsl1 (fun i hi=>⟨Nat.lt_of_le_of_lt (hU.row i hi).2.1 (by decide),?_,fun a ha=>⟨(SAL.of ((hU.row i hi).2.2.2 a ha)).olds hk,Nat.lt_of_le_of_lt (hlist i hi a ha) (by decide)⟩,fun a ha=>(r4 i hi).2.2 a ha⟩) ?_ ?_ ?_ r2 ?_ r3 (fun i hi=>?_) (fun i hi=>(r4 i hi).1)
 ·rw[(hU.row i hi).1,(r4 i hi).2.1]
 ·rw[eo];exact(c0E hU.ord).olds hk
 ·rw[eo];exact r1
 ·exact(c0E hU.st).olds hk
 ·refine B5.olds (w:=w2) ⟨fun k x hx=>?_⟩ hk
  obtain⟨hkn,rfl⟩:k<n∧Value.slice (va1 k).1 (av k).length (va1 k).2=x:=by
   rw[List.getElem?_map,Option.map_eq_some_iff]at hx
   obtain⟨j,hj,rfl⟩:=hx
   have hjn:=(List.getElem?_eq_some_iff.1 hj).1
   rw[List.length_range]at hjn
   rw[List.getElem?_range hjn]at hj
   cases hj
   exact⟨hjn,rfl⟩
  refine⟨aa,0,rfl,?_⟩
  rw[Nat.zero_add,← hva1 k hkn]
  have h1:=hci k hkn
  simpa [World.cell?,hca]using h1
 ·have h1:=(hU.row i hi).2.2.1
  rw[hva1 i hi]at h1
  exact(c0E h1).olds hk
theorem i05(hg:d08 W)(hv:c0K W va vs)(hvc:vs.length≤vc)(hvl:vs.length<9223372036854775807)(hI:x8 W (fun r=>r=0) n tb o tl ta oa ol oc ops S sa)(htl:tl<1000000000000)(hol:∀j,j<n→ol j<1000000000000)(hM:min (max mo 0) 1048576=(M:Int))(hSl:S.length<10000000):
 Q4 An Tryd.prog (l0b An (g0M W)) (G (Frame.enter Tryd.prog 3 #[.slice va vs.length vc,.slice ta tl tc,.slice sa S.length sc,vI mo] .normal) []) W:=by
 have hn64:n≤64:=by have:=hI.hn;omega
 refine Z6 (F:=F0) (Stop:=fun a u=>∃A,G0 22 A [(0,.slice va vs.length vc),(1,.slice ta tl tc),(2,.slice sa S.length sc),(3,vI mo)]∧u.heap=W.heap∧a=G (Frame.enter Tryd.prog 7 #[] .normal) [bA 3 A [.inRegion (oC g0y) [0,1],.code f0m,.code j09]])
  (y09 fun A hA=>.stop fun d=>⟨A,hA,rfl,rfl⟩) fun a u ⟨A1,hA1,hu,ha⟩=>?_
 subst ha
 have k0:C9 W u:=.of (by rw[hu];exact Nat.le_refl _) fun r hr=>by rw[hu]
 refine m0f (hg.keep k0) fun w1 k1'=>?_
 have k1:=k0.trans k1'
 refine Z6 (F:=F0) (Stop:=fun a u=>∃A,G0 22 A [(0,.slice va vs.length vc),(1,.slice ta tl tc),(2,.slice sa S.length sc),(3,vI mo)]∧u.heap=w1.heap∧a=G (Frame.enter Tryd.prog 9 #[.slice va vs.length vc,.slice ta tl tc,.slice sa S.length sc,vI mo] .normal) [bA 3 A [.inRegion (oC a04) [4,5,6,7,8,9,10,11],.code .ret]])
  (z0a hA1 fun A hA=>.stop fun d=>⟨A,hA,rfl,rfl⟩) fun a u2 ⟨A2,hA2,hu2,ha⟩=>?_
 subst ha
 have k2:C9 W u2:=k1.trans (.of (by rw[hu2];exact Nat.le_refl _) fun r hr=>by rw[hu2])
 refine g0p (w:=u2) (hv.keepP k2) hvc (by omega) (hg.keep k2) (hI.keepP k2) hM fun s order hd hover aa rows av oa' oc' xa' xc' w5 hU=>?_
 have k5:C9 W w5:=k2.trans ⟨hU.size,hU.old⟩
 refine Z6 (F:=F0) (Stop:=l0b An (g0M W)) ?_ fun a u h=>Q4.stop h
 refine z0b hA2 fun A3 hA3=>f0O (f:=10) rfl Tryd.func10 (R:=fun x u=>a0d w5 ops n M S vs x u) (fun τ e=>(q0l (w:=retape w5 τ e) (tc:=tc) (sc:=sc) (fun i x h=>hv.keepP k5 i x h) hvl (N:=fun r=>r=0) ⟨hI.hn,hI.hta,(hI.keepP k5).htb,(hI.keepP k5).hth,hI.hlen,(hI.keepP k5).hop,hI.hsl,(hI.keepP k5).hS⟩ htl hol hM hSl).mono fun v u h=>h) fun v w6 τ e hR hgd=>?_
 have hR:a0d w5 ops n M S vs v w6:=hR.same rfl
 have hold6:∀r,r<w5.heap.size→w6.heap[r]? =w5.heap[r]?:=by
  obtain⟨_,_,_,_,_,_,_,_,_,_,_,_,_,_,_,_,_,h7,_⟩:=hR
  exact h7
 refine z0c hA3 fun A4 hA4=>f0O (f:=8) rfl Tryd.func8 (R:=fun x u=>x= .bool true∧∀r,r<w6.heap.size→u.heap[r]? =w6.heap[r]?) (fun τ e=>m0M (w3:=retape w6 τ e) hn64 (by omega) hover hU (hR.same rfl)) fun v w7 τ e hR7 hgd7=>?_
 obtain⟨rfl,hk7⟩:=hR7
 refine z0d hA4 fun A5 hA5=>.stop fun d=>q0i Tryd.func3 rfl (by decide) hA5.2.1 fun r c e z h=>?_
 have h5:=k5.2 _ _ _ _ h
 have h6:=(hold6 r (Q3 h5)).trans h5
 exact(hk7 r (Q3 h6)).trans h6
end
end
section
variable{F:Fz}{w:World}
end
section
variable{An:G3}{W w w':World}
theorem Old.keep(h:Old w w'):C9 w w':=.of h.sz h.eq
structure KB(w1 u:World)(E7:Nat)(l0:List Bool)(n:Nat)(ops:Nat→List P3)(oa:Option Addr)(oc:Nat)(xa:Nat→Option Addr)(xc:Nat→Nat)(ga:Option Addr)(vs:List Int):Prop where
 old:Old w1 u
 row:u.ownsRow 0 32 1 (.slice oa n oc) n ((List.range n).map fun r=>.slice (xa r) (ops r).length (xc r))
 new:∀g,(Value.slice oa n oc).ownBlock=some g→w1.heap.size≤g
 inn:∀r,r<n→u.ownsRow 0 44 4 (.slice (xa r) (ops r).length (xc r)) (ops r).length (opC (ops r))∧∀g,(Value.slice (xa r) (ops r).length (xc r)).ownBlock=some g→w1.heap.size≤g
 bl:g00 u E7 l0
 ib:∀g,(Value.slice oa n oc).ownBlock=some g→g≠E7
 vs:c0K u ga vs
 inw:w1.heap.size≤E7
theorem KB.ops_in{w1:World}{E7 n:Nat}{l0:List Bool}{ops:Nat→List P3}{oa ga:Option Addr}{oc:Nat}{xa:Nat→Option Addr}{xc:Nat→Nat}{vs:List Int}(h:KB w1 w E7 l0 n ops oa oc xa xc ga vs)(h0:0<w1.heap.size)(hn:n≤8)(hol:∀i,i<n→(ops i).length≤11){S:List Int}{sa:Option Addr}(hsl:S.length<9223372036854775808)
 (hS:0<S.length→∃sb so c e z,sa=some ⟨sb,so,none⟩∧sb≠0∧w.heap[sb]? =some (.cells c e z)∧∀(k:Nat) (u:Value),(S.map fun i:Int=>Value.int .i64 i)[k]? =some u→c[so+k]? =some u∧(decide (z.1≤so+k) && decide (so+k<z.2))=false):
 ∃tb,x8 w (fun r=>r=0) n tb 0 n oa xa (fun i=>(ops i).length) xc ops S sa∧(0<n→oa=some ⟨tb,0,none⟩):=by
 have htop:∃tb,(0<n→oa=some ⟨tb,0,none⟩∧tb<w.heap.size)∧∀j,j<n→At w ⟨tb,j,none⟩ (.slice (xa j) (ops j).length (xc j)):=by
  rcases h.row.2 with⟨_,h0⟩|⟨g,cap,cur,e,h1,h2,_⟩
  ·exact⟨0,fun hp=>by omega,fun j hj=>by omega⟩
  ·cases e
   refine⟨g,fun _=>⟨rfl,(Q3 h2)⟩,fun j hj=>?_⟩
   obtain⟨b,cap',e,h3⟩:=M5 h.row (k:=j) (x:=.slice (xa j) (ops j).length (xc j)) (by simp[hj])
   cases e
   exact h3
 obtain⟨tb,ht1,ht2⟩:=htop
 refine⟨tb,⟨by omega,fun hp=>(ht1 hp).1,fun hp=>(ht1 hp).2,fun j hj=>?_,fun j hj=>?_,fun j hj k x hx=>?_,hsl,fun hp=>?_⟩,fun hp=>(ht1 hp).1⟩
 ·have:=ht2 j hj
  refine⟨by rw[Nat.zero_add];exact this.c,by rw[Nat.zero_add];exact this.z,?_⟩
  rcases(h.inn j hj).1.2 with⟨e,h0⟩|⟨g,cap,cur,e,_,_,h3,_⟩
  ·omega
  ·simp only[Value.slice.injEq]at e
   rw[e.2.2]
   exact h3
 ·have:=hol j hj
  omega
 ·obtain⟨f0,f1,f2,f3⟩:=a0x _ _ _ hx
  obtain⟨b,cap,e,g0⟩:=M5 (h.inn j hj).1 f0
  obtain⟨_,_,e1,g1⟩:=M5 (h.inn j hj).1 f1
  obtain⟨_,_,e2,g2⟩:=M5 (h.inn j hj).1 f2
  obtain⟨_,_,e3,g3⟩:=M5 (h.inn j hj).1 f3
  have hnew:=(h.inn j hj).2 b (by rw[e];rfl)
  rw[e]at e1 e2 e3
  cases e1
  cases e2
  cases e3
  simp only[Value.slice.injEq]at e
  refine⟨b,0,e.1,fun h=>by omega,?_,?_,?_,?_,?_,?_,?_,?_⟩<;>rw[Nat.zero_add]
  ·exact g0.c
  ·exact g1.c
  ·exact g2.c
  ·exact g3.c
  ·exact g0.z
  ·exact g1.z
  ·exact g2.z
  ·exact g3.z
 ·obtain⟨sb,so,c,e,z,h1,h1',h2,h3⟩:=hS hp
  exact⟨sb,so,c,e,z,h1,h1',h2,h3⟩
theorem g01.congr{N n:Nat}{in0 in1:Nat→Bool}{ops:Nat→List P3}{s:GS BPl}(h:g01 N in0 n ops s)(e:∀x,x<N→in1 x=in0 x):g01 N in1 n ops s:=
 ⟨h.live,h.sz,h.wf,h.len,h.an,fun x hx=>by rw[e x hx];exact h.mem x hx,h.nd,fun x hx=>by have:=h.new x hx;exact⟨this.1,(e x this.1).trans this.2⟩⟩
end
section
open Go.ChangeShapes Go.WideShapes Go.ChangeAt
theorem o0C{H:Type}(d:DataW H):1≤Rows.uptoBulk d:=by
 cases d with
 | lit l=>cases l<;>simp[Rows.uptoBulk]
 | nil=>simp[Rows.uptoBulk]
 | ptr d=>simp[Rows.uptoBulk]
 | slice elems spare=>simp[Rows.uptoBulk]
 | agg parts=>simp[Rows.uptoBulk]
 | iface t d=>simp[Rows.uptoBulk]
 | map entries=>simp[Rows.uptoBulk]
 | held h=>simp[Rows.uptoBulk]
theorem f0Y{H:Type}{d:DataW H}{l:List (DataW H)}(h:d∈l):Rows.uptoBulk d≤Rows.uptoBulkAll l:=by
 induction l with
 | nil=>cases h
 | cons x r ih=>
   simp only[Rows.uptoBulkAll]
   cases List.mem_cons.1 h with
   | inl e=>subst e;omega
   | inr e=>have:=ih e;omega
theorem i0t{H:Type}(l:List (DataW H)):l.length≤Rows.uptoBulkAll l:=by
 induction l with
 | nil=>simp[Rows.uptoBulkAll]
 | cons x r ih=>have:=o0C x;simp only[Rows.uptoBulkAll,List.length_cons];omega
theorem e0l{H:Type}(elems spare:List (DataW H)):elems.length≤Rows.uptoBulk (.slice elems spare)∧∀d∈elems,Rows.uptoBulk d≤Rows.uptoBulk (.slice elems spare):=by
 have h1:=i0t elems
 simp only[Rows.uptoBulk]
 exact⟨by omega,fun d hd=>by have:=f0Y hd;omega⟩
section
variable{H:Type}{enc:TypeId×Value→H}{W:World}
theorem e0m{a:Addr}{v:Value}(h:W.cell? a=some v):∃c e z,W.heap[a.block]? =some (.cells c e z)∧c[a.off]? =some v:=by
 unfold World.cell? at h
 split at h
 ·rename_i c e z ho
  split at h
  ·cases h
  ·exact⟨c,e,z,ho,h⟩
 ·cases h
theorem m0b{b o:Nat}{c:Array Value}{e:TypeId}{z:Nat×Nat}(h:W.heap[b]? =some (.cells c e z))(hf:W.frozen? ⟨b,o,none⟩=false):(decide (z.1≤o) && decide (o<z.2))=false:=by
 simpa [World.frozen?,h]using hf
theorem p0p{t e:TypeId}(ht:Tryd.prog.underlying t=some (.slice e))(he:Tryd.prog.underlying e=some (.int .i64))(hc:Tryd.prog.cellsOf e=1){v:Value}{d:DataW H}{p:List MemPlace}(hv:∃a l c,v= .slice a l c)
 (h:DataW.Trod enc Tryd.prog W 0 (fun _=>true) true t v d p) (hz:W.noneFrozen p) (hl:∀x∈p,x.block<W.heap.size):
 ∃(a:Option Addr) (vs:List Int) (c b o:Nat),v= .slice a vs.length c∧vs.length≤Rows.uptoBulk d∧(0<vs.length→a=some ⟨b,o,none⟩∧b<W.heap.size∧∃c e z,W.heap[b]? =some (.cells c e z)∧∀(k:Nat) (u:Int),vs[k]? =some u→
  c[o+k]? =some (vI u)∧(decide (z.1≤o+k) && decide (o+k<z.2))=false∧W.cell? ⟨b,o+k,none⟩=some (vI u)∧W.frozen? ⟨b,o+k,none⟩=false):=by
 obtain⟨fuel,hf⟩:=h
 obtain⟨a0,l0,c0,rfl⟩:=hv
 rcases open_ints ht he hc hf with⟨h1,h2⟩|⟨a,len,cap,zs,h1,hb,hlc,_,hzl,h2,h3,_⟩
 ·simp[Value.cells]at h1
  obtain⟨rfl,rfl,rfl⟩:=h1
  exact⟨none,[],0,0,0,rfl,Nat.zero_le _,fun h=>by simp at h⟩
 ·simp only[if_true]at hzl
  simp[Value.cells]at h1
  obtain⟨rfl,rfl,rfl⟩:=h1
  simp only[Prod.mk.injEq]at h2
  obtain⟨rfl,rfl⟩:=h2
  have el:(zs.take l0).length=l0:=by simp;omega
  refine⟨some a,zs.take l0,c0,a.block,a.off,by rw[el],?_,fun hp=>?_⟩
  ·have:=(e0l (H:=H) (lits .i64 (zs.take l0)) (lits .i64 (zs.drop l0))).1
   simpa [lits]using this
  ·rw[el]at hp
   obtain⟨b,o,spot⟩:=a
   have hs:spot=none:=by
    have:=World.cell?_spot (h3 0 (by omega))
    simpa [Addr.add]using this
   subst hs
   have hc0:=h3 0 (by omega)
   rw[add_plain]at hc0
   obtain⟨c,e',z,ho,_⟩:=e0m hc0
   have hfr:∀k,k<zs.length→W.frozen? ⟨b,o+k,none⟩=false:=fun k hk=>hz b (o+k) (by simp only[MemPlace.row,List.mem_map,List.mem_range];exact⟨k,hk,rfl⟩)
   refine⟨rfl,(Q3 ho),c,e',z,ho,fun k u hk=>?_⟩
   have hkl:=(List.getElem?_eq_some_iff.1 hk).1
   rw[el]at hkl
   have hu:zs.getD k 0=u:=by
    rw[List.getElem?_take_of_lt hkl]at hk
    simp[List.getD,hk]
   have hck:=h3 k (by omega)
   rw[add_plain,hu]at hck
   obtain⟨c',e2,z',ho',hcc⟩:=e0m hck
   rw[ho]at ho'
   cases ho'
   exact⟨hcc,m0b ho (hfr k (by omega)),hck,hfr k (by omega)⟩
end
end
section
open Go.ChangeShapes Go.WideShapes Go.ChangeAt
set_option maxRecDepth 100000
section
variable{H:Type}{enc:TypeId×Value→H}{W:World}
theorem o0G:Tryd.prog.cellsOf 2=1:=by kernel_rfl
theorem p0w{v:Value}{d:DataW H}{p:List MemPlace}(hv:Value.okWide Tryd.prog W .any W.heap.size 22 v)
 (h:DataW.Trod enc Tryd.prog W 0 (fun _=>true) true 22 v d p):
 ∃(a:Option Addr) (vs:List Int) (c:Nat),v= .slice a vs.length c∧vs.length≤Rows.uptoBulk d∧c0K W a vs∧(a=none→vs=[]∧c=0):=by
 obtain⟨fuel,hf⟩:=h
 obtain⟨a0,l0,c0,rfl⟩:=okWide_slice Tryd.underlying22 hv
 rcases open_ints Tryd.underlying22 Tryd.underlying2 o0G hf with⟨h1,h2⟩|⟨a,len,cap,zs,h1,hb,hlc,_,hzl,h2,h3,h4⟩
 ·simp[Value.cells]at h1
  obtain⟨rfl,rfl,rfl⟩:=h1
  exact⟨none,[],0,rfl,Nat.zero_le _,fun i x hx=>by simp at hx,fun _=>⟨rfl,rfl⟩⟩
 ·simp only[if_true]at hzl
  simp[Value.cells]at h1
  obtain⟨rfl,rfl,rfl⟩:=h1
  simp only[Prod.mk.injEq]at h2
  obtain⟨rfl,rfl⟩:=h2
  have el:(zs.take l0).length=l0:=by simp;omega
  refine⟨some a,zs.take l0,c0,by rw[el],?_,fun k u hk=>?_,(fun h=>by cases h)⟩
  ·have:=(e0l (H:=H) (lits .i64 (zs.take l0)) (lits .i64 (zs.drop l0))).1
   simpa [lits]using this
  ·have hkl:=(List.getElem?_eq_some_iff.1 hk).1
   rw[el]at hkl
   obtain⟨b,o,spot⟩:=a
   have hs:spot=none:=by
    have:=World.cell?_spot (h3 0 (by omega))
    simpa [Addr.add]using this
   subst hs
   have hu:zs.getD k 0=u:=by
    rw[List.getElem?_take_of_lt hkl]at hk
    simp[List.getD,hk]
   have hck:=h3 k (by omega)
   rw[add_plain,hu]at hck
   exact⟨b,o,rfl,hck⟩
end
section
variable{H:Type}{enc:TypeId×Value→H}
theorem e0c{a:Assume}{C:Checked}{os:Os}{f:FuncId}{fn:Func}{s:OpenSpec}{F:Stop.Interp}{conds:List PathCond}{apart fresh handsOn again:Bool}{laid:List (String×DataW Unit)}
 (own:ownKnob C.prog.godebug=none) (started:os.Started) (hfn:C.prog.funcs[f]? =some fn)
 (witness:∃(w:World) (tape:Tape) (i:Input),w.os=os∧(w.forCall tape i).Shaped C.prog∧i.vars=[]∧Input.okWide C.prog (w.forCall tape i) .any w.heap.size f i∧
   s.preRow enc C.prog fn conds apart laid (w.forCall tape i).memory i.args∧a.holds C.prog (lone (Frame.enter C.prog f i.args .normal) [] (w.forCall tape i)))
 (runs:∀(W:World) (base:Nat) (args:Array Value) (ds gs:List (DataW H)) (before:List MemPlace),
   (∀(j:Nat) t v,fn.params[j]? =some t→args[j]? =some v→Value.okWide C.prog W .any base t v)→
   DataW.Whole enc C.prog fn.params.toList s.vars apart W args.toList ds gs before→
   (∀k,s.cond=some k→k H (ds++gs)=true)→
   laidMetH C.prog laid W→W.ShapedOpen C.prog→
   a.holds C.prog (lone (Frame.enter C.prog f args .normal) [] W)→
   ∃M last o w' t',runNT C.prog (M+1) (solo (G (Frame.enter C.prog f args .normal) []) W) #[]=(.ended o w',t')∧runN C.prog M (solo (G (Frame.enter C.prog f args .normal) []) W)= .next last∧
    step C.prog last= .ended o w'∧Conc.Good C.prog (fun v W'=>(s.at F).post enc C.prog fn apart fresh handsOn again W args v W') last o w' t'):
 ReturnsInLeavingWide a C os f .any (s.preRow enc C.prog fn conds apart laid) ((s.at F).post enc C.prog fn apart fresh handsOn again):=by
 refine returnsInLeavingWide_of_good own started witness ?_
 intro w tape i _ hsh _ hok hpre hholds
 obtain⟨_,_,_,fn',hfn',_,_,_,_,hval⟩:=hok
 have e:fn'=fn:=Option.some.inj (hfn'.symm.trans hfn)
 subst e
 obtain⟨⟨hp,hl⟩,_⟩:=hpre
 obtain⟨ds,gs,before,hw,_,hk⟩:=OpenSpec.pre_parts hp
 have hw':=DataW.Whole.of_heap (w':=w.forCall tape i) (by rfl) hw
 obtain⟨M,last,o,w',t',h1,h2,h3,h4⟩:=runs (w.forCall tape i) w.heap.size i.args ds gs before hval hw' hk (hl.of_heap (by rfl)) hsh hholds
 exact⟨M,last,o,w',t',h1,h2,h3,h4.mono fun v hp=>ChangeSpec.post_blind hp⟩
end
theorem y0k:0<Tryd.prog.globals.size:=of_decide_eq_true (by kernel_rfl)
theorem z0r:∃x,((begin Tryd.prog (fun _ _=>0) default).world.heap[0]?).bind Obj.row? =some x∧x.1.size=64:=by
 obtain⟨x,h1,h2⟩:=Option.map_eq_some_iff.1 (show(((begin Tryd.prog (fun _ _=>0) default).world.heap[0]?).bind Obj.row?).map (fun x=>x.1.size)=some 64 by kernel_rfl)
 exact⟨x,h1,h2⟩
theorem k0a{W:World}(hs:W.ShapedOpen Tryd.prog)(hT:d08 W){sb so:Nat}{c:Array Value}{e:TypeId}{z:Nat×Nat}{k:IntKind}{u:Int}(hk:k≠.u8)(h:W.heap[sb]? =some (.cells c e z))(hc:c[so]? =some (.int k u)):sb≠0:=fun h0=>by
 subst h0
 obtain⟨⟨zero,t⟩,x1,x2⟩:=z0r
 obtain⟨cs,h1,h2,_⟩:=hs.1 0 zero t y0k x1
 rw[h]at h1
 cases h1
 obtain⟨c2,e2,z2,h3,h4⟩:=hT
 rw[h]at h3
 cases h3
 have hso:=(Q3 hc)
 have:=h4 so (by simp only at x2;omega)
 rw[hc]at this
 cases this
 exact hk rfl
theorem l0u:Tryd.prog.cellsOf 3=1:=by kernel_rfl
end
section
open Go.ChangeShapes Go.WideShapes Go.ChangeAt
set_option maxRecDepth 100000
section
variable{H:Type}{enc:TypeId×Value→H}{W:World}
theorem q0V:Tryd.prog.cellsOf 44=4:=by kernel_rfl
theorem r0d:Tryd.prog.cellsOf 32=1:=by kernel_rfl
structure o0o(W:World)(b o:Nat)(x:P3):Prop where
 f0:W.cell? ⟨b,o,none⟩=some (vI x.kd)
 f1:W.cell? ⟨b,o+1,none⟩=some (vI x.a)
 f2:W.cell? ⟨b,o+2,none⟩=some (vI x.b)
 f3:W.cell? ⟨b,o+3,none⟩=some (vI x.c)
 g0:W.frozen? ⟨b,o,none⟩=false
 g1:W.frozen? ⟨b,o+1,none⟩=false
 g2:W.frozen? ⟨b,o+2,none⟩=false
 g3:W.frozen? ⟨b,o+3,none⟩=false
instance:Inhabited P3:=⟨⟨0,0,0,0⟩⟩
theorem ops_in{v:Value}{fuel:Nat}{d:DataW H}{p:List MemPlace}(h:DataW.trod enc Tryd.prog W 0 (fun _=>true) true fuel 32 [v]=some (d,p))(hz:W.noneFrozen p):
 ∃(a:Option Addr) (l c b o:Nat) (X:Nat→P3),v= .slice a l c∧l≤c∧l≤Rows.uptoBulk d∧∀k,k<l→a=some ⟨b,o,none⟩∧o0o W b (o+k*4) (X k):=by
 rcases Deep.open_slice Tryd.underlying32 h with⟨h1,h2⟩|⟨a,len,cap,m,n,D,Pl,h1,hb,hlc,_,hm,h2,hx⟩
 ·cases h1
  exact⟨none,0,0,0,0,fun _=>default,rfl,Nat.le_refl _,Nat.zero_le _,fun k hk=>by omega⟩
 ·simp only[if_true]at hm
  subst hm
  cases h1
  simp only[Prod.mk.injEq]at h2
  obtain⟨rfl,rfl⟩:=h2
  rw[q0V]at hx hz
  have hsp:0<len→a.spot=none:=fun hp=>by
   obtain⟨cs',e1,_⟩:=hx 0 (by omega)
   obtain⟨_,_,hcell⟩:=World.cells?_some e1
   have h0:=hcell 0 (by omega)
   rw[List.getElem?_eq_getElem (by omega)]at h0
   have:=World.cell?_spot h0
   simpa [Addr.add]using this
  have each:∀k,k<len→∃x:P3,∃b o,a=⟨b,o,none⟩∧o0o W b (o+k*4) x:=fun k hk=>by
   obtain⟨cs',e1,e2⟩:=hx k (by omega)
   obtain⟨_,hlen,hcell⟩:=World.cells?_some e1
   obtain⟨xs,n',hk',hxy,_,hxl,hf⟩:=DataW.trod_struct Tryd.underlying44 e2
   match xs,hxl,cs',hlen with
   | [y0,y1,y2,y3],_,[v0,v1,v2,v3],_=>
     have q0:=hf 0 _ rfl
     have q1:=hf 1 _ rfl
     have q2:=hf 2 _ rfl
     have q3:=hf 3 _ rfl
     simp[o0G,l0u]at q0 q1 q2 q3
     obtain⟨n0,r0,_,_⟩:=DataW.trod_int Tryd.underlying3 q0
     obtain⟨n1,r1,_,_⟩:=DataW.trod_int Tryd.underlying2 q1
     obtain⟨n2,r2,_,_⟩:=DataW.trod_int Tryd.underlying2 q2
     obtain⟨n3,r3,_,_⟩:=DataW.trod_int Tryd.underlying2 q3
     cases r0
     cases r1
     cases r2
     cases r3
     obtain⟨b,o,spot⟩:=a
     have c0:=hcell 0 (by omega)
     have c1:=hcell 1 (by omega)
     have c2:=hcell 2 (by omega)
     have c3:=hcell 3 (by omega)
     have hs:spot=none:=hsp (by omega)
     subst hs
     rw[add_plain,add_plain]at c0 c1 c2 c3
     have hfr:∀j,j<m*4→W.frozen? ⟨b,o+j,none⟩=false:=fun j hj=>hz b (o+j) (List.mem_append_left _ (by simp only[MemPlace.row,List.mem_map,List.mem_range];exact⟨j,hj,rfl⟩))
     exact⟨⟨n0,n1,n2,n3⟩,b,o,rfl,c0,c1,c2,c3,hfr _ (by omega),by rw[Nat.add_assoc];exact hfr _ (by omega),by rw[Nat.add_assoc];exact hfr _ (by omega),by rw[Nat.add_assoc];exact hfr _ (by omega)⟩
  obtain⟨X,hX⟩:=Deep.choose_lt each
  refine⟨some a,len,m,a.block,a.off,X,rfl,hlc,?_,fun k hk=>?_⟩
  ·have:=(e0l (H:=H) ((List.range len).map D) ((List.range (m - len)).map fun j=>D (len+j))).1
   simpa using this
  ·obtain⟨b,o,rfl,hh⟩:=hX k hk
   exact⟨rfl,hh⟩
theorem i0j{v:Value}{d:DataW H}{p:List MemPlace}(hv:∃a l c,v= .slice a l c)(h:DataW.Trod enc Tryd.prog W 0 (fun _=>true) true 23 v d p)(hz:W.noneFrozen p)(hN:∀(b o:Nat) (c:Array Value) (e:TypeId) (z:Nat×Nat) (k:IntKind) (u:Int),k≠.u8→W.heap[b]? =some (.cells c e z)→c[o]? =some (.int k u)→b≠0):
 ∃(a:Option Addr) (tl tc b o:Nat) (oa:Nat→Option Addr) (ol oc:Nat→Nat) (ops:Nat→List P3),v= .slice a tl tc∧tl≤Rows.uptoBulk d∧(∀j,j<tl→ol j≤Rows.uptoBulk d)∧
  ∀(S:List Int) (sa:Option Addr),S.length<9223372036854775808→(0<S.length→∃sb so c e z,sa=some ⟨sb,so,none⟩∧sb≠0∧W.heap[sb]? =some (.cells c e z)∧∀(k:Nat) (u:Value),(S.map fun i:Int=>Value.int .i64 i)[k]? =some u→c[so+k]? =some u∧(decide (z.1≤so+k) && decide (so+k<z.2))=false)→
   x8 W (fun r=>r=0) (min tl 64) b o tl a oa ol oc ops S sa:=by
 obtain⟨fuel,hf⟩:=h
 obtain⟨a0,l0,c0,rfl⟩:=hv
 rcases Deep.open_slice1 Tryd.underlying23 r0d hf with⟨h1,h2⟩|⟨a,len,cap,m,n,V,D,Pl,h1,hb,hlc,_,hm,h2,hx⟩
 ·simp[Value.cells]at h1
  obtain⟨rfl,rfl,rfl⟩:=h1
  refine⟨none,0,0,0,0,fun _=>none,fun _=>0,fun _=>0,fun _=>[],rfl,Nat.zero_le _,fun j hj=>by omega,fun S sa hl hS=>⟨rfl,fun h=>by simp at h,fun h=>by simp at h,fun j hj=>by simp at hj,fun j hj=>by simp at hj,fun j hj=>by simp at hj,hl,fun hp=>?_⟩⟩
  obtain⟨sb,so,c,e,z,e1,e0,e2,e3⟩:=hS hp
  exact⟨sb,so,c,e,z,e1,e0,e2,e3⟩
 ·simp only[if_true]at hm
  subst hm
  simp[Value.cells]at h1
  obtain⟨rfl,rfl,rfl⟩:=h1
  simp only[Prod.mk.injEq]at h2
  obtain⟨rfl,rfl⟩:=h2
  have each:∀j,j<l0→∃q:Option Addr×Nat×Nat×Nat×Nat×(Nat→P3),V j= .slice q.1 q.2.1 q.2.2.1∧q.2.1≤q.2.2.1∧q.2.1≤Rows.uptoBulk (D j)∧∀k,k<q.2.1→q.1=some ⟨q.2.2.2.1,q.2.2.2.2.1,none⟩∧o0o W q.2.2.2.1 (q.2.2.2.2.1+k*4) (q.2.2.2.2.2 k):=fun j hj=>by
   obtain⟨x1,x2,x3,x4,x5,x6,e1,e2,e3,e4⟩:=ops_in (hx j (by omega)).2 (fun b o hm=>hz b o (List.mem_append_right _ (List.mem_flatMap.2 ⟨j,List.mem_range.2 (by omega),hm⟩)))
   exact⟨⟨x1,x2,x3,x4,x5,x6⟩,e1,e2,e3,e4⟩
  obtain⟨q,hq⟩:=Deep.choose_lt each
  have hbs:=e0l (H:=H) ((List.range l0).map D) ((List.range (c0 - l0)).map fun j=>D (l0+j))
  refine⟨some a,l0,c0,a.block,a.off,fun j=>(q j).1,fun j=>(q j).2.1,fun j=>(q j).2.2.1,fun j=>(List.range (min (q j).2.1 65536)).map (q j).2.2.2.2.2,rfl,by simpa using hbs.1,fun j hj=>Nat.le_trans (hq j hj).2.2.1 (hbs.2 _ (List.mem_map.2 ⟨j,List.mem_range.2 hj,rfl⟩)),fun S sa hl hS=>?_⟩
  have hsp:0<l0→a=⟨a.block,a.off,none⟩:=fun hp=>by
   obtain⟨b,o,spot⟩:=a
   have hs:spot=none:=by
    have:=World.cell?_spot (hx 0 (by omega)).1
    simpa [Addr.add]using this
   subst hs
   rfl
  have hcell:∀j,j<l0→W.cell? ⟨a.block,a.off+j,none⟩=some (.slice (q j).1 (q j).2.1 (q j).2.2.1):=fun j hj=>by
   have:=(hx j (by omega)).1
   rw[hsp (by omega),add_plain,(hq j hj).1]at this
   exact this
  refine⟨rfl,fun hp=>by rw[← hsp (by omega)],fun hp=>?_,fun j hj=>⟨hcell j (by omega),?_,(hq j (by omega)).2.1⟩,fun j hj=>by simp,fun j hj k x hk=>?_,hl,fun hp=>?_⟩
  ·obtain⟨c,e,z,ho,_⟩:=e0m (hcell 0 (by omega))
   exact(Q3 ho)
  ·exact hz a.block (a.off+j) (List.mem_append_left _ (by simp only[MemPlace.row,List.mem_map,List.mem_range];exact⟨j,by omega,rfl⟩))
  ·have hkl:=(List.getElem?_eq_some_iff.1 hk).1
   simp only[List.length_map,List.length_range]at hkl
   have hx':(q j).2.2.2.2.2 k=x:=by
    rw[List.getElem?_map,List.getElem?_range hkl]at hk
    simpa using hk
   obtain⟨e1,e2⟩:=(hq j (by omega)).2.2.2 k (by omega)
   rw[hx']at e2
   obtain⟨cc,ce,cz,ho,hcc⟩:=e0m e2.f0
   exact⟨_,_,e1,hN _ _ _ _ _ .i64 _ (by decide) ho hcc,e2.f0,e2.f1,e2.f2,e2.f3,e2.g0,e2.g1,e2.g2,e2.g3⟩
  ·obtain⟨sb,so,c,e,z,e1,e0,e2,e3⟩:=hS hp
   exact⟨sb,so,c,e,z,e1,e0,e2,e3⟩
theorem m0X{base:Nat}{spare:Nat→Bool}{held:Bool}{t t' t'' t3:TypeId}{args:Array Value}{ds:List (DataW H)}{ps:List MemPlace}(h:DataW.TrodAll enc Tryd.prog W base spare held [t,t',t'',t3] args.toList ds ps):
 ∃v v' v'' v3 d d' d'' d3 p p' p'' p3,args= #[v,v',v'',v3]∧ds=[d,d',d'',d3]∧ps=p++p'++p''++p3∧DataW.Trod enc Tryd.prog W base spare held t v d p∧DataW.Trod enc Tryd.prog W base spare held t' v' d' p'∧DataW.Trod enc Tryd.prog W base spare held t'' v'' d'' p''∧DataW.Trod enc Tryd.prog W base spare held t3 v3 d3 p3:=by
 obtain⟨v,vs,d,ds',p,q,hargs,rfl,rfl,hd,hrest⟩:=trodAll_cons h
 obtain⟨v',vs',d',ds'',p',q',rfl,rfl,rfl,hd',hrest'⟩:=trodAll_cons hrest
 obtain⟨v'',vs'',d'',dsx,p'',q'',rfl,rfl,rfl,hd'',hrest''⟩:=trodAll_cons hrest'
 obtain⟨v3,vs3,d3,dsy,p3,q3,rfl,rfl,rfl,hd3,hrest3⟩:=trodAll_cons hrest''
 obtain⟨rfl,rfl,rfl⟩:=trodAll_nil hrest3
 exact⟨v,v',v'',v3,d,d',d'',d3,p,p',p'',p3,by cases args;simp_all,rfl,by simp,hd,hd',hd'',hd3⟩
end
section
variable{H:Type}{enc:TypeId×Value→H}
def wArgs4:Array Value:= #[.slice none 0 0,.slice none 0 0,.slice none 0 0,vI 0]
theorem p0o{W:World}{a:Option Addr}{l c:Nat}{d:DataW H}{p:List MemPlace}(h:DataW.Trod enc Tryd.prog W 0 (fun _=>true) true 22 (.slice a l c) d p):l≤c:=by
 obtain⟨fuel,hf⟩:=h
 rcases open_ints Tryd.underlying22 Tryd.underlying2 o0G hf with⟨h1,h2⟩|⟨a,len,cap,zs,h1,hb,hlc,hm,hzl,h2,h3,_⟩
 ·simp[Value.cells]at h1
  omega
 ·simp[Value.cells]at h1
  omega
theorem m0D(os:Os):laidMet Tryd.prog Rows.bitsPlaysUptoRow.laid ((c09 os).forCall (fun _ _=>0) ⟨#[],wArgs4,[]⟩).memory:=
 laidMet_of_run' 8 (by kernel_rfl) (by kernel_rfl)
theorem v0M(os:Os){H:Type}(enc:TypeId×Value→H):∃places,DataW.whole enc Tryd.prog ((c09 os).forCall (fun _ _=>0) ⟨#[],wArgs4,[]⟩).memory Tryd.f3.params.toList (Rows.OpenSpec.upto Rows.bitsPlaysSpec).vars false wArgs4.toList 8=some ([.nil,.nil,.nil,.lit (.int .i64 0)],[],places):=
 ⟨[],by kernel_rfl⟩
theorem f0X(os:Os)(started:os.Started)(H:Type)(enc:TypeId×Value→H)(F:Stop.Interp):
 ReturnsInLeavingWide {} Tryd.checked os 3 .any ((Rows.OpenSpec.upto Rows.bitsPlaysSpec).preRow enc Tryd.prog Tryd.f3 Rows.bitsPlaysUptoRow.domain false Rows.bitsPlaysUptoRow.laid) (((Rows.OpenSpec.upto Rows.bitsPlaysSpec).at F).post enc Tryd.prog Tryd.f3 false true false false):=by
 obtain⟨places,hx⟩:=v0M os enc
 refine e0c (C:=Tryd.checked) (s:=Rows.OpenSpec.upto Rows.bitsPlaysSpec) Tryd.own started Tryd.func3
  (witness_row_at (enc:=enc) (C:=Tryd.checked) false (c09 os) wArgs4 rfl (by kernel_rfl) (by kernel_rfl) (by kernel_rfl)
    (OpenSpec.preRow_of_cond 8 hx (by kernel_rfl) (fun k hk=>by cases hk;kernel_rfl) (by kernel_rfl) (m0D os))) ?_
 intro W base args ds gs before hval0 hW hkk0 hL hsh _
 have hkk:Rows.uptoSmall H (ds++gs)=true:=hkk0 _ rfl
 have hT:d08 W:=z0g hL
 have hval:∀(j:Nat) t v,Tryd.f3.params[j]? =some t→args[j]? =some v→Value.okWide Tryd.prog W .any base t v:=hval0
 have hW':=hW
 obtain⟨p,q,hA0,hV,rfl,hfz,_⟩:=hW
 have hA:DataW.TrodAll enc Tryd.prog W 0 (fun _=>true) true Tryd.f3.params.toList args.toList ds p:=hA0
 rw[Tryd.params3]at hA hval
 obtain⟨v0,v1,v2,v3,d0,d1,d2,d3,p0,p1,p2,p3,rfl,rfl,rfl,h0,h1,h2,h3⟩:=m0X hA
 obtain⟨rfl,rfl⟩:=trodVars_none hV
 clear hA0 hval0
 simp only[List.append_nil,List.nil_append]at hW' hfz hkk
 have hlt:∀x∈p0++p1++p2++p3,x.block<W.heap.size:=fun x hx=>by simpa using hW'.lt x hx
 have hb:Rows.uptoBulkAll [d0,d1,d2,d3]≤1048576:=by simpa [Rows.uptoSmall]using hkk
 have b0:Rows.uptoBulk d0≤1048576:=Nat.le_trans (f0Y (by simp)) hb
 have b1:Rows.uptoBulk d1≤1048576:=Nat.le_trans (f0Y (by simp)) hb
 have b2:Rows.uptoBulk d2≤1048576:=Nat.le_trans (f0Y (by simp)) hb
 have hN:∀(b o:Nat) (c:Array Value) (e:TypeId) (z:Nat×Nat) (k:IntKind) (u:Int),k≠.u8→W.heap[b]? =some (.cells c e z)→c[o]? =some (.int k u)→b≠0:=fun b o c e z k u hk h hc=>k0a hsh hT hk h hc
 obtain⟨va,vs,vc,rfl,l0,r0,n0⟩:=p0w (hval 0 22 v0 rfl rfl) h0
 obtain⟨ta,tl,tc,tb,o,oa,ol,oc,ops,rfl,l1,l1',r1⟩:=i0j (okWide_slice Tryd.underlying23 (hval 1 23 v1 rfl rfl)) h1 (fun b o h=>hfz b o (by simp[h])) hN
 obtain⟨sa,S,sc,sb,so,rfl,l2,r2⟩:=p0p Tryd.underlying24 Tryd.underlying3 l0u (okWide_slice Tryd.underlying24 (hval 2 24 v2 rfl rfl)) h2 (fun b o h=>hfz b o (by simp[h])) (fun x hx=>hlt x (by simp[hx]))
 obtain⟨mo,hv3,_,_,_⟩:=open_int Tryd.underlying3 (hval 3 3 v3 rfl rfl) h3
 subst hv3
 have hvc:vs.length≤vc:=p0o h0
 have hS:0<S.length→∃sb so c e z,sa=some ⟨sb,so,none⟩∧sb≠0∧W.heap[sb]? =some (.cells c e z)∧∀(k:Nat) (u:Value),(S.map fun i:Int=>Value.int .i64 i)[k]? =some u→c[so+k]? =some u∧(decide (z.1≤so+k) && decide (so+k<z.2))=false:=fun hp=>by
  obtain⟨e1,_,c,e,z,e2,e3⟩:=r2 hp
  have h00:=(e3 0 (S[0]) (by simp)).1
  refine⟨sb,so,c,e,z,e1,k0a hsh hT (k:=.i64) (by decide) e2 h00,e2,fun k u hk=>?_⟩
  rw[List.getElem?_map,Option.map_eq_some_iff]at hk
  obtain⟨x,hx,rfl⟩:=hk
  obtain⟨q1,q2,_⟩:=e3 k x hx
  exact⟨q1,q2⟩
 have hI:=r1 S sa (by omega) hS
 obtain⟨M,hM⟩:∃M:Nat,min (max mo 0) 1048576=(M:Int):=⟨(min (max mo 0) 1048576).toNat,by omega⟩
 have hbes:=i05 (An:=⟨W.heap.size,W⟩) (W:=W) (tc:=tc) (sc:=sc) hT r0 hvc (by omega) hI (by omega) (fun j hj=>by have:=l1' j (by omega);omega) hM (by omega)
 obtain⟨N,last,o',w',t',g1,g2,g3,g4⟩:=o0v (An:=⟨W.heap.size,W⟩) (Post:=fun v w'=>g0M W v w'∧(⟨W.heap.size,W⟩:G3).Holds w') (W:=W) ⟨rfl,rfl,rfl,Nat.le_refl _,fun r o _ h _=>h⟩ (Q4.bind hbes fun g w h=>Q4.stop ⟨h.1,fun d=>by
  obtain⟨v,e1,e2⟩:=h.2 d
  exact⟨v,e1,fun hh=>⟨e2 hh,hh⟩⟩⟩)
 refine⟨N,last,o',w',t',g1,g2,g3,g4.mono fun v hF=>?_⟩
 obtain⟨⟨rfl,hk⟩,hh⟩:=hF
 have hbelow:=o0u hh hk
 have q0:=Below.trod Tryd.laidOut (by kernel_rfl) (of_decide_eq_true (by kernel_rfl)) h0 hbelow (fun x hx=>hlt x (by simp[hx]))
 have q1:=Below.trod Tryd.laidOut (by kernel_rfl) (of_decide_eq_true (by kernel_rfl)) h1 hbelow (fun x hx=>hlt x (by simp[hx]))
 have q2:=Below.trod Tryd.laidOut (by kernel_rfl) (of_decide_eq_true (by kernel_rfl)) h2 hbelow (fun x hx=>hlt x (by simp[hx]))
 have q3:=Below.trod Tryd.laidOut (by kernel_rfl) (of_decide_eq_true (by kernel_rfl)) h3 hbelow (fun x hx=>hlt x (by simp[hx]))
 refine⟨_,_,_,[],p0++(p1++(p2++(p3++[]))),[],hW',?_,?_,rfl,hbelow.frame _,fun h=>by cases h⟩
 ·exact trodAll_mk1 (shut_bool Tryd.underlying4 true)
 ·exact⟨p0,_,q0,⟨p1,_,q1,⟨p2,_,q2,⟨p3,[],q3,trodAll_mk0,rfl⟩,rfl⟩,rfl⟩,rfl⟩
theorem f0e:Rows.BitsPlaysUptoSaid:=
 b04 3 Tryd.f3 rfl rfl rfl rfl rfl rfl rfl ⟨rfl,rfl,rfl,rfl,rfl⟩ rfl rfl rfl rfl rfl (by kernel_rfl) Tryd.func3 (by kernel_rfl)
  (of_decide_eq_true (by kernel_rfl)) (by unfold Func.isWrapper;first|(rw[if_pos (by decide +kernel)];kernel_rfl)|(rw[if_neg (by decide +kernel)];exact⟨rfl,rfl⟩))
  (fun os started H enc _ F=>by rw[OpenClaim.pre_eq_preRow];exact f0X os started H enc F)
theorem v0L (f : FuncId) (fn : Func) (hf : Tryd.pinned.checked.prog.funcNamed "carillon/carillonlaw04.BitsPlays" = some f) (hfn : Tryd.pinned.checked.prog.funcs[f]? = some fn) :
 true=Tryd.pinned.checked.prog.looks []∧∀(j:Nat) t,fn.params[j]? =some t→Tryd.pinned.checked.prog.wantsStandIn t=false:=by
 obtain rfl : f = 3 := Option.some.inj ((show Tryd.prog.funcNamed "carillon/carillonlaw04.BitsPlays" = some 3 by kernel_rfl).symm.trans hf) |>.symm
 obtain rfl:fn=Tryd.f3:=(Option.some.inj (Tryd.func3.symm.trans hfn)).symm
 refine⟨by kernel_rfl,fun j t ht=>?_⟩
 rw[Tryd.params3]at ht
 have hm:=Array.mem_of_getElem? ht
 have:t=22∨t=23∨t=24∨t=3:=by simpa using hm
 rcases this with rfl|rfl|rfl|rfl
 ·exact(show Tryd.prog.wantsStandIn 22=false by kernel_rfl)
 ·exact(show Tryd.prog.wantsStandIn 23=false by kernel_rfl)
 ·exact(show Tryd.prog.wantsStandIn 24=false by kernel_rfl)
 ·exact(show Tryd.prog.wantsStandIn 3=false by kernel_rfl)
theorem bitsPlays_holds:Rows.BitsPlaysUptoCardSaid:=
 m0i _ _ _ _ f0e (by kernel_rfl) bitsPlaysUpto_row_tie rfl ⟨rfl,rfl⟩ (by kernel_rfl) rfl v0L (by kernel_rfl)
end
end
end Go.Proofs.YtlcgkpapnpdfpaaDoor
