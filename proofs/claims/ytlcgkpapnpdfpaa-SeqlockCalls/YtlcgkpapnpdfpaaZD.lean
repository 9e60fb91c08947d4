/-
  Of SeqlockCalls, where what it reads is of bulk at most 1048576 (OpenSpec.upto): the calls of one thread answer as the machine's do, and take its steps. The condition of the Upto form, nothing else.
  Part 4 of 5.
-/
import Derived.Test.YtlcgkpapnpdfpaaZC
import Derived.Deep.DrawnRows
import Derived.Deep.RegionLaw
import Derived.Deep.RegionLawGrows
import Derived.Deep.DeepAppendRoom
import Derived.ArgAppend
import Derived.Deep.LoopGhost
import Derived.StillTailTactics
import Derived.Deep.RegionHeld3
set_option linter.unusedSimpArgs false
set_option linter.unusedVariables false
set_option linter.unusedSectionVars false
set_option maxRecDepth 100000
set_option maxHeartbeats 8000000
namespace Go.Proofs.Ytlcgkpapnpdfpaa
open Go Go.Conc Go.RowKit Go.Proofs
noncomputable section
variable {cs:List Frame}{main:Bool}{Stop:Goroutine→World→Prop}
variable{F:Fz}{w:World}
theorem D9(X:World)(x y z x' y' z':Value):(((X.alloc (.cells #[x,y,z] 44)).setCell ⟨X.heap.size,0,none⟩ x').setCell ⟨X.heap.size,1,none⟩ y').setCell ⟨X.heap.size,2,none⟩ z'=X.alloc (.cells #[x',y',z'] 44):=by go_simp
def s5:Code:=Try.f55.body.getD .skip
def z08:=pC [] s5
def u0x:=pC [zt] s5
def u0B:=pC [zf] s5
def u0y:=pC [zf,zt] s5
def o0N:=pC [zf] u0B
def u0C:=pC [zt] o0N
def u0z:=pC [zf,zf,zt,zt] s5
def o0L:=pC [zf] u0C
def o0M:=pC [zt] o0L
def J9:=pC [zt] o0M
def o0O:=pC [zt] J9
def l0p:=pC [zf,zf,zt,zf,zt,zt,zt,zt] s5
def u0w:=pC [zf] o0O
def o0P:=pC [zf] J9
def u0v:=pC [zt] o0P
def l0r:=pC [zf,zf,zt,zf,zt,zt,zf,zt,zt] s5
def l0q:=pC [zf,zf,zt,zf,zt,zt,zf,zf] s5
def f03:=pC [zf] o0N
def u0A:=pC [zf,zf,zf,zt] s5
theorem w0Y:o0L= .block 0 o0M:=by kernel_rfl
theorem w01:o0M= .loop J9:=by kernel_rfl
theorem w0Z:u0v= .block 1 l0r:=by kernel_rfl
theorem w03:l0r= .region 5 (oC l0r) false:=by kernel_rfl
theorem w02:l0q= .region 4 (oC l0q) false:=by kernel_rfl
theorem m08(args:Array Value):Frame.enter Try.prog 55 args .normal=(Go.Conc.base 55).at {tmps:=args++Array.replicate (23 - args.size) undef,defers:=[]} [.code z08]:=enter_at args Try.func55 rfl
theorem callable55:O1 55:=G2 Try.func55 rfl rfl
def o0K(s:Nat→Value):Array Value:= #[s 0,s 1,s 2,s 3,s 4,s 5,s 6,s 7,s 8,s 9,s 10,s 11,s 12,s 13,s 14,s 15,s 16,s 17,s 18,s 19,s 20,s 21,s 22]
theorem D0M{A:Array Value}(h:A.size=23):∃s,A=o0K s:=by
 obtain⟨s,hs,_⟩:=Y4 A h
 exact⟨s,hs⟩
theorem z05{nn:Nat}(hU:P2 F nn)(hn:nn≤w.heap.size){n:Nat}{kd a b c0:Int}
 (h:∀A,G0 23 A [(1,vI (n:Nat)),(2,vP w.heap.size 0),(5,.slice none 0 0),(6,vI (0:Nat))]→J0 Try.prog main F Stop (G (bA 55 A [.code J9,.inLoop J9,.inBlock 0,.code f03]) cs) (w.alloc (.cells #[vI kd,vI a,vI b,vI c0] 47))):
 J0 Try.prog main F Stop (G (Frame.enter Try.prog 55 #[.agg #[vI kd,vI a,vI b,vI c0],vI (n:Nat)] .normal) cs) w:=by
 rw[m08]
 walk_nrm
 refine ogW u0x u0B ?_
 simp only[u0x,s5,Try.f55,zz,Nat.reduceAdd]
 refine oA hU ?_
 refine oT ?_
 refine S0<|ogW u0y o0N ?_
 simp only[u0y,s5,Try.f55,zz,Nat.reduceAdd]
 refine oT ?_
 refine S0<|ogV u0C f03<|ogW u0z o0L ?_
 simp only[u0z,s5,Try.f55,zz,Nat.reduceAdd]
 refine oT ?_
 refine S0 ?_
 rw[w0Y]
 refine L7 ?_
 rw[w01]
 refine ogP ?_
 refine h _ ?_
 exact⟨rfl,rfl,rfl,rfl,rfl,trivial⟩
theorem z06{ov:Value}{pb n i:Nat}{kd a b c0:Int}(hn16:n≤16)(hi:i<n){xs:List Int}(hx:xs.length≤16){nn:Nat}(hU:P2 F nn)(hn:nn≤w.heap.size)(hwf:Wf F w)(hrow:w.ownsRow 0 2 1 ov xs.length (xs.map fun v=>vI v))(hF:∀b,ov.ownBlock=some b→F b=none)(hob:w.heap[pb]? =some (.cells #[vI kd,vI a,vI b,vI c0] 47 (0,0))){A:Array Value}(hA:G0 23 A [(1,vI (n:Nat)),(2,vP pb 0),(5,ov),(6,vI (i:Nat))])
 (h:∀ov' w' A,f8 F w w' ov ov' xs (i6 (b+i6 (i*c0)))→G0 23 A [(1,vI (n:Nat)),(2,vP pb 0),(5,ov'),(6,vI (i+1:Nat))]→J0 Try.prog main F Stop (G (bA 55 A [.code J9,.inLoop J9,.inBlock 0,.code f03]) cs) w'):
 J0 Try.prog main F Stop (G (bA 55 A [.code J9,.inLoop J9,.inBlock 0,.code f03]) cs) w:=by
 obtain⟨s,rfl,h1,h2,h5,h6,_⟩:=Y3 o0K hA
 simp only[o0K,h1,h2,h5,h6]
 clear h1 h2 h5 h6
 have hk64:IntKind.i64.wrap ((i:Int)+1)=(i:Int)+1:=IntWalk.i64_in _ (by omega)
 have hin:(i:Int)<(n:Int):=by omega
 have hin2:i<n:=by omega
 have hlt:decide ((i:Int)<(n:Int))=true:=by simp;omega
 have hlt2:decide (i<n)=true:=by simp;omega
 have cb2:w.cell? ⟨pb,2,none⟩=some (vI b):=by simp[World.cell?,hob]
 have cb3:w.cell? ⟨pb,3,none⟩=some (vI c0):=by simp[World.cell?,hob]
 refine ogV o0O o0P<|ogW l0p u0w ?_
 simp only[l0p,s5,Try.f55,zz,Nat.reduceAdd]
 iterate 3 refine oT ?_
 refine S0<|ogYn .skip<|ogK<|ogV u0v l0q ?_
 rw[w0Z]
 refine L7 ?_
 rw[w03]
 refine ogR ?_
 simp only[l0r,s5,Try.f55,zz,Nat.reduceAdd]
 iterate 2 refine oT ?_
 refine oL ?_
 iterate 2 refine oT ?_
 refine oL ?_
 iterate 2 refine oT ?_
 refine oA hU ?_
 refine S8 (s:=.tmp 12) (x:=.tmp 20) (t:=22) (e:=2) (sz:=1) (bytes:=8) (news:=[vI (i6 (b+i6 (i*c0)))]) (m:=1) (c:=1) (ad:=⟨w.heap.size,0,none⟩) Try.underlying22 i8 (by decide) rfl rfl (by decide) rfl (hwf.of_grew (P0 hU hn _)) (v:=ov) rfl rfl (hrow.alloc _) hF rfl (N4 (X:=w) (l:=[vI (i6 (b+i6 (i*c0)))]) rfl) (by intro q hq;simp at hq;subst hq;rfl) (by unfold maxLen;omega) (by omega) fun ov' w' g1 g2 g3 g4 g5=>?_
 have hg:f8 F w w' ov ov' xs (i6 (b+i6 (i*c0))):=⟨by rw[List.map_append];exact g1,g2,by simp at g3;omega,fun q hq hne=>by rw[g4 q (by simp;omega) hne,D0 _ _ hq],g5.imp_right fun⟨g,h1,h2⟩=>⟨g,h1,by simp at h2;omega⟩⟩
 clear g1 g2 g3 g4 g5 hrow hwf
 walk_nrm
 refine oT ?_
 refine S0<|ogI ?_
 rw[w02]
 refine ogR ?_
 simp only[l0q,s5,Try.f55,zz,Nat.reduceAdd]
 iterate 3 refine oT ?_
 refine S0<|ogL ?_
 refine h ov' w' _ hg ?_
 exact⟨rfl,rfl,rfl,rfl,rfl,trivial⟩
theorem z07{ov:Value}{pb n:Nat}{A:Array Value}(hA:G0 23 A [(1,vI (n:Nat)),(2,vP pb 0),(5,ov),(6,vI (n:Nat))]){c:Frame}
 (h:J0 Try.prog main F Stop (G (c.finish ov) cs) w):
 J0 Try.prog main F Stop (G (bA 55 A [.code J9,.inLoop J9,.inBlock 0,.code f03]) (c::cs)) w:=by
 obtain⟨s,rfl,h1,h2,h5,h6,_⟩:=Y3 o0K hA
 simp only[o0K,h1,h2,h5,h6]
 clear h1 h2 h5 h6
 have hlt:decide ((n:Int)<(n:Int))=false:=by simp
 have hlt2:decide (n<n)=false:=by simp
 refine ogV o0O o0P<|ogW l0p u0w ?_
 simp only[l0p,s5,Try.f55,zz,Nat.reduceAdd]
 iterate 3 refine oT ?_
 refine S0<|ogGn (.exit 0) ?_
 refine Q0 rfl (fun d=>stepG_exit rfl) ?_
 refine ogW u0A .ret ?_
 simp only[u0A,s5,Try.f55,zz,Nat.reduceAdd]
 iterate 2 refine oT ?_
 refine S0<|ogX ?_
 refine Q0 rfl (fun d=>stepG_leave (fn:=Try.f55) (v:=ov) rfl rfl Try.func55 (by simp[results,Try.f55]) (by simp[results,Try.f55,go_sem])) ?_
 exact h
theorem g0i{n:Nat}(hn16:n≤16){kd a b c0:Int}{c:Frame}(K:∀w' v,X9 w w' v (V2 n b c0)→J0 Try.prog main F0 Stop (G (c.finish v) cs) w'):
 J0 Try.prog main F0 Stop (G (Frame.enter Try.prog 55 #[.agg #[vI kd,vI a,vI b,vI c0],vI (n:Nat)] .normal) (c::cs)) w:=by
 refine z05 J1 (Nat.zero_le _) fun A hA=>?_
 have hs0:(w.alloc (.cells #[vI kd,vI a,vI b,vI c0] 47)).heap.size=w.heap.size+1:=by simp
 have ho0:∀r,r<w.heap.size→(w.alloc (.cells #[vI kd,vI a,vI b,vI c0] 47)).heap[r]? =w.heap[r]?:=fun r hr=>D0 _ _ hr
 have hob0:=heap_alloc_new w (.cells #[vI kd,vI a,vI b,vI c0] 47)
 generalize w.alloc (.cells #[vI kd,vI a,vI b,vI c0] 47)=W0 at hs0 ho0 hob0 ⊢
 suffices H:∀k i ov u A,i+k=n→u.ownsRow 0 2 1 ov i ((V2 i b c0).map fun v=>vI v)→W0.heap.size≤u.heap.size→(∀r,r<W0.heap.size→u.heap[r]? =W0.heap[r]?)→(∀g,ov.ownBlock=some g→W0.heap.size≤g)→G0 23 A [(1,vI (n:Nat)),(2,vP w.heap.size 0),(5,ov),(6,vI (i:Nat))]→J0 Try.prog main F0 Stop (G (bA 55 A [.code J9,.inLoop J9,.inBlock 0,.code f03]) (c::cs)) u from
  H n 0 _ _ _ (Nat.zero_add _) (World.ownsRow_nil _ _ _ _) (Nat.le_refl _) (fun _ _=>rfl) (fun g hg=>by simp[Value.ownBlock]at hg) hA
 intro k
 induction k with
 | zero=>
   intro i ov u A hi hrow hsz hold hg hA
   have e:i=n:=by omega
   subst e
   refine z07 hA (K u ov ⟨by rw[G5];exact hrow,by omega,fun r hr=>(hold r (by omega)).trans (ho0 r hr),fun g h=>by have:=hg g h;omega⟩)
 | succ k ih=>
   intro i ov u A hi hrow hsz hold hg hA
   have hl:=G5 i b c0
   refine z06 (kd:=kd) (a:=a) (b:=b) (c0:=c0) (xs:=V2 i b c0) hn16 (by omega) (by omega) J1 (Nat.zero_le _) (g0J _) (by rw[hl];exact hrow) (fun _ _=>rfl) ((hold _ (by omega)).trans hob0) hA fun ov' w' A' g hA'=>?_
   have e:V2 (i+1) b c0=V2 i b c0++[i6 (b+i6 (i*c0))]:=by simp[V2,List.range_succ]
   refine ih (i+1) ov' w' A' (by omega) ?_ (Nat.le_trans hsz g.size) (fun r hr=>?_) (fun q hq=>?_) hA'
   ·have:=g.row
    rw[hl]at this
    rw[e]
    exact this
   ·rw[g.old r (by omega) ?_,hold r hr]
    intro e2
    exact absurd (hg r e2.symm) (by omega)
   ·rcases g.blk with e2|⟨q2,e2,h2⟩
    ·exact hg q (e2 ▸ hq)
    ·rw[hq]at e2
     cases e2
     omega
def D1:Code:=Try.f20.body.getD .skip
def z02:=pC [] D1
def a0u:=pC [zt] D1
def e0y:=pC [zf] D1
def a0v:=pC [zf,zt] D1
def d0n:=pC [zf] e0y
def e0z:=pC [zt] d0n
def a0w:=pC [zf,zf,zt,zt] D1
def d0l:=pC [zf] e0z
def u0u:=pC [zt] d0l
def a0x:=pC [zf,zf,zt,zf,zt,zt] D1
def b0W:=pC [zf] u0u
def f0Z:=pC [zf,zf,zt,zf,zt,zf,zt] D1
def f01:=pC [zf] b0W
def b0C:=pC [zf,zf,zt,zf,zt,zf,zf,zt] D1
def c0R:=pC [zf] f01
def f00:=pC [zf,zf,zt,zf,zt,zf,zf,zf,zt] D1
def i0y:=pC [zf] c0R
def d0m:=pC [zf,zf,zt,zf,zt,zf,zf,zf,zf,zt] D1
def e0w:=pC [zf] i0y
def e0x:=pC [zf,zf,zt,zf,zt,zf,zf,zf,zf,zf,zt] D1
def l0l:=pC [zf] e0w
def c0S:=pC [zf,zf,zt,zf,zt,zf,zf,zf,zf,zf,zf,zt] D1
def g0R:=pC [zf] l0l
def b0X:=pC [zf,zf,zt,zf,zt,zf,zf,zf,zf,zf,zf,zf,zt] D1
def o0E:=pC [zf] g0R
def g0S:=pC [zf,zf,zt,zf,zt,zf,zf,zf,zf,zf,zf,zf,zf,zt] D1
def k0a:=pC [zf] o0E
def b0Y:=pC [zf,zf,zt,zf,zt,zf,zf,zf,zf,zf,zf,zf,zf,zf,zt] D1
def z03:=pC [zf] k0a
def u0t:=pC [zf,zf,zt,zf,zt,zf,zf,zf,zf,zf,zf,zf,zf,zf,zf,zt] D1
def M6:=pC [zf] d0n
def w9:=pC [zf,zf,zf,zt] D1
theorem c0Q:d0l= .block 0 u0u:=by kernel_rfl
theorem w0S:f0Z= .region 5 (oC f0Z) true:=by kernel_rfl
theorem w0T:f00= .region 7 (oC f00) true:=by kernel_rfl
theorem w0U:e0x= .region 9 (oC e0x) false:=by kernel_rfl
theorem r04:b0X= .region 11 (oC b0X) false:=by kernel_rfl
theorem r05:b0Y= .region 13 (oC b0Y) false:=by kernel_rfl
theorem J8(args:Array Value):Frame.enter Try.prog 20 args .normal=(Go.Conc.base 20).at {tmps:=args++Array.replicate (67 - args.size) undef,defers:=[]} [.code z02]:=enter_at args Try.func20 rfl
theorem callable20:O1 20:=G2 Try.func20 rfl rfl
def e0v(s:Nat→Value):Array Value:= #[s 0,s 1,s 2,s 3,s 4,s 5,s 6,s 7,s 8,s 9,s 10,s 11,s 12,s 13,s 14,s 15,s 16,s 17,s 18,s 19,s 20,s 21,s 22,s 23,s 24,s 25,s 26,s 27,s 28,s 29,s 30,s 31,s 32,s 33,s 34,s 35,s 36,s 37,s 38,s 39,s 40,s 41,s 42,s 43,s 44,s 45,s 46,s 47,s 48,s 49,s 50,s 51,s 52,s 53,s 54,s 55,s 56,s 57,s 58,s 59,s 60,s 61,s 62,s 63,s 64,s 65,s 66]
theorem D0L{A:Array Value}(h:A.size=67):∃s,A=e0v s:=by
 obtain⟨s,hs,_⟩:=Y4 A h
 exact⟨s,hs⟩
structure g8(pb:Nat)(kd a b c0:Int)(w:World):Prop where
 o:w.heap[pb]? =some (.cells #[vI kd,vI a,vI b,vI c0] 47 (0,0))
section
variable{pb:Nat}{kd a b c0:Int}
theorem g8.f0(h:g8 pb kd a b c0 w):w.cell? ⟨pb,0,none⟩=some (vI kd):=by simp[World.cell?,h.o]
theorem g8.f1(h:g8 pb kd a b c0 w):w.cell? ⟨pb,1,none⟩=some (vI a):=by simp[World.cell?,h.o]
theorem g8.f2(h:g8 pb kd a b c0 w):w.cell? ⟨pb,2,none⟩=some (vI b):=by simp[World.cell?,h.o]
theorem g8.f3(h:g8 pb kd a b c0 w):w.cell? ⟨pb,3,none⟩=some (vI c0):=by simp[World.cell?,h.o]
theorem g8.z(h:g8 pb kd a b c0 w)(k:Nat):w.frozen? ⟨pb,k,none⟩=false:=by simp[World.frozen?,h.o]
theorem g8.at(h:g8 pb kd a b c0 w)(d:Nat):g8 pb kd a b c0 (w.at d):=⟨h.o⟩
end
theorem w0K{nn:Nat}(hU:P2 F nn)(hn:nn≤w.heap.size){sv:Value}{lb n:Nat}{a b c0:Int}
 (h:∀A,G0 67 A [(8,vP (w.heap.size+1) 0),(9,vP (w.heap.size+2) 0)]→J0 Try.prog main F Stop (G (Frame.enter Try.prog 26 #[vP lb 0,sv,vI a] .normal) ((bA 20 A [.inRegion (oC e0x) [4,5,6,7,8,9,10,11],.inBlock 0,.code M6])::cs)) (((w.alloc (.cells #[vI 3,vI a,vI b,vI c0] 47)).alloc (.cells #[.bool false,vI 0,.slice none 0 0] 44)).alloc (.cells #[.bool true,vI 0,.slice none 0 0] 44))):
 J0 Try.prog main F Stop (G (Frame.enter Try.prog 20 #[vP lb 0,sv,.agg #[vI 3,vI a,vI b,vI c0],vI (n:Nat)] .normal) cs) w:=by
 rw[J8]
 walk_nrm
 refine ogW a0u e0y ?_
 simp only[a0u,D1,Try.f20,zz,Nat.reduceAdd]
 iterate 2 refine oA hU ?_
 refine S0<|ogW a0v d0n ?_
 simp only[a0v,D1,Try.f20,zz,Nat.reduceAdd]
 refine oT ?_
 refine oA hU ?_
 (refine oW fun dd K hK=>?_;go_simp;refine hK _ _ ⟨⟨⟨0,K6 (fun k=>Q2 hU (show nn≤w.heap.size+2 by omega)) _ _ _⟩,fun e he=>by(have hm:=mem_listed he;clear he hK;simp[go_sem,storedEv]at hm;rcases hm with rfl|rfl|rfl<;>exact U0 _ _ ((fun k=>Q2 hU (show nn≤w.heap.size+2 by omega)) _))⟩,?_⟩;clear hK K;simp only[setCell_at'];refine J0.at ?_ dd)
 have e1:=D9 ((w.alloc (.cells #[vI 3,vI a,vI b,vI c0] 47)).alloc (.cells #[.bool false,vI 0,.slice none 0 0] 44)) (.bool false) (vI 0) (.slice none 0 0) (.bool true) (vI 0) (.slice none 0 0)
 have e2:((w.alloc (.cells #[vI 3,vI a,vI b,vI c0] 47)).alloc (.cells #[.bool false,vI 0,.slice none 0 0] 44)).heap.size=w.heap.size+2:=d0L _ _ _
 rw[e2]at e1
 rw[e1]
 clear e1 e2
 refine S0<|ogV e0z M6<|ogW a0w d0l ?_
 simp only[a0w,D1,Try.f20,zz,Nat.reduceAdd]
 refine oT ?_
 refine oL ?_
 refine S0 ?_
 rw[c0Q]
 refine L7<|ogW a0x b0W ?_
 simp only[a0x,D1,Try.f20,zz,Nat.reduceAdd]
 iterate 2 refine oT ?_
 refine S0<|ogGn f01<|ogW b0C c0R ?_
 simp only[b0C,D1,Try.f20,zz,Nat.reduceAdd]
 iterate 2 refine oT ?_
 refine S0<|ogGn i0y<|ogW d0m e0w ?_
 simp only[d0m,D1,Try.f20,zz,Nat.reduceAdd]
 iterate 2 refine oT ?_
 refine S0<|ogYn e0x ?_
 rw[w0U]
 refine ogR ?_
 simp only[e0x,D1,Try.f20,zz,Nat.reduceAdd]
 iterate 3 refine oT ?_
 refine oL ?_
 refine oc b0T #[vP lb 0,sv,vI a] ?_
 refine h _ ?_
 exact⟨rfl,rfl,rfl,trivial⟩
theorem w0L{nn:Nat}(hU:P2 F nn)(hn:nn≤w.heap.size){sv:Value}{lb n:Nat}{a b c0:Int}
 (h:∀A,G0 67 A [(8,vP (w.heap.size+1) 0),(9,vP (w.heap.size+2) 0)]→J0 Try.prog main F Stop (G (Frame.enter Try.prog 28 #[vP lb 0,sv] .normal) ((bA 20 A [.inRegion (oC b0X) [2,3,4],.inBlock 0,.code M6])::cs)) (((w.alloc (.cells #[vI 4,vI a,vI b,vI c0] 47)).alloc (.cells #[.bool false,vI 0,.slice none 0 0] 44)).alloc (.cells #[.bool true,vI 0,.slice none 0 0] 44))):
 J0 Try.prog main F Stop (G (Frame.enter Try.prog 20 #[vP lb 0,sv,.agg #[vI 4,vI a,vI b,vI c0],vI (n:Nat)] .normal) cs) w:=by
 rw[J8]
 walk_nrm
 refine ogW a0u e0y ?_
 simp only[a0u,D1,Try.f20,zz,Nat.reduceAdd]
 iterate 2 refine oA hU ?_
 refine S0<|ogW a0v d0n ?_
 simp only[a0v,D1,Try.f20,zz,Nat.reduceAdd]
 refine oT ?_
 refine oA hU ?_
 (refine oW fun dd K hK=>?_;go_simp;refine hK _ _ ⟨⟨⟨0,K6 (fun k=>Q2 hU (show nn≤w.heap.size+2 by omega)) _ _ _⟩,fun e he=>by(have hm:=mem_listed he;clear he hK;simp[go_sem,storedEv]at hm;rcases hm with rfl|rfl|rfl<;>exact U0 _ _ ((fun k=>Q2 hU (show nn≤w.heap.size+2 by omega)) _))⟩,?_⟩;clear hK K;simp only[setCell_at'];refine J0.at ?_ dd)
 have e1:=D9 ((w.alloc (.cells #[vI 4,vI a,vI b,vI c0] 47)).alloc (.cells #[.bool false,vI 0,.slice none 0 0] 44)) (.bool false) (vI 0) (.slice none 0 0) (.bool true) (vI 0) (.slice none 0 0)
 have e2:((w.alloc (.cells #[vI 4,vI a,vI b,vI c0] 47)).alloc (.cells #[.bool false,vI 0,.slice none 0 0] 44)).heap.size=w.heap.size+2:=d0L _ _ _
 rw[e2]at e1
 rw[e1]
 clear e1 e2
 refine S0<|ogV e0z M6<|ogW a0w d0l ?_
 simp only[a0w,D1,Try.f20,zz,Nat.reduceAdd]
 refine oT ?_
 refine oL ?_
 refine S0 ?_
 rw[c0Q]
 refine L7<|ogW a0x b0W ?_
 simp only[a0x,D1,Try.f20,zz,Nat.reduceAdd]
 iterate 2 refine oT ?_
 refine S0<|ogGn f01<|ogW b0C c0R ?_
 simp only[b0C,D1,Try.f20,zz,Nat.reduceAdd]
 iterate 2 refine oT ?_
 refine S0<|ogGn i0y<|ogW d0m e0w ?_
 simp only[d0m,D1,Try.f20,zz,Nat.reduceAdd]
 iterate 2 refine oT ?_
 refine S0<|ogGn l0l<|ogW c0S g0R ?_
 simp only[c0S,D1,Try.f20,zz,Nat.reduceAdd]
 iterate 2 refine oT ?_
 refine S0<|ogYn b0X ?_
 rw[r04]
 refine ogR ?_
 simp only[b0X,D1,Try.f20,zz,Nat.reduceAdd]
 iterate 2 refine oT ?_
 refine oc Z9 #[vP lb 0,sv] ?_
 refine h _ ?_
 exact⟨rfl,rfl,rfl,trivial⟩
theorem w0M{nn:Nat}(hU:P2 F nn)(hn:nn≤w.heap.size){sv:Value}{lb n:Nat}{a b c0:Int}
 (h:∀A,G0 67 A [(8,vP (w.heap.size+1) 0),(9,vP (w.heap.size+2) 0)]→J0 Try.prog main F Stop (G (Frame.enter Try.prog 27 #[vP lb 0,sv,vI a] .normal) ((bA 20 A [.inRegion (oC b0Y) [4,5,6,7,8,9,10,11],.inBlock 0,.code M6])::cs)) (((w.alloc (.cells #[vI 5,vI a,vI b,vI c0] 47)).alloc (.cells #[.bool false,vI 0,.slice none 0 0] 44)).alloc (.cells #[.bool true,vI 0,.slice none 0 0] 44))):
 J0 Try.prog main F Stop (G (Frame.enter Try.prog 20 #[vP lb 0,sv,.agg #[vI 5,vI a,vI b,vI c0],vI (n:Nat)] .normal) cs) w:=by
 rw[J8]
 walk_nrm
 refine ogW a0u e0y ?_
 simp only[a0u,D1,Try.f20,zz,Nat.reduceAdd]
 iterate 2 refine oA hU ?_
 refine S0<|ogW a0v d0n ?_
 simp only[a0v,D1,Try.f20,zz,Nat.reduceAdd]
 refine oT ?_
 refine oA hU ?_
 (refine oW fun dd K hK=>?_;go_simp;refine hK _ _ ⟨⟨⟨0,K6 (fun k=>Q2 hU (show nn≤w.heap.size+2 by omega)) _ _ _⟩,fun e he=>by(have hm:=mem_listed he;clear he hK;simp[go_sem,storedEv]at hm;rcases hm with rfl|rfl|rfl<;>exact U0 _ _ ((fun k=>Q2 hU (show nn≤w.heap.size+2 by omega)) _))⟩,?_⟩;clear hK K;simp only[setCell_at'];refine J0.at ?_ dd)
 have e1:=D9 ((w.alloc (.cells #[vI 5,vI a,vI b,vI c0] 47)).alloc (.cells #[.bool false,vI 0,.slice none 0 0] 44)) (.bool false) (vI 0) (.slice none 0 0) (.bool true) (vI 0) (.slice none 0 0)
 have e2:((w.alloc (.cells #[vI 5,vI a,vI b,vI c0] 47)).alloc (.cells #[.bool false,vI 0,.slice none 0 0] 44)).heap.size=w.heap.size+2:=d0L _ _ _
 rw[e2]at e1
 rw[e1]
 clear e1 e2
 refine S0<|ogV e0z M6<|ogW a0w d0l ?_
 simp only[a0w,D1,Try.f20,zz,Nat.reduceAdd]
 refine oT ?_
 refine oL ?_
 refine S0 ?_
 rw[c0Q]
 refine L7<|ogW a0x b0W ?_
 simp only[a0x,D1,Try.f20,zz,Nat.reduceAdd]
 iterate 2 refine oT ?_
 refine S0<|ogGn f01<|ogW b0C c0R ?_
 simp only[b0C,D1,Try.f20,zz,Nat.reduceAdd]
 iterate 2 refine oT ?_
 refine S0<|ogGn i0y<|ogW d0m e0w ?_
 simp only[d0m,D1,Try.f20,zz,Nat.reduceAdd]
 iterate 2 refine oT ?_
 refine S0<|ogGn l0l<|ogW c0S g0R ?_
 simp only[c0S,D1,Try.f20,zz,Nat.reduceAdd]
 iterate 2 refine oT ?_
 refine S0<|ogGn o0E<|ogW g0S k0a ?_
 simp only[g0S,D1,Try.f20,zz,Nat.reduceAdd]
 iterate 2 refine oT ?_
 refine S0<|ogYn b0Y ?_
 rw[r05]
 refine ogR ?_
 simp only[b0Y,D1,Try.f20,zz,Nat.reduceAdd]
 iterate 3 refine oT ?_
 refine oL ?_
 refine oc e0p #[vP lb 0,sv,vI a] ?_
 refine h _ ?_
 exact⟨rfl,rfl,rfl,trivial⟩
theorem w0P{ab rb:Nat}(ha:w.cell? ⟨ab,0,none⟩=some (.bool true)∧w.cell? ⟨ab,1,none⟩=some (vI 0)∧w.cell? ⟨ab,2,none⟩=some (.slice none 0 0)∧∀k,w.frozen? ⟨ab,k,none⟩=false)(hb:Ans w rb)(hne:ab≠rb)(hnh:∀k,¬held F ⟨ab,k,none⟩)(hnh2:∀k,¬held F ⟨rb,k,none⟩){ok:Bool}{la:Option Addr}{ll lc:Nat}{A:Array Value}(hA:G0 67 A [(8,vP rb 0),(9,vP ab 0)]){c:Frame}
 (h:∀w',e0b w w' ab rb→J0 Try.prog main F Stop (G (c.finish (.agg #[.bool ok,vI 0,.slice la ll lc])) cs) w'):
 J0 Try.prog main F Stop (G ((bA 20 A [.inRegion (oC e0x) [4,5,6,7,8,9,10,11],.inBlock 0,.code M6]).finish (.tuple #[.slice la ll lc,.bool ok])) (c::cs)) w:=by
 obtain⟨s,rfl,h8,h9,_⟩:=Y3 e0v hA
 simp only[e0v,h8,h9]
 clear h8 h9
 have c0:=ha.1
 have c1:=ha.2.1
 have c2:=ha.2.2.1
 have z0:=ha.2.2.2 0
 have z1:=ha.2.2.2 1
 have z2:=ha.2.2.2 2
 obtain⟨x0,x1,x2,d0,d1,d2⟩:=hb.c
 have y0:=hb.z 0
 have y1:=hb.z 1
 have y2:=hb.z 2
 have hne2:=Ne.symm hne
 rw[Frame.finish_at]
 simp only[e0x,D1,Try.f20,zz,Nat.reduceAdd]
 walk_nrm
 iterate 4 refine oT ?_
 (refine oW fun dd K hK=>?_;go_simp;refine hK _ _ ⟨⟨⟨0,i1 rfl (hnh 2) _⟩,fun e he=>by(have hm:=mem_listed he;clear he hK;simp[go_sem,storedEv,c0,c1,c2,z0,z1,z2,d0,d1,d2,y0,y1,y2,hne,hne2]at hm;subst hm;exact U0 _ _ (hnh 2))⟩,?_⟩;clear hK K;simp only[setCell_at'];refine J0.at ?_ dd)
 refine oT ?_
 (refine oW fun dd K hK=>?_;go_simp;refine hK _ _ ⟨⟨⟨0,i1 rfl (hnh 0) _⟩,fun e he=>by(have hm:=mem_listed he;clear he hK;simp[go_sem,storedEv,c0,c1,c2,z0,z1,z2,d0,d1,d2,y0,y1,y2,hne,hne2]at hm;subst hm;exact U0 _ _ (hnh 0))⟩,?_⟩;clear hK K;simp only[setCell_at'];refine J0.at ?_ dd)
 refine S0<|ogI<|ogW w9 .ret ?_
 simp only[w9,D1,Try.f20,zz,Nat.reduceAdd]
 (refine oW fun dd K hK=>?_;go_simp;refine hK _ _ ⟨⟨⟨0,V3.refl _ _⟩,fun e he=>by(have hm:=mem_listed he;clear he hK;simp[go_sem,c0,c1,c2,z0,z1,z2,d0,d1,d2,y0,y1,y2,hne,hne2]at hm;rcases hm with rfl|rfl|rfl<;>exact I1 _ _)⟩,J0.at ?_ dd⟩;clear hK K)
 (refine oW fun dd K hK=>?_;go_simp;refine hK _ _ ⟨⟨⟨0,K6 hnh2 _ _ _⟩,fun e he=>by(have hm:=mem_listed he;clear he hK;simp[go_sem,storedEv,c0,c1,c2,z0,z1,z2,d0,d1,d2,y0,y1,y2,hne,hne2]at hm;rcases hm with rfl|rfl|rfl<;>exact U0 _ _ (hnh2 _))⟩,?_⟩;clear hK K;simp only[setCell_at'];refine J0.at ?_ dd)
 refine S0<|ogX ?_
 refine p4 (fn:=Try.f20) (v:=.agg #[.bool ok,vI 0,.slice la ll lc]) rfl rfl Try.func20 (fun d=>by simp[results,Try.f20,go_sem,c0,c1,c2,z0,z1,z2,d0,d1,d2,y0,y1,y2,hne,hne2]) (fun d e he=>by(simp[results,Try.f20,go_sem,c0,c1,c2,z0,z1,z2,d0,d1,d2,y0,y1,y2,hne,hne2]at he;rcases he with rfl|rfl|rfl<;>exact I1 _ _)) ?_
 exact h _ ⟨by simp,fun r h1 h2=>by simp[B4 h1,B4 h2]⟩
theorem w0Q{ab rb:Nat}(ha:w.cell? ⟨ab,0,none⟩=some (.bool true)∧w.cell? ⟨ab,1,none⟩=some (vI 0)∧w.cell? ⟨ab,2,none⟩=some (.slice none 0 0)∧∀k,w.frozen? ⟨ab,k,none⟩=false)(hb:Ans w rb)(hne:ab≠rb)(hnh:∀k,¬held F ⟨ab,k,none⟩)(hnh2:∀k,¬held F ⟨rb,k,none⟩){la:Option Addr}{ll lc:Nat}{A:Array Value}(hA:G0 67 A [(8,vP rb 0),(9,vP ab 0)]){c:Frame}
 (h:∀w',e0b w w' ab rb→J0 Try.prog main F Stop (G (c.finish (.agg #[.bool true,vI 0,.slice la ll lc])) cs) w'):
 J0 Try.prog main F Stop (G ((bA 20 A [.inRegion (oC b0X) [2,3,4],.inBlock 0,.code M6]).finish (.slice la ll lc)) (c::cs)) w:=by
 obtain⟨s,rfl,h8,h9,_⟩:=Y3 e0v hA
 simp only[e0v,h8,h9]
 clear h8 h9
 have c0:=ha.1
 have c1:=ha.2.1
 have c2:=ha.2.2.1
 have z0:=ha.2.2.2 0
 have z1:=ha.2.2.2 1
 have z2:=ha.2.2.2 2
 obtain⟨x0,x1,x2,d0,d1,d2⟩:=hb.c
 have y0:=hb.z 0
 have y1:=hb.z 1
 have y2:=hb.z 2
 have hne2:=Ne.symm hne
 rw[Frame.finish_at]
 simp only[b0X,D1,Try.f20,zz,Nat.reduceAdd]
 walk_nrm
 refine oT ?_
 (refine oW fun dd K hK=>?_;go_simp;refine hK _ _ ⟨⟨⟨0,i1 rfl (hnh 2) _⟩,fun e he=>by(have hm:=mem_listed he;clear he hK;simp[go_sem,storedEv,c0,c1,c2,z0,z1,z2,d0,d1,d2,y0,y1,y2,hne,hne2]at hm;subst hm;exact U0 _ _ (hnh 2))⟩,?_⟩;clear hK K;simp only[setCell_at'];refine J0.at ?_ dd)
 refine S0<|ogI<|ogW w9 .ret ?_
 simp only[w9,D1,Try.f20,zz,Nat.reduceAdd]
 (refine oW fun dd K hK=>?_;go_simp;refine hK _ _ ⟨⟨⟨0,V3.refl _ _⟩,fun e he=>by(have hm:=mem_listed he;clear he hK;simp[go_sem,c0,c1,c2,z0,z1,z2,d0,d1,d2,y0,y1,y2,hne,hne2]at hm;rcases hm with rfl|rfl|rfl<;>exact I1 _ _)⟩,J0.at ?_ dd⟩;clear hK K)
 (refine oW fun dd K hK=>?_;go_simp;refine hK _ _ ⟨⟨⟨0,K6 hnh2 _ _ _⟩,fun e he=>by(have hm:=mem_listed he;clear he hK;simp[go_sem,storedEv,c0,c1,c2,z0,z1,z2,d0,d1,d2,y0,y1,y2,hne,hne2]at hm;rcases hm with rfl|rfl|rfl<;>exact U0 _ _ (hnh2 _))⟩,?_⟩;clear hK K;simp only[setCell_at'];refine J0.at ?_ dd)
 refine S0<|ogX ?_
 refine p4 (fn:=Try.f20) (v:=.agg #[.bool true,vI 0,.slice la ll lc]) rfl rfl Try.func20 (fun d=>by simp[results,Try.f20,go_sem,c0,c1,c2,z0,z1,z2,d0,d1,d2,y0,y1,y2,hne,hne2]) (fun d e he=>by(simp[results,Try.f20,go_sem,c0,c1,c2,z0,z1,z2,d0,d1,d2,y0,y1,y2,hne,hne2]at he;rcases he with rfl|rfl|rfl<;>exact I1 _ _)) ?_
 exact h _ ⟨by simp,fun r h1 h2=>by simp[B4 h1,B4 h2]⟩
theorem w0R{ab rb:Nat}(ha:w.cell? ⟨ab,0,none⟩=some (.bool true)∧w.cell? ⟨ab,1,none⟩=some (vI 0)∧w.cell? ⟨ab,2,none⟩=some (.slice none 0 0)∧∀k,w.frozen? ⟨ab,k,none⟩=false)(hb:Ans w rb)(hne:ab≠rb)(hnh:∀k,¬held F ⟨ab,k,none⟩)(hnh2:∀k,¬held F ⟨rb,k,none⟩){ok:Bool}{v:Int}{A:Array Value}(hA:G0 67 A [(8,vP rb 0),(9,vP ab 0)]){c:Frame}
 (h:∀w',e0b w w' ab rb→J0 Try.prog main F Stop (G (c.finish (.agg #[.bool ok,vI v,.slice none 0 0])) cs) w'):
 J0 Try.prog main F Stop (G ((bA 20 A [.inRegion (oC b0Y) [4,5,6,7,8,9,10,11],.inBlock 0,.code M6]).finish (.tuple #[vI v,.bool ok])) (c::cs)) w:=by
 obtain⟨s,rfl,h8,h9,_⟩:=Y3 e0v hA
 simp only[e0v,h8,h9]
 clear h8 h9
 have c0:=ha.1
 have c1:=ha.2.1
 have c2:=ha.2.2.1
 have z0:=ha.2.2.2 0
 have z1:=ha.2.2.2 1
 have z2:=ha.2.2.2 2
 obtain⟨x0,x1,x2,d0,d1,d2⟩:=hb.c
 have y0:=hb.z 0
 have y1:=hb.z 1
 have y2:=hb.z 2
 have hne2:=Ne.symm hne
 rw[Frame.finish_at]
 simp only[b0Y,D1,Try.f20,zz,Nat.reduceAdd]
 walk_nrm
 iterate 4 refine oT ?_
 (refine oW fun dd K hK=>?_;go_simp;refine hK _ _ ⟨⟨⟨0,i1 rfl (hnh 1) _⟩,fun e he=>by(have hm:=mem_listed he;clear he hK;simp[go_sem,storedEv,c0,c1,c2,z0,z1,z2,d0,d1,d2,y0,y1,y2,hne,hne2]at hm;subst hm;exact U0 _ _ (hnh 1))⟩,?_⟩;clear hK K;simp only[setCell_at'];refine J0.at ?_ dd)
 refine oT ?_
 (refine oW fun dd K hK=>?_;go_simp;refine hK _ _ ⟨⟨⟨0,i1 rfl (hnh 0) _⟩,fun e he=>by(have hm:=mem_listed he;clear he hK;simp[go_sem,storedEv,c0,c1,c2,z0,z1,z2,d0,d1,d2,y0,y1,y2,hne,hne2]at hm;subst hm;exact U0 _ _ (hnh 0))⟩,?_⟩;clear hK K;simp only[setCell_at'];refine J0.at ?_ dd)
 refine S0<|ogI<|ogW w9 .ret ?_
 simp only[w9,D1,Try.f20,zz,Nat.reduceAdd]
 (refine oW fun dd K hK=>?_;go_simp;refine hK _ _ ⟨⟨⟨0,V3.refl _ _⟩,fun e he=>by(have hm:=mem_listed he;clear he hK;simp[go_sem,c0,c1,c2,z0,z1,z2,d0,d1,d2,y0,y1,y2,hne,hne2]at hm;rcases hm with rfl|rfl|rfl<;>exact I1 _ _)⟩,J0.at ?_ dd⟩;clear hK K)
 (refine oW fun dd K hK=>?_;go_simp;refine hK _ _ ⟨⟨⟨0,K6 hnh2 _ _ _⟩,fun e he=>by(have hm:=mem_listed he;clear he hK;simp[go_sem,storedEv,c0,c1,c2,z0,z1,z2,d0,d1,d2,y0,y1,y2,hne,hne2]at hm;rcases hm with rfl|rfl|rfl<;>exact U0 _ _ (hnh2 _))⟩,?_⟩;clear hK K;simp only[setCell_at'];refine J0.at ?_ dd)
 refine S0<|ogX ?_
 refine p4 (fn:=Try.f20) (v:=.agg #[.bool ok,vI v,.slice none 0 0]) rfl rfl Try.func20 (fun d=>by simp[results,Try.f20,go_sem,c0,c1,c2,z0,z1,z2,d0,d1,d2,y0,y1,y2,hne,hne2]) (fun d e he=>by(simp[results,Try.f20,go_sem,c0,c1,c2,z0,z1,z2,d0,d1,d2,y0,y1,y2,hne,hne2]at he;rcases he with rfl|rfl|rfl<;>exact I1 _ _)) ?_
 exact h _ ⟨by simp,fun r h1 h2=>by simp[B4 h1,B4 h2]⟩
theorem w0H{nn:Nat}(hU:P2 F nn)(hn:nn≤w.heap.size){sv:Value}{lb n:Nat}{kd a b c0:Int}(k1:(kd == 1)=false)(k2:(kd == 2)=false)(k3:(kd == 3)=false)(k4:(kd == 4)=false)(k5:(kd == 5)=false){c:Frame}
 (h:∀w',w'.heap.size=w.heap.size+3→(∀r,r<w.heap.size→w'.heap[r]? =w.heap[r]?)→J0 Try.prog main F Stop (G (c.finish (.agg #[.bool false,vI 0,.slice none 0 0])) cs) w'):
 J0 Try.prog main F Stop (G (Frame.enter Try.prog 20 #[vP lb 0,sv,.agg #[vI kd,vI a,vI b,vI c0],vI (n:Nat)] .normal) (c::cs)) w:=by
 rw[J8]
 walk_nrm
 refine ogW a0u e0y ?_
 simp only[a0u,D1,Try.f20,zz,Nat.reduceAdd]
 iterate 2 refine oA hU ?_
 refine S0<|ogW a0v d0n ?_
 simp only[a0v,D1,Try.f20,zz,Nat.reduceAdd]
 refine oT ?_
 refine oA hU ?_
 (refine oW fun dd K hK=>?_;go_simp;refine hK _ _ ⟨⟨⟨0,K6 (fun k=>Q2 hU (show nn≤w.heap.size+2 by omega)) _ _ _⟩,fun e he=>by(have hm:=mem_listed he;clear he hK;simp[go_sem,storedEv]at hm;rcases hm with rfl|rfl|rfl<;>exact U0 _ _ ((fun k=>Q2 hU (show nn≤w.heap.size+2 by omega)) _))⟩,?_⟩;clear hK K;simp only[setCell_at'];refine J0.at ?_ dd)
 have e1:=D9 ((w.alloc (.cells #[vI kd,vI a,vI b,vI c0] 47)).alloc (.cells #[.bool false,vI 0,.slice none 0 0] 44)) (.bool false) (vI 0) (.slice none 0 0) (.bool true) (vI 0) (.slice none 0 0)
 have e2:((w.alloc (.cells #[vI kd,vI a,vI b,vI c0] 47)).alloc (.cells #[.bool false,vI 0,.slice none 0 0] 44)).heap.size=w.heap.size+2:=d0L _ _ _
 rw[e2]at e1
 rw[e1]
 clear e1 e2
 refine S0<|ogV e0z M6<|ogW a0w d0l ?_
 simp only[a0w,D1,Try.f20,zz,Nat.reduceAdd]
 refine oT ?_
 refine oL ?_
 refine S0 ?_
 rw[c0Q]
 refine L7<|ogW a0x b0W ?_
 simp only[a0x,D1,Try.f20,zz,Nat.reduceAdd]
 iterate 2 refine oT ?_
 refine S0<|ogGn f01<|ogW b0C c0R ?_
 simp only[b0C,D1,Try.f20,zz,Nat.reduceAdd]
 iterate 2 refine oT ?_
 refine S0<|ogGn i0y<|ogW d0m e0w ?_
 simp only[d0m,D1,Try.f20,zz,Nat.reduceAdd]
 iterate 2 refine oT ?_
 refine S0<|ogGn l0l<|ogW c0S g0R ?_
 simp only[c0S,D1,Try.f20,zz,Nat.reduceAdd]
 iterate 2 refine oT ?_
 refine S0<|ogGn o0E<|ogW g0S k0a ?_
 simp only[g0S,D1,Try.f20,zz,Nat.reduceAdd]
 iterate 2 refine oT ?_
 refine S0<|ogGn z03<|ogW u0t .ret ?_
 simp only[u0t,D1,Try.f20,zz,Nat.reduceAdd]
 refine oT ?_
 (refine oW fun dd K hK=>?_;go_simp;refine hK _ _ ⟨⟨⟨0,K6 (fun k=>Q2 hU (show nn≤w.heap.size+1 by omega)) _ _ _⟩,fun e he=>by(have hm:=mem_listed he;clear he hK;simp[go_sem,storedEv]at hm;rcases hm with rfl|rfl|rfl<;>exact U0 _ _ ((fun k=>Q2 hU (show nn≤w.heap.size+1 by omega)) _))⟩,?_⟩;clear hK K;simp only[setCell_at'];refine J0.at ?_ dd)
 refine S0<|ogX ?_
 refine p4 (fn:=Try.f20) (v:=.agg #[.bool false,vI 0,.slice none 0 0]) rfl rfl Try.func20 (fun d=>by simp[results,Try.f20,go_sem]) (fun d e he=>by(simp[results,Try.f20,go_sem]at he;rcases he with rfl|rfl|rfl<;>exact I1 _ _)) ?_
 refine h _ (by simp) (fun r h1=>?_)
 simp only[B4 (show r≠w.heap.size+1 by omega)]
 rw[D0 _ _ (by simp;omega),D0 _ _ (by simp;omega),D0 _ _ h1]
end
noncomputable section
variable {cs:List Frame}{main:Bool}{Stop:Goroutine→World→Prop}
variable{F:Fz}{w:World}
theorem i0e{lb:Nat}{v:Int}(hc:w.cell? ⟨lb,0,none⟩=some (vI v)):Y6 Try.prog Try.f19 #[vP lb 0] w fun x w'=>x=vI v∧w'.heap=w.heap:=by
 have L:=n0G (w:=w) (b:=lb) (o:=0) hc
 refine I8 rfl ?_
 simp only[Try.ntmps19,List.size_toArray,List.length_cons,List.length_nil,Nat.reduceAdd,Nat.reduceSub,Array.replicate_succ,Array.replicate_zero,List.push_toArray,List.append_toArray,List.nil_append,List.cons_append]
 go_wp2_with (go_at_call 54;refine L.mono ?_;rintro e w1 ⟨rfl,rfl⟩)
 go_ret
 exact⟨_,rfl,rfl,rfl⟩
theorem callable19:O1 19:=G2 Try.func19 rfl rfl
theorem b0k{lb:Nat}{v:Int}(hc:w.cell? ⟨lb,0,none⟩=some (vI v)){c:Frame}
 (K:∀w1,w1.heap=w.heap→J0 Try.prog main F0 Stop (G (c.finish (vI v)) cs) w1):
 J0 Try.prog main F0 Stop (G (Frame.enter Try.prog 19 #[vP lb 0] .normal) (c::cs)) w:=by
 refine N7 l0n F6 Try.func19 rfl (by kernel_rfl) (R:=fun x w'=>x=vI v∧w'.heap=w.heap) (fun τ e=>i0e (w:=retape w τ e) hc) fun v w' τ e hR hg=>?_
 obtain⟨rfl,h⟩:=hR
 exact K w' h
theorem SU.heap{lb:Nat}{s:SS}{w w':World}(h:SU lb s w)(e:w'.heap=w.heap):SU lb s w':=h.same fun r _=>by rw[e]
theorem t0E{X:World}{v:Int}:(X.alloc (.cells #[vI v] 2)).ownsRow 0 2 1 (vL X.heap.size 0 1 1) 1 [vI v]:=
 ⟨rfl,.inr ⟨X.heap.size,1,#[vI v],rfl,Nat.zero_le _,heap_alloc_new _ _,Nat.le_refl _,by decide,rfl,rfl⟩⟩
def b0w:Code:=Try.f23.body.getD .skip
def D0B:=pC [] b0w
def w0g:=pC [zt] b0w
def D0C:=pC [zf] b0w
def w0h:=pC [zf,zt] b0w
theorem n0r(args:Array Value):Frame.enter Try.prog 23 args .normal=(Go.Conc.base 23).at {tmps:=args++Array.replicate (5 - args.size) undef,defers:=[]} [.code D0B]:=enter_at args Try.func23 rfl
theorem callable23:O1 23:=G2 Try.func23 rfl rfl
theorem a0P{lb:Nat}{s:SS}(hU:SU lb s w){c:Frame}
 (K:∀w' ov,SU lb s w'→g0N w w' ov s.k.ws→w.heap.size≤w'.heap.size→(∀r,r<w.heap.size→w'.heap[r]? =w.heap[r]?)→J0 Try.prog main F0 Stop (G (c.finish ov) cs) w'):
 J0 Try.prog main F0 Stop (G (Frame.enter Try.prog 23 #[vP lb 0] .normal) (c::cs)) w:=by
 rw[n0r]
 walk_nrm
 refine ogW w0g D0C ?_
 simp only[w0g,b0w,Try.f23,zz,Nat.reduceAdd]
 refine oT ?_
 refine S0<|ogW w0h .ret ?_
 simp only[w0h,b0w,Try.f23,zz,Nat.reduceAdd]
 refine oT ?_
 refine oc Z9 #[vP lb 0,.nilIface] ?_
 refine b06 (e0W main) (w0:=w) (m:=0) ⟨hU,trivial,Nat.le_refl _,fun _ _ _ _ _=>rfl⟩ (fun _ h=>by cases h) (fun _ h=>by cases h) (by decide) fun w' ov h1 h2 h3 h4=>?_
 rw[Frame.finish_at]
 walk_nrm
 refine oT ?_
 refine S0<|ogX ?_
 refine Q0 rfl (fun d=>stepG_leave (fn:=Try.f23) (v:=ov) rfl rfl Try.func23 (by simp[results,Try.f23]) (by simp[results,Try.f23,go_sem])) ?_
 exact K w' ov h1.u h2 h3 fun r hr=>h4 r hr (by simp)
def b0t:Code:=Try.f49.body.getD .skip
def D0w:=pC [] b0t
def v09:=pC [zt] b0t
def D0x:=pC [zf] b0t
def w0a:=pC [zf,zt] b0t
theorem n0p(args:Array Value):Frame.enter Try.prog 49 args .normal=(Go.Conc.base 49).at {tmps:=args++Array.replicate (9 - args.size) undef,defers:=[]} [.code D0w]:=enter_at args Try.func49 rfl
theorem j05:O1 49:=G2 Try.func49 rfl rfl
theorem k0y{lb:Nat}{s:SS}(hU:SU lb s w){c:Frame}
 (K:∀w1 ov,X9 w w1 ov s.k.state→J0 Try.prog main F0 Stop (G (c.finish ov) cs) w1):
 J0 Try.prog main F0 Stop (G (Frame.enter Try.prog 49 #[vP lb 0] .normal) (c::cs)) w:=by
 rw[n0p]
 walk_nrm
 refine ogW v09 D0x ?_
 simp only[v09,b0t,Try.f49,zz,Nat.reduceAdd]
 refine oT ?_
 refine S0<|ogW w0a .ret ?_
 simp only[w0a,b0t,Try.f49,zz,Nat.reduceAdd]
 refine oT ?_
 refine oc callable19 #[vP lb 0] ?_
 refine b0k hU.v.c fun w1 e1=>?_
 rw[Frame.finish_at]
 walk_nrm
 have hU1:=hU.heap e1
 have E1:Aside (w1.heap=w.heap):=e1
 clear e1
 have hU:P2 F0 0:=J1
 have hn:0≤w1.heap.size:=Nat.zero_le _
 refine oA hU ?_
 refine oT ?_
 refine oc callable23 #[vP lb 0] ?_
 refine a0P (hU1.same fun r hr=>D0 _ _ (hU1.low hr)) fun w2 ov h1 h2 h3 h4=>?_
 rw[Frame.finish_at]
 walk_nrm
 have hU:=hU1
 obtain⟨hrow,hblk⟩:=h2
 obtain⟨g,cap,hov⟩:∃g cap,ov=vL g 0 s.k.ws.length cap:=by
  rcases hrow.2 with⟨_,h⟩|⟨g,cap,_,h,_⟩
  ·have:=hU.wf.n1;omega
  ·exact⟨g,cap,h⟩
 subst hov
 have hg:=hblk g rfl
 have hrow1:w2.ownsRow 0 2 1 (vL w1.heap.size 0 1 1) 1 [vI s.k.ver]:=K0 t0E fun b hb _=>by simp only[Value.ownBlock,Option.some.injEq]at hb;subst hb;exact h4 _ (by simp)
 refine S8 (s:=.tmp 5) (x:=.tmp 7) (t:=22) (e:=2) (sz:=1) (bytes:=8) (news:=s.k.ws.map fun v=>vI v) (m:=s.k.ws.length) (c:=cap) (ad:=⟨g,0,none⟩) Try.underlying22 i8 (by decide) rfl rfl (by decide) rfl (g0J _) (v:=vL w1.heap.size 0 1 1) rfl rfl hrow1 (fun _ _=>rfl) (by simp) (c0Z hrow) (by intro q hq;simp at hq;obtain⟨_,_,rfl⟩:=hq;rfl) (by have:=hU.wf.n2;unfold maxLen;omega) (by have:=hU.wf.n2;omega) fun ov' w' g1 g2 g3 g4 g5=>?_
 walk_nrm
 refine oT ?_
 refine S0<|ogX ?_
 refine Q0 rfl (fun d=>stepG_leave (fn:=Try.f49) (v:=ov') rfl rfl Try.func49 (by simp[results,Try.f49]) (by simp[results,Try.f49,go_sem])) ?_
 have e1:=E1.out
 have hs1:(w1.alloc (.cells #[vI s.k.ver] 2)).heap.size=w.heap.size+1:=by simp[e1]
 have ho:∀r,r<w.heap.size→(w1.alloc (.cells #[vI s.k.ver] 2)).heap[r]? =w.heap[r]?:=fun r hr=>by rw[D0 _ _ (by rw[e1];exact hr),e1]
 have e1s:w1.heap.size=w.heap.size:=by rw[e1]
 refine K w' ov' ⟨?_,by omega,fun r hr=>?_,fun b hb=>?_⟩
 ·have e:1+s.k.ws.length=s.k.state.length:=by simp[R1.state];omega
  rw[← e]
  exact g1
 ·rw[g4 r (by omega) (by simp[Value.ownBlock];omega),h4 r (by omega),ho r hr]
 ·rcases g5 with e|⟨q,e,hq⟩
  ·rw[e]at hb
   simp only[Value.ownBlock,Option.some.injEq]at hb
   omega
  ·rw[e]at hb
   cases hb
   omega
end
section
variable{w:World}
structure SV(av:Nat)(v:Value)(u:World):Prop where
 c:u.cell? ⟨av,0,none⟩=some v
 z:u.frozen? ⟨av,0,none⟩=false
theorem E0l{ta:Option Addr}{tl tc n db av:Nat}{l x:Value}(hs:SV av x w){A:Array Value}(hA:G0 38 A [(0,.slice ta tl tc),(3,vP db 0),(6,vI n),(7,vP av 0),(8,l),(16,vI n),(17,vI n)]){c:Frame}{cs:List Frame}{Stop:Goroutine→World→Prop}
 (h:J0 Try.prog true F0 Stop (G (c.finish (.tuple #[l,x])) cs) w):
 J0 Try.prog true F0 Stop (G (bA 81 A [.code c0p,.code .ret]) (c::cs)) w:=by
 obtain⟨s,rfl,h0,h3,h6,h7,h8,h16,h17,_⟩:=Y3 diT hA
 simp only[diT,h0,h3,h6,h7,h8,h16,h17]
 clear h0 h3 h6 h7 h8 h16 h17
 have hS:∀u d,SV av x u→SV av x (World.at u d):=fun u d h=>⟨h.c,h.z⟩
 rw[x0b]
 refine O7 (SV av x) (last:=3) x4 (z8 (by kernel_rfl)) (by decide) ?_
 simp only[c0p,F4,Try.f81,zz,Nat.reduceAdd]
 have hZ:∀a u d,J0 Try.prog true F0 Stop (G ((Go.Conc.base 81).at a [.inRegion (oC c0p) [3],.code .ret]) (c::cs)) u→J0 Try.prog true F0 Stop (G ((Go.Conc.base 81).at a [.inRegion (oC c0p) [3],.code .ret]) (c::cs)) (World.at u d):=fun a u d h=>h.at d
 simp only[c0p,F4,Try.f81,zz,Nat.reduceAdd]at hZ
 refine tkM 0 l hS hs ?_ hZ
 walk_nrm
 refine a0t 1 x (fun u hu=>(And.intro hu.c hu.z)) hS hs ?_ hZ
 walk_nrm
 refine tkM 2 l hS hs ?_ hZ
 walk_nrm
 refine P5 (by kernel_rfl) ?_ _
 refine oT ?_
 refine S0<|ogX ?_
 refine Q0 rfl (fun d=>stepG_leave (fn:=Try.f81) (v:=.tuple #[l,x]) rfl rfl Try.func81 (by simp[results,Try.f81,go_sem]) (by simp[results,Try.f81,go_sem])) ?_
 exact h
structure DI(w0:World)(n k db aa av:Nat)(dv:Value)(oa:Nat→Option Addr)(m oc ib ob:Nat→Nat)(l:Value)(w:World):Prop where
 size:w0.heap.size≤w.heap.size
 old:∀r,r<w0.heap.size→w.heap[r]? =w0.heap[r]?
 hdb:w.heap[db]? =some (.cells #[dv] 98 (0,0))
 haa:w.heap[aa]? =some (.cells (madeCells #[.slice none 0 0] n) 42 (0,0))
 hav:w.heap[av]? =some (.cells #[vL aa 0 n n] 29 (0,0))
 hib:∀j,j<k→w.heap[ib j]? =some (.cells #[vI j] 3 (0,0))
 hob:∀j,j<k→w.heap[ob j]? =some (.cells #[.slice (oa j) (m j) (oc j)] 34 (0,0))
 lo:∀j,j<k→w0.heap.size≤ib j∧w0.heap.size≤ob j
 new:w0.heap.size≤db∧w0.heap.size≤aa∧w0.heap.size≤av
 row:w.ownsRow w0.heap.size 112 1 l k ((List.range k).map fun j=>c0o (ob j) db (ib j) av)
theorem DI.same{w0 w w':World}{n k db aa av:Nat}{dv:Value}{oa:Nat→Option Addr}{m oc ib ob:Nat→Nat}{l:Value}(h:DI w0 n k db aa av dv oa m oc ib ob l w)(hsz:w.heap.size≤w'.heap.size)(hs:∀r,r<w.heap.size→w'.heap[r]? =w.heap[r]?):DI w0 n k db aa av dv oa m oc ib ob l w':=by
 have lt:∀{r:Nat} {o:Obj},w.heap[r]? =some o→w'.heap[r]? =some o:=fun hr=>(hs _ (Q3 hr)).trans hr
 exact⟨Nat.le_trans h.size hsz,fun r hr=>(hs r (Nat.lt_of_lt_of_le hr h.size)).trans (h.old r hr),lt h.hdb,lt h.haa,lt h.hav,fun j hj=>lt (h.hib j hj),fun j hj=>lt (h.hob j hj),h.lo,h.new,K0 h.row fun b hb _=>hs b (h.row.lt b hb).2⟩
theorem e04{w0:World}{tb o tl tc n db aa av:Nat}{dv:Value}(hntl:n≤tl)(hn64:n≤64){oa:Nat→Option Addr}{ol m oc:Nat→Nat}(htb:0<n→tb<w0.heap.size)(hth:∀j,j<n→w0.cell? ⟨tb,o+j,none⟩=some (.slice (oa j) (ol j) (oc j))∧w0.frozen? ⟨tb,o+j,none⟩=false∧ol j≤oc j∧min (ol j) 65536=m j){ta:Option Addr}(hta:0<n→ta=some ⟨tb,o,none⟩){c:Frame}{cs:List Frame}{Stop:Goroutine→World→Prop}
 (K:∀w' l ib ob,DI w0 n n db aa av dv oa m oc ib ob l w'→J0 Try.prog true F0 Stop (G (c.finish (.tuple #[l,vL aa 0 n n])) cs) w'):
 ∀(q k:Nat),k+q=n→∀(w:World) (l:Value) (ib ob:Nat→Nat) (A:Array Value),DI w0 n k db aa av dv oa m oc ib ob l w→G0 38 A [(0,.slice ta tl tc),(3,vP db 0),(6,vI n),(7,vP av 0),(8,l),(16,vI n),(17,vI k)]→
  J0 Try.prog true F0 Stop (G (bA 81 A [.code c0q,.inLoop c0q,.inBlock 0,.code d0o]) (c::cs)) w:=by
 intro q
 induction q with
 | zero=>
   intro k hk w l ib ob A hD hA
   obtain rfl:k=n:=by omega
   refine E0k hA fun A2 hA2=>?_
   refine E0l (x:=vL aa 0 k k) ⟨by simp[World.cell?,hD.hav],by simp[World.frozen?,hD.hav]⟩ hA2 ?_
   exact K w l ib ob hD
 | succ q ih=>
   intro k hk w l ib ob A hD hA
   have hkn:k<n:=by omega
   obtain rfl:=hta (by omega)
   obtain⟨t1,t2,t3,t4⟩:=hth k hkn
   have htl:=htb (by omega)
   have htb2:=hD.old tb htl
   have hsz0:=hD.size
   refine E0h J1 (Nat.zero_le _) hkn hA fun A2 hA2=>?_
   have e1:∀r,r<w.heap.size→(w.alloc (.cells #[vI k] 3)).heap[r]? =w.heap[r]?:=fun r hr=>D0 _ _ hr
   have e2:=heap_alloc_new w (.cells #[vI k] 3)
   have e3:(w.alloc (.cells #[vI k] 3)).heap.size=w.heap.size+1:=by simp
   generalize w.alloc (.cells #[vI k] 3)=W1 at e1 e2 e3 ⊢
   refine ogV i0E o0R ?_
   have htb3:W1.heap[tb]? =w0.heap[tb]?:=(e1 tb (by omega)).trans htb2
   refine E0i (nn:=0) (m:=m k) J1 (by omega) t4 t3 ⟨Nat.zero_le _,by omega,by omega,by simp[World.cell?,e2],by simp[World.frozen?,e2],by rw[← t1];unfold World.cell?;simp only[htb3],by rw[← t2];unfold World.frozen?;simp only[htb3]⟩ hA2 fun A3 hA3=>?_
   have f1:∀r,r<W1.heap.size→(W1.alloc (.cells #[.slice (oa k) (m k) (oc k)] 34)).heap[r]? =W1.heap[r]?:=fun r hr=>D0 _ _ hr
   have f2:=heap_alloc_new W1 (.cells #[.slice (oa k) (m k) (oc k)] 34)
   have f3:(W1.alloc (.cells #[.slice (oa k) (m k) (oc k)] 34)).heap.size=W1.heap.size+1:=by simp
   generalize W1.alloc (.cells #[.slice (oa k) (m k) (oc k)] 34)=W2 at f1 f2 f3 ⊢
   have hD2:DI w0 n k db aa av dv oa m oc ib ob l W2:=hD.same (by omega) fun r hr=>(f1 r (by omega)).trans (e1 r hr)
   refine E0j (base:=w0.heap.size) (by omega) (by omega) hD2.row hA3 fun w' l' A4 g1 g2 g3 hA4=>?_
   have hne:∀{r:Nat} {cc:Array Value} {t:TypeId},W2.heap[r]? =some (.cells cc t (0,0))→t≠112→w'.heap[r]? =some (.cells cc t (0,0)):=fun hr ht=>(g3 _ (Q3 hr) (Q9 hD2.row hr (fun e=>ht e.symm))).trans hr
   have hold:∀r,r<w0.heap.size→w'.heap[r]? =w0.heap[r]?:=fun r hr=>(g3 r (by omega) (fun e=>by
    have:=(hD2.row.lt r e.symm).1;omega)).trans (hD2.old r hr)
   refine ih (k+1) (by omega) w' l' (fun j=>if j=k then w.heap.size else ib j) (fun j=>if j=k then W1.heap.size else ob j) A4 ⟨by omega,hold,hne hD2.hdb (by decide),hne hD2.haa (by decide),hne hD2.hav (by decide),fun j hj=>?_,fun j hj=>?_,fun j hj=>?_,hD.new,?_⟩ hA4
   ·by_cases e:j=k
    ·subst e
     simp only[if_true]
     exact hne ((f1 _ (by omega)).trans e2) (by decide)
    ·simp only[if_neg e]
     exact hne (hD2.hib j (by omega)) (by decide)
   ·by_cases e:j=k
    ·subst e
     simp only[if_true]
     exact hne f2 (by decide)
    ·simp only[if_neg e]
     exact hne (hD2.hob j (by omega)) (by decide)
   ·by_cases e:j=k
    ·subst e
     simp only[if_true]
     omega
    ·simp only[if_neg e]
     exact hD.lo j (by omega)
   ·have e5:((List.range (k+1)).map fun j=>c0o (if j=k then W1.heap.size else ob j) db (if j=k then w.heap.size else ib j) av)=((List.range k).map fun j=>c0o (ob j) db (ib j) av)++[c0o W1.heap.size db w.heap.size av]:=by
     rw[List.range_succ,List.map_append]
     congr 1
     ·apply List.map_congr_left
      intro j hj
      have:j<k:=List.mem_range.1 hj
      simp only[if_neg (show ¬j=k by omega)]
     ·simp
    rw[e5]
    exact g1
theorem n0P{tb o tl tc n df:Nat}{first capt:Array Value}(hn1:min tl 64=n){oa:Nat→Option Addr}{ol m oc:Nat→Nat}(htb:0<n→tb<w.heap.size)(hth:∀j,j<n→w.cell? ⟨tb,o+j,none⟩=some (.slice (oa j) (ol j) (oc j))∧w.frozen? ⟨tb,o+j,none⟩=false∧ol j≤oc j∧min (ol j) 65536=m j){ta:Option Addr}(hta:0<n→ta=some ⟨tb,o,none⟩){c:Frame}{cs:List Frame}{Stop:Goroutine→World→Prop}
 (K:∀w' l ib ob db aa av,DI w n n db aa av (.func (.func df) first capt) oa m oc ib ob l w'→J0 Try.prog true F0 Stop (G (c.finish (.tuple #[l,vL aa 0 n n])) cs) w'):
 J0 Try.prog true F0 Stop (G (Frame.enter Try.prog 81 #[.slice ta tl tc,.func (.func df) first capt] .normal) (c::cs)) w:=by
 refine E0f J1 (Nat.zero_le _) hn1 fun A hA=>?_
 refine E0g J1 (Nat.zero_le _) (by omega) hA fun A2 hA2=>?_
 have e1:∀r,r<w.heap.size→(((w.alloc (.cells #[.func (.func df) first capt] 98)).alloc (.cells (madeCells #[.slice none 0 0] n) 42)).alloc (.cells #[vL ((w.alloc (.cells #[.func (.func df) first capt] 98)).heap.size) 0 n n] 29)).heap[r]? =w.heap[r]?:=fun r hr=>by
  rw[D0 _ _ (by simp;omega),D0 _ _ (by simp;omega),D0 _ _ hr]
 refine e04 (w0:=w) (n:=n) (tl:=tl) (dv:=.func (.func df) first capt) (oa:=oa) (ol:=ol) (m:=m) (oc:=oc) (tb:=tb) (o:=o) (db:=w.heap.size) (aa:=w.heap.size+1) (av:=w.heap.size+2) (by omega) (by omega) htb hth hta (fun w' l ib ob hD=>K w' l ib ob _ _ _ hD) n 0 (by omega) _ (.slice none 0 0) (fun _=>0) (fun _=>0) A2 ⟨by simp;omega,e1,?_,?_,?_,fun j hj=>by omega,fun j hj=>by omega,fun j hj=>by omega,⟨by omega,by omega,by omega⟩,World.ownsRow_nil _ _ _ _⟩ (by simpa using hA2)
 ·rw[D0 _ _ (by simp;omega),D0 _ _ (by simp)]
  exact heap_alloc_new _ _
 ·have:=heap_alloc_new (w.alloc (.cells #[.func (.func df) first capt] 98)) (.cells (madeCells #[.slice none 0 0] n) 42)
  rw[D0 _ _ (by simp)]
  simpa using this
 ·have:=heap_alloc_new ((w.alloc (.cells #[.func (.func df) first capt] 98)).alloc (.cells (madeCells #[.slice none 0 0] n) 42)) (.cells #[vL ((w.alloc (.cells #[.func (.func df) first capt] 98)).heap.size) 0 n n] 29)
  simpa using this
end
noncomputable section
variable {cs:List Frame}{main:Bool}{Stop:Goroutine→World→Prop}
variable{F:Fz}{w:World}
theorem l0j(a b c:Option Addr)(n m k l:Nat)(s:Bool):Try.prog.built 31 [(0,.slice a n m),(1,.slice b k l),(3,.bool s)]=some #[.slice a n m,.slice b k l,.slice none 0 0,.bool s]:=by kernel_rfl
@[go_sem] theorem v0i(a b:Option Addr)(n m k l:Nat)(s:Bool)(w:World):(Instr.build 31 #[(0,.slice a n m),(1,.slice b k l),(3,.bool s)]).run Try.prog w= .ok (.agg #[.slice a n m,.slice b k l,.slice none 0 0,.bool s]) w:=run_build w _ _ _ (l0j a b a n m k l s)
@[go_sem] theorem x0g(a b:Option Addr)(n m k l:Nat)(s:Bool)(w:World)(es:Array Event):(Instr.build 31 #[(0,.slice a n m),(1,.slice b k l),(3,.bool s)]).events Try.prog w es=es:=l6 w es _ _ _ _ Try.underlying31 (l0j a b a n m k l s)
def trW(w:World)(tb:Nat)(a b c d:Value):World:=(((w.setCell ⟨tb,0,none⟩ a).setCell ⟨tb,1,none⟩ b).setCell ⟨tb,2,none⟩ c).setCell ⟨tb,3,none⟩ d
structure S7(w:World)(tb:Nat)(a b c d:Value):Prop where
 o:w.heap[tb]? =some (.cells #[a,b,c,d] 31 (0,0))
section
variable{tb:Nat}{a b c d:Value}
theorem S7.at(h:S7 w tb a b c d)(e:Nat):S7 (w.at e) tb a b c d:=⟨h.o⟩
theorem S7.c0(h:S7 w tb a b c d):w.cell? ⟨tb,0,none⟩=some a:=by simp[World.cell?,h.o]
theorem S7.c1(h:S7 w tb a b c d):w.cell? ⟨tb,1,none⟩=some b:=by simp[World.cell?,h.o]
theorem S7.c2(h:S7 w tb a b c d):w.cell? ⟨tb,2,none⟩=some c:=by simp[World.cell?,h.o]
theorem S7.c3(h:S7 w tb a b c d):w.cell? ⟨tb,3,none⟩=some d:=by simp[World.cell?,h.o]
theorem S7.z(h:S7 w tb a b c d)(k:Nat):w.frozen? ⟨tb,k,none⟩=false:=by simp[World.frozen?,h.o]
theorem S7.put(h:S7 w tb a b c d)(a' b' c' d':Value):S7 (trW w tb a' b' c' d') tb a' b' c' d':=by
 constructor
 unfold trW
 rw[U1 (U1 (U1 (U1 h.o _) _) _) _]
 rfl
end
def j8:Code:=Try.f47.body.getD .skip
def E0S:=pC [] j8
def B0B:=pC [zt] j8
def B0D:=pC [zf] j8
def p0C:=pC [zf,zt] j8
def s0E:=pC [zf] B0D
def n0K:=pC [zf,zf,zt] j8
def s0F:=pC [zf] s0E
def B0C:=pC [zf,zf,zf,zt] j8
theorem o0W(args:Array Value):Frame.enter Try.prog 47 args .normal=(Go.Conc.base 47).at {tmps:=args++Array.replicate (32 - args.size) undef,defers:=[]} [.code E0S]:=enter_at args Try.func47 rfl
theorem j03:O1 47:=G2 Try.func47 rfl rfl
def opT(s:Nat→Value):Array Value:= #[s 0,s 1,s 2,s 3,s 4,s 5,s 6,s 7,s 8,s 9,s 10,s 11,s 12,s 13,s 14,s 15,s 16,s 17,s 18,s 19,s 20,s 21,s 22,s 23,s 24,s 25,s 26,s 27,s 28,s 29,s 30,s 31]
theorem E0O{A:Array Value}(h:A.size=32):∃s,A=opT s:=by
 obtain⟨s,hs,_⟩:=Y4 A h
 exact⟨s,hs⟩
theorem E0P{n:Nat}(hU:P2 F n)(hn:n≤w.heap.size){ta sa:Option Addr}{tl tc sl sc:Nat}{dv:Value}{mo:Int}
 (h:∀A,G0 32 A [(0,.slice ta tl tc),(1,dv),(2,.slice sa sl sc),(3,vI mo),(8,vP w.heap.size 0)]→J0 Try.prog main F Stop (G (Frame.enter Try.prog 81 #[.slice ta tl tc,dv] .normal) ((bA 47 A [.inRegion (oC p0C) [2,3,4,5,6,7],.code s0E])::cs)) (w.alloc (.cells #[.slice none 0 0,.slice none 0 0,.slice none 0 0,.bool false] 31))):
 J0 Try.prog main F Stop (G (Frame.enter Try.prog 47 #[.slice ta tl tc,dv,.slice sa sl sc,vI mo] .normal) cs) w:=by
 rw[o0W]
 walk_nrm
 refine ogW B0B B0D ?_
 simp only[B0B,j8,Try.f47,zz,Nat.reduceAdd]
 refine oA hU ?_
 refine S0<|ogW p0C s0E ?_
 simp only[p0C,j8,Try.f47,zz,Nat.reduceAdd]
 iterate 2 refine oT ?_
 refine oc j07 #[.slice ta tl tc,dv] ?_
 refine h _ ?_
 exact⟨rfl,rfl,rfl,rfl,rfl,rfl,trivial⟩
theorem E0Q{ta sa:Option Addr}{tl tc sl sc tb:Nat}{dv l an:Value}{mo:Int}{A:Array Value}(hA:G0 32 A [(0,.slice ta tl tc),(1,dv),(2,.slice sa sl sc),(3,vI mo),(8,vP tb 0)])
 (h:∀A,G0 32 A [(8,vP tb 0),(10,an)]→J0 Try.prog main F Stop (G (Frame.enter Try.prog 82 #[l,.slice sa sl sc,vI mo] .normal) ((bA 47 A [.inRegion (oC n0K) [3,4,5,6,7,8,9,10],.code s0F])::cs)) w):
 J0 Try.prog main F Stop (G ((bA 47 A [.inRegion (oC p0C) [2,3,4,5,6,7],.code s0E]).finish (.tuple #[l,an])) cs) w:=by
 obtain⟨s,rfl,h0,h1,h2,h3,h8,_⟩:=Y3 opT hA
 simp only[opT,h0,h1,h2,h3,h8]
 clear h0 h1 h2 h3 h8
 rw[Frame.finish_at]
 simp only[p0C,j8,Try.f47,zz,Nat.reduceAdd]
 walk_nrm
 iterate 5 refine oT ?_
 refine S0<|ogW n0K s0F ?_
 simp only[n0K,j8,Try.f47,zz,Nat.reduceAdd]
 iterate 3 refine oT ?_
 refine oc j08 #[l,.slice sa sl sc,vI mo] ?_
 refine h _ ?_
 exact⟨rfl,rfl,rfl,trivial⟩
theorem E0R{tb:Nat}{x0 x1 x2 x3:Value}(hT:S7 w tb x0 x1 x2 x3)(hnh:∀k,¬held F ⟨tb,k,none⟩){aa oa:Option Addr}{al ac ol oc:Nat}{st:Bool}{bv:Value}{A:Array Value}(hA:G0 32 A [(8,vP tb 0),(10,.slice aa al ac)]){c:Frame}
 (h:J0 Try.prog main F Stop (G (c.finish (.agg #[.slice aa al ac,.slice oa ol oc,.slice none 0 0,.bool st])) cs) (trW w tb (.slice aa al ac) (.slice oa ol oc) (.slice none 0 0) (.bool st))):
 J0 Try.prog main F Stop (G ((bA 47 A [.inRegion (oC n0K) [3,4,5,6,7,8,9,10],.code s0F]).finish (.tuple #[.slice oa ol oc,.bool st,bv])) (c::cs)) w:=by
 obtain⟨s,rfl,h8,h10,_⟩:=Y3 opT hA
 simp only[opT,h8,h10]
 clear h8 h10
 rw[Frame.finish_at]
 simp only[n0K,j8,Try.f47,zz,Nat.reduceAdd]
 walk_nrm
 iterate 7 refine oT ?_
 refine S0<|ogW B0C .ret ?_
 simp only[B0C,j8,Try.f47,zz,Nat.reduceAdd]
 iterate 4 refine oT ?_
 (refine oW fun dd K hK=>?_;have hc0:=(hT.at dd).c0;have hc1:=(hT.at dd).c1;have hc2:=(hT.at dd).c2;have hc3:=(hT.at dd).c3;have hz0:=(hT.at dd).z;go_simp;refine hK _ _ ⟨⟨⟨0,e0L (fun k=>hnh k) _ _ _ _⟩,fun e he=>by(have hm:=mem_listed he;clear he hK;simp[go_sem,storedEv,hc0,hc1,hc2,hc3,hz0]at hm;rcases hm with rfl|rfl|rfl|rfl<;>exact U0 _ _ ((fun k=>hnh k) _))⟩,?_⟩;clear hK K hc0 hc1 hc2 hc3 hz0;simp only[setCell_at'];refine J0.at ?_ dd)
 refine S0<|ogX ?_
 have hT2:=hT.put (.slice aa al ac) (.slice oa ol oc) (.slice none 0 0) (.bool st)
 change J0 _ _ _ _ _ (trW w tb (.slice aa al ac) (.slice oa ol oc) (.slice none 0 0) (.bool st))
 generalize trW w tb (.slice aa al ac) (.slice oa ol oc) (.slice none 0 0) (.bool st)=W at hT2 h ⊢
 have hc0:=hT2.c0
 have hc1:=hT2.c1
 have hc2:=hT2.c2
 have hc3:=hT2.c3
 have hz0:=hT2.z
 refine p4 (fn:=Try.f47) (v:=.agg #[.slice aa al ac,.slice oa ol oc,.slice none 0 0,.bool st]) rfl rfl Try.func47 (fun d=>by simp[results,Try.f47,go_sem,hc0,hc1,hc2,hc3,hz0]) (fun d e he=>by simp[results,Try.f47,go_sem,hc0,hc1,hc2,hc3,hz0]at he;rcases he with rfl|rfl|rfl|rfl<;>exact I1 _ _) ?_
 exact h
end
noncomputable section
variable{w w':World}{L:Lay}
open Classical in
def IW(w:World)(N:Nat→Prop):Nat→Option Obj:=fun r=>if N r then none else match w.heap[r]? with
 | some (.cells c e z)=>some (.cells c e z)
 | _=>none
theorem x0t{N:Nat→Prop}{r:Nat}(h:N r):IW w N r=none:=if_pos h
theorem p0l{N:Nat→Prop}{r:Nat}{c:Array Value}{e:TypeId}{z:Nat×Nat}(h:¬N r)(ho:w.heap[r]? =some (.cells c e z)):IW w N r=some (.cells c e z):=by
 unfold IW
 rw[if_neg h,ho]
theorem s0y{N:Nat→Prop}{r:Nat}{o:Obj}(h:IW w N r=some o):¬N r∧w.heap[r]? =some o∧∃c e z,o= .cells c e z:=by
 unfold IW at h
 split at h
 ·cases h
 ·rename_i hm
  split at h
  ·rename_i c e z ho
   cases h
   exact⟨hm,ho,c,e,z,rfl⟩
  ·cases h
theorem f0I(n j:Nat)(h:j<n):(madeCells #[Value.slice none 0 0] n)[j]? =some (.slice none 0 0):=by
 simp[madeCells,h,Nat.mod_one]
theorem e0T(n:Nat)(v:Value):(madeCells #[v] n).size=n:=by
 simp[madeCells]
def x00(s0:L.S):OX L:=⟨s0,fun _=>⟨0,none,[],.slice none 0 0⟩⟩
theorem z0z{r:Nat}:¬TR (⟨0,none,[],.slice none 0 0⟩:Thr L) r:=by
 rintro(h|⟨a,ha,_⟩|⟨c,A,ab,h,_⟩)
 ·cases h
 ·cases ha
 ·cases h
def pOf(L:Lay)(s0:L.S)(W:World)(n db aa av:Nat)(ib ob:Nat→Nat)(oa:Nat→Option Addr)(oc:Nat→Nat)(ops:Nat→List P3):Par:=
 ⟨n,aa,av,db,ib,ob,ops,oa,oc,IW W (fun r=>r=aa∨L.SR s0 r)⟩
theorem E6{s0:L.S}{W:World}{n db aa av:Nat}{ib ob:Nat→Nat}{oa:Nat→Option Addr}{oc:Nat→Nat}{ops:Nat→List P3}{r:Nat}{c:Array Value}{e:TypeId}{z:Nat×Nat}(h:¬(r=aa∨L.SR s0 r))(ho:W.heap[r]? =some (.cells c e z)):(pOf L s0 W n db aa av ib ob oa oc ops).I r=some (.cells c e z):=by
 exact p0l (w:=W) (N:=fun r=>r=aa∨L.SR s0 r) h ho
theorem i06{s0:L.S}{W:World}{n db aa av:Nat}{ib ob:Nat→Nat}{oa:Nat→Option Addr}{oc:Nat→Nat}{ops:Nat→List P3}{r:Nat}{o:Obj}(h:(pOf L s0 W n db aa av ib ob oa oc ops).I r=some o):¬(r=aa∨L.SR s0 r)∧W.heap[r]? =some o∧∃c e z,o= .cells c e z:=by
 exact s0y (w:=W) (N:=fun r=>r=aa∨L.SR s0 r) h
theorem l02{s0:L.S}{W:World}{n db aa av:Nat}{ib ob:Nat→Nat}{oa:Nat→Option Addr}{oc:Nat→Nat}{ops:Nat→List P3}{r:Nat}(h:r=aa∨L.SR s0 r):(pOf L s0 W n db aa av ib ob oa oc ops).I r=none:=by
 exact x0t (w:=W) (N:=fun r=>r=aa∨L.SR s0 r) h
section
variable{s0:L.S}{W w0:World}{n db aa av tb o tl:Nat}{ib ob:Nat→Nat}{oa:Nat→Option Addr}{ol oc m:Nat→Nat}{ops:Nat→List P3}{ta sa:Option Addr}{S:List Int}{l:Value}
theorem b0f{dv:Value}(hL:L.Ok)(hsu:L.SU s0 w0)(hD:DI w0 n n db aa av dv oa m oc ib ob l W){r:Nat}{c:Array Value}{e:TypeId}{z:Nat×Nat}(ho:W.heap[r]? =some (.cells c e z))(h84:e≠42)(hr:w0.heap.size≤r):¬(r=aa∨L.SR s0 r):=by
 rintro(rfl|h)
 ·rw[hD.haa]at ho
  cases ho
  exact h84 rfl
 ·have:=hL.lS _ _ _ hsu h
  omega
theorem y0h(hL:L.Ok)(hsu:L.SU s0 w0)(hI:y6 w0 (L.SR s0) n tb o tl ta oa ol oc ops S sa)(hD:DI w0 n n db aa av (.func (.func L.df) L.first L.capt) oa (fun j=>(ops j).length) oc ib ob l W):(pOf L s0 W n db aa av ib ob oa oc ops).Ok L where
 cells:=fun r o h=>(i06 h).2.2
 len:=fun i hi=>by
  have:(ops i).length=min (ol i) 65536:=hI.hlen i hi
  show(ops i).length≤65536
  omega
 inI:=⟨by
  show(pOf L s0 W n db aa av ib ob oa oc ops).I av≠none
  rw[E6 (b0f hL hsu hD hD.hav (by decide) hD.new.2.2) hD.hav];simp,fun i hi=>by
  show(pOf L s0 W n db aa av ib ob oa oc ops).I (ib i)≠none
  rw[E6 (b0f hL hsu hD (hD.hib i hi) (by decide) (hD.lo i hi).1) (hD.hib i hi)];simp⟩
 av:=fun u hu=>⟨⟨_,_,hu _ _ (E6 (b0f hL hsu hD hD.hav (by decide) hD.new.2.2) hD.hav),rfl⟩,rfl⟩
 db:=fun u hu=>⟨⟨_,_,hu _ _ (E6 (b0f hL hsu hD hD.hdb (by decide) hD.new.1) hD.hdb),rfl⟩,rfl⟩
 ib:=fun u hu i hi=>⟨⟨_,_,hu _ _ (E6 (b0f hL hsu hD (hD.hib i hi) (by decide) (hD.lo i hi).1) (hD.hib i hi)),rfl⟩,rfl⟩
 ob:=fun u hu i hi=>⟨⟨_,_,hu _ _ (E6 (b0f hL hsu hD (hD.hob i hi) (by decide) (hD.lo i hi).2) (hD.hob i hi)),rfl⟩,rfl⟩
 op:=fun u hu i hi k x hx=>by
  obtain⟨opb,oo,h1,h2,f0,f1,f2,f3,g0,g1,g2,g3⟩:=hI.hop i hi k x hx
  obtain⟨c,e,z,ho⟩:=M3 f0
  simp only at ho
  have hlt:=(Q3 ho)
  have hW:=(hD.old opb hlt).trans ho
  have hN:¬(opb=aa∨L.SR s0 opb):=by
   rintro(h|h)
   ·have:=hD.new.2.1;omega
   ·exact h2 h
  have hU:=hu _ _ (E6 hN hW)
  have e1:u.heap[opb]? =w0.heap[opb]?:=hU.trans ho.symm
  have ec:∀k,u.cell? ⟨opb,k,none⟩=w0.cell? ⟨opb,k,none⟩:=fun k=>by unfold World.cell?;simp only[e1]
  have ez:∀k,u.frozen? ⟨opb,k,none⟩=w0.frozen? ⟨opb,k,none⟩:=fun k=>by unfold World.frozen?;simp only[e1]
  exact⟨opb,oo,h1,(ec _).trans f0,(ec _).trans f1,(ec _).trans f2,(ec _).trans f3,(ez _).trans g0,(ez _).trans g1,(ez _).trans g2,(ez _).trans g3⟩
theorem p0E{g:Q1}(hL:L.Ok)(hsu:L.SU s0 w0)(hD:DI w0 n n db aa av (.func (.func L.df) L.first L.capt) oa (fun j=>(ops j).length) oc ib ob l W):OU L (pOf L s0 W n db aa av ib ob oa oc ops) g (x00 s0) W where
 fix:=fun r o h=>(i06 h).2.1
 su:=hL.sS _ _ _ hsu hD.size fun r hr=>hD.old r (hL.lS _ _ _ hsu hr)
 arr:=⟨_,hD.haa,e0T _ _,fun i hi=>f0I _ _ hi⟩
 thr:=fun i hi=>⟨World.ownsRow_nil _ _ _ _,fun a ha=>(by cases ha),rfl,Nat.zero_le _,fun a ha=>(by cases ha),fun c A ab h=>(by cases h)⟩
 ts:=fun i hi r hr=>absurd hr z0z
 sa:=fun h=>by
  have:=hL.lS _ _ _ hsu h
  have h2:=hD.new.2.1
  show False
  have h3:(pOf L s0 W n db aa av ib ob oa oc ops).aa=aa:=rfl
  omega
 jj:=fun i hi c A ab h=>(by cases h)
 tt:=fun i j hi hj hne r hr=>absurd hr z0z
 inone:=by
  rintro r (h|h|⟨i,hi,h⟩)
  ·exact l02 (.inr h)
  ·exact l02 (.inl h)
  ·exact absurd h z0z
end
end
section
variable{An:G3}{w w':World}{L:Lay}
theorem y6.alloc{N:Nat→Prop}{n tb o tl:Nat}{ta:Option Addr}{oa:Nat→Option Addr}{ol oc:Nat→Nat}{ops:Nat→List P3}{S:List Int}{sa:Option Addr}(h:y6 w N n tb o tl ta oa ol oc ops S sa)(ob:Obj):y6 (w.alloc ob) N n tb o tl ta oa ol oc ops S sa:=by
 refine⟨h.hn,h.hta,fun hp=>by have:=h.htb hp;simp;omega,fun j hj=>?_,h.hlen,fun j hj k x hx=>?_,h.hsl,fun hp=>?_⟩
 ·obtain⟨h1,h2,h3⟩:=h.hth j hj
  exact⟨(O0 h1 ob).1,(O0 h1 ob).2.trans h2,h3⟩
 ·obtain⟨opb,oo,h1,h2,f0,f1,f2,f3,g0,g1,g2,g3⟩:=h.hop j hj k x hx
  exact⟨opb,oo,h1,h2,(O0 f0 ob).1,(O0 f1 ob).1,(O0 f2 ob).1,(O0 f3 ob).1,(O0 f0 ob).2.trans g0,(O0 f1 ob).2.trans g1,(O0 f2 ob).2.trans g2,(O0 f3 ob).2.trans g3⟩
 ·obtain⟨sb,so,c,e,z,h1,h2,h3,h4⟩:=h.hS hp
  exact⟨sb,so,c,e,z,h1,h2,(D0 _ _ (Q3 h3)).trans h3,h4⟩
def Par.re(p:Par)(I:Nat→Option Obj):Par:=⟨p.n,p.aa,p.av,p.db,p.ib,p.ob,p.ops,p.oa,p.oc,I⟩
theorem f0C.re{p:Par}{I:Nat→Option Obj}{st i:Nat}{t:Thr L}(h:f0C L p st i t w):f0C L (p.re I) st i t w:=⟨h.row,h.au,h.al,h.kl,h.ar,h.call⟩
theorem OU.re{p:Par}{g:Q1}{x:OX L}(h:OU L p g x w){I:Nat→Option Obj}(hI:∀r o,I r=some o→p.I r=some o):OU L (p.re I) g x w:=
 ⟨fun r o e=>h.fix r o (hI r o e),h.su,h.arr,fun i hi=>(h.thr i hi).re,h.ts,h.sa,h.jj,h.tt,fun r hr=>by
  cases e:I r with
  | none=>exact e
  | some o=>
    have:=h.inone r hr
    rw[hI r o e]at this
    cases this⟩
theorem o0w(hL:L.Ok){s0:L.S}(hsu:L.SU s0 w){n tb o tl tc sc M:Nat}{mo:Int}{ta sa:Option Addr}{oa:Nat→Option Addr}{ol oc:Nat→Nat}{ops:Nat→List P3}{S:List Int}(hI:y6 w (L.SR s0) n tb o tl ta oa ol oc ops S sa)(hM:min (max mo 0) 1048576=(M:Int)){c:Frame}{cs:List Frame}{Stop:Goroutine→World→Prop}
 (hk:∀(g:Q1) (p p':Par) (t:OX L×List Nat) (w':World) (oa':Option Addr) (oc':Nat),g.n=n→p.n=n→p.ops=ops→(U2 L p g).Ok g→d0X (U2 L p g) n M S (x00 s0) t→p'.n=n→p'.ops=ops→p'.aa=p.aa→OU L p' g t.1 w'→
   w'.ownsRow w.heap.size 3 1 (.slice oa' t.2.length oc') t.2.length (t.2.map fun i:Nat=>Value.int .i64 i)→(∀y,oa'=some y→¬OR L p' t.1 y.block)→w.heap.size≤w'.heap.size→(∀r c e z,w.heap[r]? =some (.cells c e z)→¬L.SR s0 r→w'.heap[r]? =some (.cells c e z))→(∀r c e z,w.heap[r]? =some (.cells c e z)→¬L.SR s0 r→p'.I r≠none)→
   Bes An Try.prog Stop (G (c.finish (.agg #[vL p.aa 0 n n,.slice oa' t.2.length oc',.slice none 0 0,.bool (decide (0<L5 ((U2 L p g).liv t.1) n))])) cs) w'):
 Bes An Try.prog Stop (G (Frame.enter Try.prog 47 #[.slice ta tl tc,.func (.func L.df) L.first L.capt,.slice sa S.length sc,vI mo] .normal) (c::cs)) w:=by
 have hw0:∀r,r<w.heap.size→(w.alloc (.cells #[.slice none 0 0,.slice none 0 0,.slice none 0 0,.bool false] 31)).heap[r]? =w.heap[r]?:=fun r hr=>D0 _ _ hr
 have hs0:(w.alloc (.cells #[.slice none 0 0,.slice none 0 0,.slice none 0 0,.bool false] 31)).heap.size=w.heap.size+1:=by simp
 have htr:S7 (w.alloc (.cells #[.slice none 0 0,.slice none 0 0,.slice none 0 0,.bool false] 31)) w.heap.size (.slice none 0 0) (.slice none 0 0) (.slice none 0 0) (.bool false):=⟨heap_alloc_new _ _⟩
 have hI0:=hI.alloc (.cells #[.slice none 0 0,.slice none 0 0,.slice none 0 0,.bool false] 31)
 refine w7 (F:=F0) (Stop:=fun a u=>∃A l ib ob db aa av,a=G (Frame.enter Try.prog 82 #[l,.slice sa S.length sc,vI mo] .normal) ((bA 47 A [.inRegion (oC n0K) [3,4,5,6,7,8,9,10],.code s0F])::c::cs)∧
  DI (w.alloc (.cells #[.slice none 0 0,.slice none 0 0,.slice none 0 0,.bool false] 31)) n n db aa av (.func (.func L.df) L.first L.capt) oa (fun j=>(ops j).length) oc ib ob l u∧G0 32 A [(8,vP w.heap.size 0),(10,vL aa 0 n n)])
  (E0P J1 (Nat.zero_le _) fun A hA=>n0P hI0.hn hI0.htb (fun j hj=>⟨(hI0.hth j hj).1,(hI0.hth j hj).2.1,(hI0.hth j hj).2.2,(hI0.hlen j hj).symm⟩) hI0.hta fun w1 l ib ob db aa av hD=>E0Q hA fun A2 hA2=>.stop fun d=>⟨A2,l,ib,ob,db,aa,av,rfl,hD.same (Nat.le_refl _) fun _ _=>rfl,hA2⟩) fun a W hS=>?_
 obtain⟨A,l,ib,ob,db,aa,av,rfl,hD,hA⟩:=hS
 generalize w.alloc (.cells #[.slice none 0 0,.slice none 0 0,.slice none 0 0,.bool false] 31)=w0 at hw0 hs0 htr hI0 hD
 have hsu0:L.SU s0 w0:=hL.sS _ _ _ hsu (by omega) fun r hr=>hw0 r (hL.lS _ _ _ hsu hr)
 have hpok:=y0h hL hsu0 hI0 hD
 have hn64:n≤64:=by have:=hI.hn;omega
 have hU1:∀g,OU L (pOf L s0 W n db aa av ib ob oa oc ops) g (x00 s0) W:=fun g=>p0E hL hsu0 hD
 have hsrlt:∀r,L.SR s0 r→r<w.heap.size:=fun r hr=>hL.lS _ _ _ hsu hr
 have hDs:=hD.size
 have hDn:=hD.new
 obtain⟨la,lc,rfl,hla⟩:∃la lc,l= .slice la n lc∧(0<n→∃lb cur,la=some ⟨lb,0,none⟩∧w0.heap.size≤lb∧W.heap[lb]? =some (.cells cur 112 (0,0))∧cur.toList.take n=(List.range n).map fun j=>c0o (ob j) db (ib j) av):=by
  rcases hD.row.2 with⟨h1,h2⟩|⟨b,cap,cur,h1,h2,h3,h4,h5,h6,h7⟩
  ·exact⟨none,0,by rw[h1,h2],fun h=>by omega⟩
  ·exact⟨_,cap,h1,fun _=>⟨b,cur,rfl,h2,h3,by simpa using h7⟩⟩
 have hnm:∀r c e z,W.heap[r]? =some (.cells c e z)→e≠42→¬L.SR s0 r→(pOf L s0 W n db aa av ib ob oa oc ops).I r=some (.cells c e z):=fun r c e z h1 h2 h3=>E6 (by
  rintro(rfl|h)
  ·rw[hD.haa]at h1
   cases h1
   exact h2 rfl
  ·exact h3 h) h1
 have hnA:∀r c e z,W.heap[r]? =some (.cells c e z)→r≠aa→¬L.SR s0 r→(pOf L s0 W n db aa av ib ob oa oc ops).I r=some (.cells c e z):=fun r c e z h1 h2 h3=>E6 (fun h=>h.elim h2 h3) h1
 have hnewS:∀r,w0.heap.size≤r→¬L.SR s0 r:=fun r hr h=>by have:=hsrlt r h;omega
 have hthr:∃lb,(0<n→la=some ⟨lb,0,none⟩)∧∀g:Q1,d0i (U2 L (pOf L s0 W n db aa av ib ob oa oc ops) g) lb 0 ((List.range n).map fun j=>.func (.func 99) #[] ((U2 L (pOf L s0 W n db aa av ib ob oa oc ops) g).cap j)):=by
  by_cases h0:0<n
  ·obtain⟨lb,cur,h1,h2,h3,h4⟩:=hla h0
   refine⟨lb,fun _=>h1,fun g=>⟨cur,112,(0,0),hnm lb _ _ _ h3 (by decide) (hnewS lb h2),fun k u hku=>⟨?_,by simp⟩⟩⟩
   have hku:((List.range n).map fun j=>c0o (ob j) db (ib j) av)[k]? =some u:=hku
   rw[← h4]at hku
   have hkn:k<n:=by
    have:=(List.getElem?_eq_some_iff.1 hku).1
    rw[List.length_take]at this
    omega
   rw[List.getElem?_take_of_lt hkn]at hku
   simpa using hku
  ·refine⟨av,fun h=>absurd h h0,fun g=>⟨_,_,_,hnm av _ _ _ hD.hav (by decide) (hnewS av hDn.2.2),fun k u hku=>?_⟩⟩
   have:n=0:=by omega
   rw[this]at hku
   simp at hku
 obtain⟨lb,hlb,hrow⟩:=hthr
 have hsch:∃sb so,(0<S.length→sa=some ⟨sb,so,none⟩)∧∀g:Q1,d0i (U2 L (pOf L s0 W n db aa av ib ob oa oc ops) g) sb so (S.map fun i:Int=>Value.int .i64 i):=by
  by_cases h0:0<S.length
  ·obtain⟨sb,so,cc,e,z,h1,h2,h3,h4⟩:=hI0.hS h0
   have hlt:=(Q3 h3)
   refine⟨sb,so,fun _=>h1,fun g=>⟨cc,e,z,hnA sb _ _ _ ((hD.old sb hlt).trans h3) (by omega) h2,h4⟩⟩
  ·refine⟨av,0,fun h=>absurd h h0,fun g=>⟨_,_,_,hnm av _ _ _ hD.hav (by decide) (hnewS av hDn.2.2),fun k u hku=>?_⟩⟩
   have:S=[]:=List.length_eq_zero_iff.1 (by omega)
   rw[this]at hku
   simp at hku
 obtain⟨sb,so,hsb,hsrow⟩:=hsch
 have htrI:(pOf L s0 W n db aa av ib ob oa oc ops).I w.heap.size=some (.cells #[.slice none 0 0,.slice none 0 0,.slice none 0 0,.bool false] 31 (0,0)):=
  hnm _ _ _ _ ((hD.old _ (by omega)).trans htr.o) (by decide) fun h=>by have:=hsrlt _ h;omega
 refine o0x (Z:=fun g=>U2 L (pOf L s0 W n db aa av ib ob oa oc ops) g) (x0:=fun g=>x00 s0) (tb:=lb) (so:=so) (sb:=sb) hn64 hM hI.hsl (fun g hg _=>p0D hL hpok hg) (fun g w2 _ h1 h2=>OU.stable hL (hU1 g) h1 fun r hr=>?_) (fun g hg j hj=>⟨rfl,rfl⟩) (fun g r hr=>OU.low (g:=g) hL (hU1 g) hr) (fun g r hr=>⟨K9 (p:=pOf L s0 W n db aa av ib ob oa oc ops) (hU1 g).fix hr,fun h=>hr ((hU1 g).inone r h)⟩) hlb (fun g _=>hrow g) hsb (fun g _=>hsrow g) ?_
 ·have hlt:r<W.heap.size:=hr.elim (OU.low hL (hU1 g)) (K9 (hU1 g).fix)
  rw[h2 r _ (Array.getElem?_eq_getElem hlt),Array.getElem?_eq_getElem hlt]
 ·intro g t u oa' oc' bv hg hrel hU hord hnR hsz
  have hU:OU L (pOf L s0 W n db aa av ib ob oa oc ops) g t.1 u:=hU
  have hT:S7 u w.heap.size (.slice none 0 0) (.slice none 0 0) (.slice none 0 0) (.bool false):=⟨hU.fix _ _ htrI⟩
  refine w7 (F:=F0) (Stop:=fun a u2=>a=G (c.finish (.agg #[vL aa 0 n n,.slice oa' t.2.length oc',.slice none 0 0,.bool (decide (0<L5 ((U2 L (pOf L s0 W n db aa av ib ob oa oc ops) g).liv t.1) n))])) cs∧∃d,u2=(trW u w.heap.size (vL aa 0 n n) (.slice oa' t.2.length oc') (.slice none 0 0) (.bool (decide (0<L5 ((U2 L (pOf L s0 W n db aa av ib ob oa oc ops) g).liv t.1) n)))).at d)
   (E0R hT (fun k h=>by obtain⟨z,hz,_⟩:=h;cases hz) hA (.stop fun d=>⟨rfl,d,rfl⟩)) fun a u2 ⟨ha,d,hu2⟩=>?_
  subst ha
  subst hu2
  have hne:∀r,r≠w.heap.size→((trW u w.heap.size (vL aa 0 n n) (.slice oa' t.2.length oc') (.slice none 0 0) (.bool (decide (0<L5 ((U2 L (pOf L s0 W n db aa av ib ob oa oc ops) g).liv t.1) n)))).at d).heap[r]? =u.heap[r]?:=fun r hr=>by
   show(trW _ _ _ _ _ _).heap[r]? =_
   unfold trW
   rw[I0 _ _ _ hr,I0 _ _ _ hr,I0 _ _ _ hr,I0 _ _ _ hr]
  have hsz2:((trW u w.heap.size (vL aa 0 n n) (.slice oa' t.2.length oc') (.slice none 0 0) (.bool (decide (0<L5 ((U2 L (pOf L s0 W n db aa av ib ob oa oc ops) g).liv t.1) n)))).at d).heap.size=u.heap.size:=by
   show(trW _ _ _ _ _ _).heap.size=_
   unfold trW
   simp
  generalize (trW u w.heap.size (vL aa 0 n n) (.slice oa' t.2.length oc') (.slice none 0 0) (.bool (decide (0<L5 ((U2 L (pOf L s0 W n db aa av ib ob oa oc ops) g).liv t.1) n)))).at d=V at hne hsz2 ⊢
  let I':Nat→Option Obj:=fun r=>if r=w.heap.size then none else(pOf L s0 W n db aa av ib ob oa oc ops).I r
  have hI':∀r o,I' r=some o→r≠w.heap.size∧(pOf L s0 W n db aa av ib ob oa oc ops).I r=some o:=fun r o h=>by
   by_cases e:r=w.heap.size
   ·simp[I',e]at h
   ·exact⟨e,by simpa [I',e]using h⟩
  have htrR:¬OR L (pOf L s0 W n db aa av ib ob oa oc ops) t.1 w.heap.size:=fun h=>by
   have:=hU.inone _ h
   rw[htrI]at this
   cases this
  have hU2:OU L ((pOf L s0 W n db aa av ib ob oa oc ops).re I') g t.1 u:=hU.re fun r o h=>(hI' r o h).2
  refine hk g (pOf L s0 W n db aa av ib ob oa oc ops) ((pOf L s0 W n db aa av ib ob oa oc ops).re I') t V oa' oc' hg rfl rfl (p0D hL hpok hg) hrel rfl rfl rfl (hU2.stable hL (by omega) fun r hr=>hne r ?_) ?_ hnR (by omega) (fun r cc e z hr hnS=>?_) fun r cc e z hr hnS=>?_
  ·rintro rfl
   rcases hr with hr|hr
   ·exact htrR hr
   ·cases e:I' w.heap.size with
    | none=>exact hr e
    | some o=>exact(hI' _ _ e).1 rfl
  ·refine j4 (by omega) (K0 hord fun b hb hbn=>hne b (by omega))
  ·have hlt:=(Q3 hr)
   rw[hne r (by omega)]
   exact hU.fix _ _ (hnA r _ _ _ ((hD.old r (by omega)).trans ((hw0 r hlt).trans hr)) (by omega) hnS)
  ·have hlt:=(Q3 hr)
   have h1:=hnA r _ _ _ ((hD.old r (by omega)).trans ((hw0 r hlt).trans hr)) (by omega) hnS
   show I' r≠none
   simp only[I']
   rw[if_neg (by omega),h1]
   simp
end
noncomputable section
variable {cs:List Frame}{main:Bool}{Stop:Goroutine→World→Prop}
variable{F:Fz}{w:World}
theorem Y9:O1 17:=G2 Try.func17 rfl rfl
theorem o0f(X:World)(x y z u x' y' z' u':Value):((((X.alloc (.cells #[x,y,z,u] 31)).setCell ⟨X.heap.size,0,none⟩ x').setCell ⟨X.heap.size,1,none⟩ y').setCell ⟨X.heap.size,2,none⟩ z').setCell ⟨X.heap.size,3,none⟩ u'=X.alloc (.cells #[x',y',z',u'] 31):=by go_simp
def f6:Code:=Try.f15.body.getD .skip
def D0g:=pC [] f6
def v0S:=pC [zt] f6
def v0U:=pC [zf] f6
def j0z:=pC [zf,zt] f6
def m0w:=pC [zf] v0U
def g0y:=pC [zf,zf,zt] f6
def j0B:=pC [zf] m0w
def j0A:=pC [zf,zf,zf,zt] f6
def q0W:=pC [zf] j0B
def v0T:=pC [zf,zf,zf,zf,zt] f6
theorem n0m(args:Array Value):Frame.enter Try.prog 15 args .normal=(Go.Conc.base 15).at {tmps:=args++Array.replicate (23 - args.size) undef,defers:=[]} [.code D0g]:=enter_at args Try.func15 rfl
theorem e0n:O1 15:=G2 Try.func15 rfl rfl
def k0T(s:Nat→Value):Array Value:= #[s 0,s 1,s 2,s 3,s 4,s 5,s 6,s 7,s 8,s 9,s 10,s 11,s 12,s 13,s 14,s 15,s 16,s 17,s 18,s 19,s 20,s 21,s 22]
theorem D00{A:Array Value}(h:A.size=23):∃s,A=k0T s:=by
 obtain⟨s,hs,_⟩:=Y4 A h
 exact⟨s,hs⟩
theorem D0c{n:Nat}(hU:P2 F n)(hn:n≤w.heap.size){mo:Int}{va ta sa:Option Addr}{vl vc tl tc sl sc:Nat}
 (h:∀A,G0 23 A [(0,.slice va vl vc),(1,.slice ta tl tc),(2,.slice sa sl sc),(3,vI mo),(8,vP w.heap.size 0)]→J0 Try.prog main F Stop (G (Frame.enter Try.prog 17 #[.slice va vl vc] .normal) ((bA 15 A [.inRegion (oC j0z) [1,2],.code m0w])::cs)) (w.alloc (.cells #[.slice none 0 0,.slice none 0 0,.slice none 0 0,.bool false] 31))):
 J0 Try.prog main F Stop (G (Frame.enter Try.prog 15 #[.slice va vl vc,.slice ta tl tc,.slice sa sl sc,vI mo] .normal) cs) w:=by
 rw[n0m]
 walk_nrm
 refine ogW v0S v0U ?_
 simp only[v0S,f6,Try.f15,zz,Nat.reduceAdd]
 refine oA hU ?_
 refine S0<|ogW j0z m0w ?_
 simp only[j0z,f6,Try.f15,zz,Nat.reduceAdd]
 refine oT ?_
 refine oc Y9 #[.slice va vl vc] ?_
 refine h _ ?_
 exact⟨rfl,rfl,rfl,rfl,rfl,rfl,trivial⟩
theorem D0d{kb rb:Nat}{mo:Int}{va ta sa:Option Addr}{vl vc tl tc sl sc:Nat}{A:Array Value}(hA:G0 23 A [(0,.slice va vl vc),(1,.slice ta tl tc),(2,.slice sa sl sc),(3,vI mo),(8,vP rb 0)])
 (h:∀A,G0 23 A [(8,vP rb 0),(9,vP kb 0)]→J0 Try.prog main F Stop (G (Frame.enter Try.prog 47 #[.slice ta tl tc,.func (.func 48) #[vP kb 0] #[],.slice sa sl sc,vI mo] .normal) ((bA 15 A [.inRegion (oC g0y) [5,6,7],.code j0B])::cs)) w):
 J0 Try.prog main F Stop (G ((bA 15 A [.inRegion (oC j0z) [1,2],.code m0w]).finish (vP kb 0)) cs) w:=by
 obtain⟨s,rfl,h0,h1,h2,h3,h8,_⟩:=Y3 k0T hA
 simp only[k0T,h0,h1,h2,h3,h8]
 clear h0 h1 h2 h3 h8
 rw[Frame.finish_at]
 simp only[j0z,f6,Try.f15,zz,Nat.reduceAdd]
 walk_nrm
 refine oT ?_
 refine S0<|ogW g0y j0B ?_
 simp only[g0y,f6,Try.f15,zz,Nat.reduceAdd]
 iterate 5 refine oT ?_
 refine oc j03 #[.slice ta tl tc,.func (.func 48) #[vP kb 0] #[],.slice sa sl sc,vI mo] ?_
 refine h _ ?_
 exact⟨rfl,rfl,rfl,trivial⟩
theorem D0e{n:Nat}(hU:P2 F n)(hn:n≤w.heap.size){kb rb:Nat}{aa oa:Option Addr}{al ac ol oz:Nat}{st:Bool}{A:Array Value}(hA:G0 23 A [(8,vP rb 0),(9,vP kb 0)])
 (h:∀A,G0 23 A [(8,vP rb 0),(10,vP w.heap.size 0)]→J0 Try.prog main F Stop (G (Frame.enter Try.prog 49 #[vP kb 0] .normal) ((bA 15 A [.inRegion (oC j0A) [1,2,3],.code q0W])::cs)) (w.alloc (.cells #[.slice aa al ac,.slice oa ol oz,.slice none 0 0,.bool st] 31))):
 J0 Try.prog main F Stop (G ((bA 15 A [.inRegion (oC g0y) [5,6,7],.code j0B]).finish (.agg #[.slice aa al ac,.slice oa ol oz,.slice none 0 0,.bool st])) cs) w:=by
 obtain⟨s,rfl,h8,h9,_⟩:=Y3 k0T hA
 simp only[k0T,h8,h9]
 clear h8 h9
 rw[Frame.finish_at]
 simp only[g0y,f6,Try.f15,zz,Nat.reduceAdd]
 walk_nrm
 refine oA hU ?_
 (refine oW fun dd K hK=>?_;go_simp;refine hK _ _ ⟨⟨⟨0,e0L (fun k=>Q2 hU (show n≤w.heap.size by omega)) _ _ _ _⟩,fun e he=>by(have hm:=mem_listed he;clear he hK;simp[go_sem,storedEv]at hm;rcases hm with rfl|rfl|rfl|rfl<;>exact U0 _ _ ((fun k=>Q2 hU (show n≤w.heap.size by omega)) _))⟩,?_⟩;clear hK K;simp only[setCell_at'];refine J0.at ?_ dd)
 have e1:=o0f w (.slice none 0 0) (.slice none 0 0) (.slice none 0 0) (.bool false) (.slice aa al ac) (.slice oa ol oz) (.slice none 0 0) (.bool st)
 rw[e1]
 clear e1
 refine S0<|ogW j0A q0W ?_
 simp only[j0A,f6,Try.f15,zz,Nat.reduceAdd]
 refine oT ?_
 refine oc j05 #[vP kb 0] ?_
 refine h _ ?_
 exact⟨rfl,rfl,rfl,trivial⟩
theorem D0f{rb tb:Nat}{aa oa:Option Addr}{al ac ol oz xl xc:Nat}{xa:Option Addr}{st:Bool}{y0 y1 y2 y3:Value}(hne:rb≠tb)(hR:S7 w rb y0 y1 y2 y3)(hT:S7 w tb (.slice aa al ac) (.slice oa ol oz) (.slice none 0 0) (.bool st))(hnr:∀k,¬held F ⟨rb,k,none⟩)(hnt:∀k,¬held F ⟨tb,k,none⟩){A:Array Value}(hA:G0 23 A [(8,vP rb 0),(10,vP tb 0)]){c:Frame}
 (h:J0 Try.prog main F Stop (G (c.finish (.agg #[.slice aa al ac,.slice oa ol oz,.slice xa xl xc,.bool st])) cs) (trW (w.setCell ⟨tb,2,none⟩ (.slice xa xl xc)) rb (.slice aa al ac) (.slice oa ol oz) (.slice xa xl xc) (.bool st))):
 J0 Try.prog main F Stop (G ((bA 15 A [.inRegion (oC j0A) [1,2,3],.code q0W]).finish (.slice xa xl xc)) (c::cs)) w:=by
 obtain⟨s,rfl,h8,h10,_⟩:=Y3 k0T hA
 simp only[k0T,h8,h10]
 clear h8 h10
 rw[Frame.finish_at]
 simp only[j0A,f6,Try.f15,zz,Nat.reduceAdd]
 walk_nrm
 refine oT ?_
 (refine oW fun dd K hK=>?_;have hc2:=(hT.at dd).c2;have hz0:=(hT.at dd).z;go_simp;refine hK _ _ ⟨⟨⟨0,i1 rfl (hnt 2) _⟩,fun e he=>by(have hm:=mem_listed he;clear he hK;simp[go_sem,storedEv,hc2,hz0]at hm;subst hm;exact U0 _ _ (hnt 2))⟩,?_⟩;clear hK K hc2 hz0;rw[setCell_at'];refine J0.at ?_ dd)
 have hT2:S7 (w.setCell ⟨tb,2,none⟩ (.slice xa xl xc)) tb (.slice aa al ac) (.slice oa ol oz) (.slice xa xl xc) (.bool st):=⟨by rw[U1 hT.o];rfl⟩
 have hR2:S7 (w.setCell ⟨tb,2,none⟩ (.slice xa xl xc)) rb y0 y1 y2 y3:=⟨(I0 _ _ _ hne).trans hR.o⟩
 generalize w.setCell ⟨tb,2,none⟩ (.slice xa xl xc)=W at hT2 hR2 h ⊢
 refine S0<|ogW v0T .ret ?_
 simp only[v0T,f6,Try.f15,zz,Nat.reduceAdd]
 (refine oW fun dd K hK=>?_;have hc0:=(hT2.at dd).c0;have hc1:=(hT2.at dd).c1;have hc2:=(hT2.at dd).c2;have hc3:=(hT2.at dd).c3;have hz0:=(hT2.at dd).z;go_simp;refine hK _ _ ⟨⟨⟨0,V3.refl _ _⟩,fun e he=>by(have hm:=mem_listed he;clear he hK;simp[go_sem,hc0,hc1,hc2,hc3,hz0]at hm;rcases hm with rfl|rfl|rfl|rfl<;>exact I1 _ _)⟩,J0.at ?_ dd⟩;clear hK K hc0 hc1 hc2 hc3 hz0)
 (refine oW fun dd K hK=>?_;have hc0:=(hR2.at dd).c0;have hc1:=(hR2.at dd).c1;have hc2:=(hR2.at dd).c2;have hc3:=(hR2.at dd).c3;have hz0:=(hR2.at dd).z;go_simp;refine hK _ _ ⟨⟨⟨0,e0L hnr _ _ _ _⟩,fun e he=>by(have hm:=mem_listed he;clear he hK;simp[go_sem,storedEv,hc0,hc1,hc2,hc3,hz0]at hm;rcases hm with rfl|rfl|rfl|rfl<;>exact U0 _ _ (hnr _))⟩,?_⟩;clear hK K hc0 hc1 hc2 hc3 hz0;simp only[setCell_at'];refine J0.at ?_ dd)
 refine S0<|ogX ?_
 have hT3:=hR2.put (.slice aa al ac) (.slice oa ol oz) (.slice xa xl xc) (.bool st)
 change J0 _ _ _ _ _ (trW W rb (.slice aa al ac) (.slice oa ol oz) (.slice xa xl xc) (.bool st))
 generalize (trW W rb (.slice aa al ac) (.slice oa ol oz) (.slice xa xl xc) (.bool st))=V at hT3 h ⊢
 have hc0:=hT3.c0
 have hc1:=hT3.c1
 have hc2:=hT3.c2
 have hc3:=hT3.c3
 have hz0:=hT3.z
 refine p4 (fn:=Try.f15) (v:=.agg #[.slice aa al ac,.slice oa ol oz,.slice xa xl xc,.bool st]) rfl rfl Try.func15 (fun d=>by simp[results,Try.f15,go_sem,hc0,hc1,hc2,hc3,hz0]) (fun d e he=>by simp[results,Try.f15,go_sem,hc0,hc1,hc2,hc3,hz0]at he;rcases he with rfl|rfl|rfl|rfl<;>exact I1 _ _) ?_
 exact h
end
section
variable{An:G3}{w w':World}
theorem y6.later2{N N':Nat→Prop}{n tb o tl:Nat}{ta:Option Addr}{oa:Nat→Option Addr}{ol oc:Nat→Nat}{ops:Nat→List P3}{S:List Int}{sa:Option Addr}(h:y6 w N n tb o tl ta oa ol oc ops S sa)(hs:w.heap.size≤w'.heap.size)(hold:∀r,r<w.heap.size→w'.heap[r]? =w.heap[r]?)(hN:∀r,N' r→w.heap.size≤r):y6 w' N' n tb o tl ta oa ol oc ops S sa:=by
 have hc:∀{a:Addr} {v:Value},w.cell? a=some v→w'.cell? a=some v∧w'.frozen? a=w.frozen? a:=fun{a v} h=>by
  obtain⟨c,e,z,ho⟩:=M3 h
  have e1:=hold _ (Q3 ho)
  exact⟨by rw[← h];unfold World.cell?;simp only[e1],by unfold World.frozen?;simp only[e1]⟩
 refine⟨h.hn,h.hta,fun hp=>by have:=h.htb hp;omega,fun j hj=>?_,h.hlen,fun j hj k x hx=>?_,h.hsl,fun hp=>?_⟩
 ·obtain⟨h1,h2,h3⟩:=h.hth j hj
  exact⟨(hc h1).1,(hc h1).2.trans h2,h3⟩
 ·obtain⟨opb,oo,h1,h2,f0,f1,f2,f3,g0,g1,g2,g3⟩:=h.hop j hj k x hx
  obtain⟨c,e,z,ho⟩:=M3 f0
  have hlt:=(Q3 ho)
  exact⟨opb,oo,h1,fun hn=>by have:=hN _ hn;simp only at hlt;omega,(hc f0).1,(hc f1).1,(hc f2).1,(hc f3).1,(hc f0).2.trans g0,(hc f1).2.trans g1,(hc f2).2.trans g2,(hc f3).2.trans g3⟩
 ·obtain⟨sb,so,c,e,z,h1,h2,h3,h4⟩:=h.hS hp
  have hlt:=(Q3 h3)
  exact⟨sb,so,c,e,z,h1,fun hn=>by have:=hN _ hn;omega,(hold _ hlt).trans h3,h4⟩
theorem T5{base n size:Nat}{e:TypeId}{v:Value}{xs:List Value}(h:w.ownsRow base e size v n xs)(hs:∀b c,w.heap[b]? =some (.cells c e (0,0))→base≤b→w'.heap[b]? =w.heap[b]?):w'.ownsRow base e size v n xs:=by
 refine⟨h.1,?_⟩
 rcases h.2 with h2|⟨b,cap,cur,rfl,h3,h4,h5⟩
 ·exact .inl h2
 ·exact .inr ⟨b,cap,cur,rfl,h3,(hs b cur h4 h3).trans h4,h5⟩
def r0S(w:World)(r:Nat):Prop:=∀c e z,w.heap[r]?≠some (.cells c e z)
structure j0P(w:World)(n:Nat)(ans:Nat→List SAn)(state:List Int)(order:List Nat)(aa:Nat)(rows:Nat→Value)(av:Nat→List SA)(ov sv:Value)(w':World):Prop where
 size:w.heap.size≤w'.heap.size
 old:∀(r:Nat) (c:Array Value) (e:TypeId) (z:Nat×Nat),w.heap[r]? =some (.cells c e z)→w'.heap[r]? =some (.cells c e z)
 arr:∃c,w'.heap[aa]? =some (.cells c 42 (0,0))∧c.size=n∧∀i,i<n→c[i]? =some (rows i)
 row:∀i,i<n→(av i).map SA.an=ans i∧(av i).length≤65536∧w'.ownsRow 0 44 3 (rows i) (av i).length (((av i).map fun a=>a.v.cells).flatten)∧∀a∈av i,SAU a w'
 nwa:r0S w aa
 nwr:∀i,i<n→∀r,(rows i).ownBlock=some r→r0S w r
 nwl:∀i,i<n→∀a∈av i,∀r,a.row.ownBlock=some r→r0S w r
 dj:∀i j,i<n→j<n→i≠j→∀r,(rows i).ownBlock=some r→(rows j).ownBlock≠some r
 ord:w'.ownsRow w.heap.size 3 1 ov order.length (order.map fun i:Nat=>Value.int .i64 i)
 st:w'.ownsRow w.heap.size 2 1 sv state.length (state.map fun v=>vI v)
def n03(lb:Nat):Abs (I3 lb) SPl:=⟨SS.k,SeC.c,SA.an⟩
theorem t0L(lb:Nat):(n03 lb).Ok where
 beg:=fun s i o y h=>by
  obtain⟨y1,y2⟩:=y
  have h2:=h.2.2
  cases y2<;>exact h2
 stp:=fun s c y h=>by
  obtain⟨y1,y2⟩:=y
  have h2:=h.2.2
  cases y2<;>exact h2
def ss0(vs:List Int):GS SPl:=⟨I4 vs,fun _=>⟨0,none,[]⟩⟩
theorem f0X{va:Option Addr}{vc:Nat}{vs:List Int}(hv:o5 w va vs)(hvl:vs.length<9223372036854775808)
 {n tb o tl tc sc M:Nat} {mo:Int} {ta sa:Option Addr} {oa:Nat→Option Addr} {ol oc:Nat→Nat} {ops:Nat→List P3} {S:List Int} (hI:y6 w (fun _=>False) n tb o tl ta oa ol oc ops S sa) (hM:min (max mo 0) 1048576=(M:Int)) {c:Frame} {cs:List Frame} {Stop:Goroutine→World→Prop}
 (hP:∀(s:GS SPl) order,g7 n M (s,order)→(∃k,∀f,k≤f→a0K ops n M S f (ss0 vs)=(s,order))→
   ∀aa rows av oa' oc' xa xc w',j0P w n (fun i=>(s.th i).ans) (R1.state s.q) order aa rows av (.slice oa' order.length oc') (.slice xa (R1.state s.q).length xc) w'→
    Bes An Try.prog Stop (G (c.finish (.agg #[vL aa 0 n n,.slice oa' order.length oc',.slice xa (R1.state s.q).length xc,.bool (decide (0<L5 s.live n))])) cs) w'):
 Bes An Try.prog Stop (G (Frame.enter Try.prog 15 #[.slice va vs.length vc,.slice ta tl tc,.slice sa S.length sc,vI mo] .normal) (c::cs)) w:=by
 have hF:∀a:Addr,¬held F0 a:=o7
 have hrow0:∀r,r<w.heap.size→(w.alloc (.cells #[.slice none 0 0,.slice none 0 0,.slice none 0 0,.bool false] 31)).heap[r]? =w.heap[r]?:=fun r hr=>D0 _ _ hr
 have hs0:(w.alloc (.cells #[.slice none 0 0,.slice none 0 0,.slice none 0 0,.bool false] 31)).heap.size=w.heap.size+1:=by simp
 have htr:S7 (w.alloc (.cells #[.slice none 0 0,.slice none 0 0,.slice none 0 0,.bool false] 31)) w.heap.size (.slice none 0 0) (.slice none 0 0) (.slice none 0 0) (.bool false):=⟨heap_alloc_new _ _⟩
 refine w7 (F:=F0) (Stop:=fun a u=>∃A,a=G (Frame.enter Try.prog 47 #[.slice ta tl tc,.func (.func 48) #[vP (w.heap.size+2) 0] #[],.slice sa S.length sc,vI mo] .normal) ((bA 15 A [.inRegion (oC g0y) [5,6,7],.code j0B])::c::cs)∧
  G0 23 A [(8,vP w.heap.size 0),(9,vP (w.heap.size+2) 0)]∧SU (w.heap.size+2) ⟨I4 vs,w.heap.size+1,0⟩ u∧w.heap.size+3≤u.heap.size∧(∀r,r<w.heap.size+1→u.heap[r]? =(w.alloc (.cells #[.slice none 0 0,.slice none 0 0,.slice none 0 0,.bool false] 31)).heap[r]?))
  (D0c J1 (Nat.zero_le _) fun A hA=>c0C (hv.same hrow0) hvl fun w1 k1 k2 k3=>by
    rw[hs0]at k1 k2 k3 ⊢
    exact D0d hA fun A2 hA2=>.stop fun d=>⟨A2,rfl,hA2,k1.same fun _ _=>rfl,k2,k3⟩) fun a W hS=>?_
 obtain⟨A,rfl,hA,hQ,hWs,hWo⟩:=hS
 have hold1:∀r,r<w.heap.size→W.heap[r]? =w.heap[r]?:=fun r hr=>(hWo r (by omega)).trans (hrow0 r hr)
 have hrb1:W.heap[w.heap.size]? =some (.cells #[.slice none 0 0,.slice none 0 0,.slice none 0 0,.bool false] 31 (0,0)):=(hWo _ (by omega)).trans htr.o
 have hNr:∀r,(I3 (w.heap.size+2)).SR ⟨I4 vs,w.heap.size+1,0⟩ r→w.heap.size+1≤r:=fun r hr=>by
  rcases hr with rfl|rfl<;>simp
 have hI1:y6 W ((I3 (w.heap.size+2)).SR ⟨I4 vs,w.heap.size+1,0⟩) n tb o tl ta oa ol oc ops S sa:=hI.later2 (by omega) hold1 fun r hr=>by have:=hNr r hr;omega
 refine o0w (L:=I3 (w.heap.size+2)) (t00 _) (s0:=⟨I4 vs,w.heap.size+1,0⟩) hQ hI1 hM ?_
 intro g p p' t u oa' oc' hg hpn hpo hOk hrel hpn' hpo' hpa hU hord hnR hsz hkeep hpI
 obtain⟨hd,hover⟩:=n0N (ab:=n03 _) (t0L _) hOk (fun j hj=>⟨rfl,rfl⟩) hrel
 rw[hpo]at hover
 have hK:=hP _ _ hd hover
 have hQU:SU (w.heap.size+2) t.1.s u:=hU.su
 have hrb2:u.heap[w.heap.size]? =some (.cells #[.slice none 0 0,.slice none 0 0,.slice none 0 0,.bool false] 31 (0,0)):=hkeep _ _ _ _ hrb1 fun h=>by have:=hNr _ h;omega
 have hcnt:L5 ((U2 (I3 (w.heap.size+2)) p g).liv t.1) n=L5 ((n03 _).x t.1).live n:=b0e fun j _=>e0S t.1 j
 rw[hcnt]
 have hnew:∀r,OR (I3 (w.heap.size+2)) p' t.1 r→r0S w r:=fun r hr c0 e0 z0 h=>by
  have hlt:=(Q3 h)
  exact hpI r c0 e0 z0 ((hold1 r hlt).trans h) (fun h2=>by have:=hNr r h2;omega) (hU.inone r hr)
 obtain⟨ca,hca,hcs,hci⟩:=hU.arr
 have hlt:=(Q3 hca)
 have hlr:=(Q3 hrb2)
 obtain⟨q,hq⟩:∃q:R1,q=((n03 (w.heap.size+2)).x t.1).q:=⟨_,rfl⟩
 obtain⟨sb,hsb⟩:∃b:Bool,b=decide (0<L5 ((n03 (w.heap.size+2)).x t.1).live n):=⟨_,rfl⟩
 rw[← hsb]at hK ⊢
 rw[← hq]at hK
 have hqs:t.1.s.k=q:=hq.symm
 have htb:=heap_alloc_new u (.cells #[vL p.aa 0 n n,.slice oa' t.2.length oc',.slice none 0 0,.bool sb] 31)
 have htl:∀r,r<u.heap.size→(u.alloc (.cells #[vL p.aa 0 n n,.slice oa' t.2.length oc',.slice none 0 0,.bool sb] 31)).heap[r]? =u.heap[r]?:=fun r hr=>D0 _ _ hr
 have hts:(u.alloc (.cells #[vL p.aa 0 n n,.slice oa' t.2.length oc',.slice none 0 0,.bool sb] 31)).heap.size=u.heap.size+1:=by simp
 refine w7 (F:=F0) (Stop:=fun a u2=>∃xa xc,a=G (c.finish (.agg #[vL p.aa 0 n n,.slice oa' t.2.length oc',.slice xa (R1.state q).length xc,.bool sb])) cs∧
  j0P w n (fun i=>(((n03 (w.heap.size+2)).x t.1).th i).ans) (R1.state q) t.2 p.aa (fun i=>(t.1.th i).row) (fun i=>(t.1.th i).ans) (.slice oa' t.2.length oc') (.slice xa (R1.state q).length xc) u2)
  (D0e J1 (Nat.zero_le _) hA fun A2 hA2=>?_) fun a u2 ⟨xa,xc,ha,hu2⟩=>?_
 ·generalize u.alloc (.cells #[vL p.aa 0 n n,.slice oa' t.2.length oc',.slice none 0 0,.bool sb] 31)=U at htb htl hts ⊢
  refine k0y (hQU.same fun r hr=>htl r (hQU.low hr)) fun w2 l' hV=>?_
  rw[hqs]at hV
  have k1:=hV.row
  obtain⟨xa,xc,rfl⟩:∃xa xc,l'= .slice xa (R1.state q).length xc:=by
   rcases k1.2 with⟨rfl,h⟩|⟨b,cap,cur,rfl,_⟩
   ·simp[R1.state]at h
   ·exact⟨_,_,rfl⟩
  have hR:S7 w2 w.heap.size (.slice none 0 0) (.slice none 0 0) (.slice none 0 0) (.bool false):=⟨(hV.old _ (by omega)).trans ((htl _ hlr).trans hrb2)⟩
  have hT:S7 w2 u.heap.size (vL p.aa 0 n n) (.slice oa' t.2.length oc') (.slice none 0 0) (.bool sb):=⟨(hV.old _ (by omega)).trans htb⟩
  refine D0f (show w.heap.size≠u.heap.size by omega) hR hT (fun k=>hF _) (fun k=>hF _) hA2 (.stop fun d=>⟨xa,xc,rfl,?_⟩)
  have hV2:=hV.size
  have hlw:∀r,r<u.heap.size→w2.heap[r]? =u.heap[r]?:=fun r hr=>(hV.old _ (by omega)).trans (htl _ hr)
  have hne2:∀r,r≠w.heap.size→r≠u.heap.size→((trW (w2.setCell ⟨u.heap.size,2,none⟩ (.slice xa (R1.state q).length xc)) w.heap.size (vL p.aa 0 n n) (.slice oa' t.2.length oc') (.slice xa (R1.state q).length xc) (.bool sb)).at d).heap[r]? =w2.heap[r]?:=fun r hr hr2=>by
   show(trW _ _ _ _ _ _).heap[r]? =_
   unfold trW
   rw[I0 _ _ _ hr,I0 _ _ _ hr,I0 _ _ _ hr,I0 _ _ _ hr,I0 _ _ _ hr2]
  have hsz3:((trW (w2.setCell ⟨u.heap.size,2,none⟩ (.slice xa (R1.state q).length xc)) w.heap.size (vL p.aa 0 n n) (.slice oa' t.2.length oc') (.slice xa (R1.state q).length xc) (.bool sb)).at d).heap.size=w2.heap.size:=by
   show(trW _ _ _ _ _ _).heap.size=_
   unfold trW;simp
  generalize (trW (w2.setCell ⟨u.heap.size,2,none⟩ (.slice xa (R1.state q).length xc)) w.heap.size (vL p.aa 0 n n) (.slice oa' t.2.length oc') (.slice xa (R1.state q).length xc) (.bool sb)).at d=V at hne2 hsz3 ⊢
  have hty:∀(b:Nat) (c:Array Value) (e:TypeId) (z:Nat×Nat),u.heap[b]? =some (.cells c e z)→e≠31→V.heap[b]? =u.heap[b]?:=fun b cc e z hb he=>by
   have hbl:=(Q3 hb)
   rw[hne2 b (fun h=>by rw[h,hrb2]at hb;cases hb;exact he rfl) (by omega),hlw b hbl]
  have hth:∀i,i<n→f0C (I3 (w.heap.size+2)) p' (g.st i) i (t.1.th i) u:=fun i hi=>hU.thr i (by rw[hpn'];exact hi)
  refine⟨by omega,fun r cc e z hr=>?_,⟨ca,?_,?_,fun i hi=>?_⟩,fun i hi=>⟨rfl,?_,?_,fun a ha=>?_⟩,?_,fun i hi r hr=>?_,fun i hi a ha r hr=>?_,fun i j hi hj hne r h1 h2=>?_,?_,?_⟩
  ·have hlt:=(Q3 hr)
   rw[hne2 r (by omega) (by omega),hlw r (by omega)]
   exact hkeep _ _ _ _ ((hold1 r hlt).trans hr) fun h=>by have:=hNr _ h;omega
  ·rw[hty _ _ _ _ (hpa ▸ hca) (by decide)]
   exact hpa ▸ hca
  ·rw[hcs,hpn']
  ·exact hci i (by rw[hpn'];exact hi)
  ·have ht:=hth i hi
   have h1:=ht.al
   have h2:=ht.kl
   rw[hpo',hI.hlen i hi]at h2
   exact Nat.le_trans (Nat.le_of_eq h1) (Nat.le_trans h2 (by omega))
  ·have hr:u.ownsRow 0 44 3 (t.1.th i).row (t.1.th i).ans.length (((t.1.th i).ans.map fun a=>a.v.cells).flatten):=(hth i hi).row
   exact T5 hr fun b cc hb _=>hty b cc _ _ hb (by decide)
  ·have h1:SAU a u:=(hth i hi).au a ha
   exact T5 h1 fun b cc hb _=>hty b cc _ _ hb (by decide)
  ·exact hnew _ (.inr (.inl hpa.symm))
  ·exact hnew _ (.inr (.inr ⟨i,by rw[hpn'];exact hi,.inl hr⟩))
  ·exact hnew _ (.inr (.inr ⟨i,by rw[hpn'];exact hi,.inr (.inl ⟨a,ha,hr⟩)⟩))
  ·exact hU.tt i j (by rw[hpn'];exact hi) (by rw[hpn'];exact hj) hne r (.inl h1) (.inl h2)
  ·exact j4 (by omega) (T5 hord fun b cc hb _=>hty b cc _ _ hb (by decide))
  ·have e2:V.ownsRow 0 2 1 (.slice xa (R1.state q).length xc) (R1.state q).length ((R1.state q).map fun v=>vI v):=by
    refine K0 k1 fun b hb _=>?_
    have:=hV.new b hb
    exact hne2 b (by omega) (by omega)
   refine⟨e2.1,?_⟩
   rcases e2.2 with h|⟨b,cap,cur,h1,h2,h3⟩
   ·exact .inl h
   ·refine .inr ⟨b,cap,cur,h1,?_,h3⟩
    have:=hV.new b (by rw[h1];rfl)
    omega
 ·subst ha
  exact hK _ _ _ _ _ _ _ _ hu2
end
section
variable{w w':World}
theorem f0F{m:Pl}{ops:Nat→List P3}{n M:Nat}:∀(f:Nat) (s:GS m×List Nat),g7 n M (Z3 ops n M f s)→∀e,f≤e→Z3 ops n M e s=Z3 ops n M f s:=by
 intro f
 induction f with
 | zero=>
   intro s h e _
   exact y7 h e
 | succ f ih=>
   intro s h e he
   by_cases hd:g7 n M s
   ·rw[y7 hd,y7 hd]
   ·obtain⟨e,rfl⟩:∃k,e=k+1:=⟨e - 1,by omega⟩
    simp only[Z3,if_neg hd]at h ⊢
    exact ih _ h e (by omega)
structure a0F(e:TypeId)(w wr:World)(ov:Value)(xs:List Int):Prop where
 row:wr.ownsRow 0 e 1 ov xs.length (xs.map fun v=>vI v)
 size:w.heap.size≤wr.heap.size
 old:∀r,r<w.heap.size→wr.heap[r]? =w.heap[r]?
 new:∀g,ov.ownBlock=some g→w.heap.size≤g
theorem a0F.nil(e:TypeId)(w:World):a0F e w w (.slice none 0 0) []:=⟨⟨rfl,.inl ⟨rfl,rfl⟩⟩,Nat.le_refl _,fun _ _=>rfl,fun g h=>by cases h⟩
theorem a0F.more{e:TypeId}{w u w1:World}{ov:Value}{xs ys:List Int}(h:a0F e w u ov xs){v':Value}(hown:w1.ownsRow 0 e 1 v' (xs.length+ys.length) ((xs.map fun v=>vI v)++ys.map fun v=>vI v))(hg:u.grownBy w1 ov.ownBlock)(hf:v'.ownBlock=ov.ownBlock∨∃g,v'.ownBlock=some g∧u.heap.size≤g):a0F e w w1 v' (xs++ys):=by
 refine⟨by simpa using hown,by have:=h.size;have:=hg.size;omega,fun r hr=>?_,fun g hgv=>?_⟩
 ·have hsz:=h.size
  refine(hg.block r (by omega) fun e=>?_).trans (h.old r hr)
  have:=h.new r e.symm
  omega
 ·rcases hf with e|⟨g',e,h2⟩
  ·exact h.new g (e ▸ hgv)
  ·rw[e]at hgv
   cases hgv
   have:=h.size
   omega
theorem a0F.alloc{e:TypeId}{w u:World}{ov:Value}{xs:List Int}(h:a0F e w u ov xs)(o:Obj):a0F e w (u.alloc o) ov xs:=
 ⟨h.row.alloc o,by have:=h.size;simp;omega,fun r hr=>(D0 _ _ (Nat.lt_of_lt_of_le hr h.size)).trans (h.old r hr),h.new⟩
end
section
variable{w w':World}
theorem h0S{aa ab:Option Addr}{ca cb:Nat}{xs:List Int}(hl:xs.length<100000000)(hA:B5 w aa (xs.map fun v=>vI v))(hB:B5 w ab (xs.map fun v=>vI v)):
 Y6 Try.prog Try.f22 #[.slice aa xs.length ca,.slice ab xs.length cb] w fun x w'=>x= .bool true∧w'.heap=w.heap:=by
 have E:Aside (B5 w aa (xs.map fun v=>vI v)∧B5 w ab (xs.map fun v=>vI v)):=⟨hA,hB⟩
 clear hA hB
 refine I8 rfl ?_
 simp only[Try.ntmps22,List.size_toArray,List.length_cons,List.length_nil,Nat.reduceAdd,Nat.reduceSub,Array.replicate_succ,Array.replicate_zero,List.push_toArray,List.append_toArray,List.nil_append,List.cons_append]
 go_wp2
 go_loopg [5] xs.length (fun g i wr=>∃k:Nat,k≤xs.length∧i=vI k∧g=xs.length - k∧wr.heap=w.heap)
 case atStart=>exact⟨0,Nat.zero_le _,rfl,rfl,rfl⟩
 case round=>
  obtain⟨k,hk,rfl,rfl,hw⟩:=hrel
  rcases Nat.lt_or_ge k xs.length with hlt|hge
  ·obtain⟨b1,o1,rfl,h1⟩:=(E.out.1.heap hw).c k (vI xs[k]) (by simp[hlt])
   obtain⟨b2,o2,rfl,h2⟩:=(E.out.2.heap hw).c k (vI xs[k]) (by simp[hlt])
   have hwr:IntKind.i64.wrap ((k:Int)+1)=(k:Int)+1:=IntWalk.i64_in _ (by omega)
   go_wp2
   go_quiet (fail)
   go_wp2
   go_roundg (xs.length - (k+1))
   case measure=>omega
   case rel=>exact⟨k+1,hlt,rfl,rfl,hw⟩
  ·have:k=xs.length:=by omega
   subst this
   go_wp2
   go_ret
   exact⟨_,rfl,rfl,hw⟩
theorem y05{aa ab:Option Addr}{ca cb:Nat}{xs:List Int}(hl:xs.length<100000000)(hA:B5 w aa (xs.map fun v=>vI v))(hB:B5 w ab (xs.map fun v=>vI v)):
 Calls Try.prog 22 #[.slice aa xs.length ca,.slice ab xs.length cb] w fun x w'=>x= .returned (.bool true)∧w'.heap=w.heap:=
 ((h0S hl hA hB).calls Try.func22 rfl).mono (by rintro e u ⟨v,rfl,rfl,h⟩;exact⟨rfl,h⟩)
theorem e0B:Z5 Try.prog (fun f=>[22].contains f) true:=a0b (x:=[]) (fun f h=>by cases h) (by kernel_rfl)
theorem callable22:O1 22:=G2 Try.func22 rfl rfl
theorem k0w{aa ab:Option Addr}{ca cb:Nat}{xs:List Int}(hl:xs.length<100000000)(hA:B5 w aa (xs.map fun v=>vI v))(hB:B5 w ab (xs.map fun v=>vI v)){c:Frame}{cs:List Frame}{main:Bool}{Stop:Goroutine→World→Prop}
 (K:∀w1,w1.heap=w.heap→J0 Try.prog main F0 Stop (G (c.finish (.bool true)) cs) w1):
 J0 Try.prog main F0 Stop (G (Frame.enter Try.prog 22 #[.slice aa xs.length ca,.slice ab xs.length cb] .normal) (c::cs)) w:=by
 refine N7 e0B F6 Try.func22 rfl (by kernel_rfl) (R:=fun x w'=>x= .bool true∧w'.heap=w.heap) (fun τ e=>h0S (w:=retape w τ e) hl (hA.heap rfl) (hB.heap rfl)) fun v w' τ e hR hg=>?_
 obtain⟨rfl,h⟩:=hR
 exact K w' h
end
noncomputable section
variable {cs:List Frame}{main:Bool}{Stop:Goroutine→World→Prop}
variable{F:Fz}{w:World}
theorem i0i(X:World)(x y z u x' y' z' u':Value):((((X.alloc (.cells #[x,y,z,u] 31)).setCell ⟨X.heap.size,0,none⟩ x').setCell ⟨X.heap.size,1,none⟩ y').setCell ⟨X.heap.size,2,none⟩ z').setCell ⟨X.heap.size,3,none⟩ u'=X.alloc (.cells #[x',y',z',u'] 31):=by go_simp
theorem C0N(k a b c:Int):Try.prog.built 47 [(0,vI k),(1,vI a),(2,vI b),(3,vI c)]=some #[vI k,vI a,vI b,vI c]:=by kernel_rfl
theorem C0M(k a:Int):Try.prog.built 47 [(0,vI k),(1,vI a)]=some #[vI k,vI a,vI 0,vI 0]:=by kernel_rfl
theorem C0L(k:Int):Try.prog.built 47 [(0,vI k)]=some #[vI k,vI 0,vI 0,vI 0]:=by kernel_rfl
@[go_sem] theorem C0G(k a b c:Int)(w:World):(Instr.build 47 #[(0,vI k),(1,vI a),(2,vI b),(3,vI c)]).run Try.prog w= .ok (.agg #[vI k,vI a,vI b,vI c]) w:=run_build w _ _ _ (C0N k a b c)
@[go_sem] theorem D0R(k a b c:Int)(w:World)(es:Array Event):(Instr.build 47 #[(0,vI k),(1,vI a),(2,vI b),(3,vI c)]).events Try.prog w es=es:=l6 w es _ _ _ _ Try.underlying47 (C0N k a b c)
@[go_sem] theorem C0F(k a:Int)(w:World):(Instr.build 47 #[(0,vI k),(1,vI a)]).run Try.prog w= .ok (.agg #[vI k,vI a,vI 0,vI 0]) w:=run_build w _ _ _ (C0M k a)
@[go_sem] theorem D0Q(k a:Int)(w:World)(es:Array Event):(Instr.build 47 #[(0,vI k),(1,vI a)]).events Try.prog w es=es:=l6 w es _ _ _ _ Try.underlying47 (C0M k a)
@[go_sem] theorem C0E(k:Int)(w:World):(Instr.build 47 #[(0,vI k)]).run Try.prog w= .ok (.agg #[vI k,vI 0,vI 0,vI 0]) w:=run_build w _ _ _ (C0L k)
@[go_sem] theorem D0P(k:Int)(w:World)(es:Array Event):(Instr.build 47 #[(0,vI k)]).events Try.prog w es=es:=l6 w es _ _ _ _ Try.underlying47 (C0L k)
def N3:Code:=Try.f13.body.getD .skip
def C03:=pC [] N3
def v0B:=pC [zt] N3
def v0D:=pC [zf] N3
def v0C:=pC [zf,zt] N3
def v0E:=pC [zf] v0D
def g0t:=pC [zf,zf,zt] N3
def j0s:=pC [zf] v0E
def g0u:=pC [zf,zf,zf,zt] N3
def g0v:=pC [zf] j0s
def q0S:=pC [zt] g0v
def sfxr4:=pC [zf,zf,zf,zf,zt,zt] N3
def f0i:=pC [zf] q0S
def F0n:=pC [zt] f0i
def j0t:=pC [zf] g0v
def j0q:=pC [zf,zf,zf,zf,zf,zt] N3
def j0u:=pC [zf] j0t
def v0F:=pC [zt] j0u
def d0K:=pC [zf,zf,zf,zf,zf,zf,zt,zt] N3
def b0p:=pC [zf] v0F
def F0b:=pC [zt] b0p
def c06:=pC [zf] j0u
def j0r:=pC [zf,zf,zf,zf,zf,zf,zf,zt] N3
def k0S:=pC [zf] c06
def a00:=pC [zf,zf,zf,zf,zf,zf,zf,zf,zt] N3
theorem n0h(args:Array Value):Frame.enter Try.prog 13 args .normal=(Go.Conc.base 13).at {tmps:=args++Array.replicate (124 - args.size) undef,defers:=[]} [.code C03]:=enter_at args Try.func13 rfl
theorem j01:O1 13:=G2 Try.func13 rfl rfl
def U9(s:Nat→Value):Array Value:= #[s 0,s 1,s 2,s 3,s 4,s 5,s 6,s 7,s 8,s 9,s 10,s 11,s 12,s 13,s 14,s 15,s 16,s 17,s 18,s 19,s 20,s 21,s 22,s 23,s 24,s 25,s 26,s 27,s 28,s 29,s 30,s 31,s 32,s 33,s 34,s 35,s 36,s 37,s 38,s 39,s 40,s 41,s 42,s 43,s 44,s 45,s 46,s 47,s 48,s 49,s 50,s 51,s 52,s 53,s 54,s 55,s 56,s 57,s 58,s 59,s 60,s 61,s 62,s 63,s 64,s 65,s 66,s 67,s 68,s 69,s 70,s 71,s 72,s 73,s 74,s 75,s 76,s 77,s 78,s 79,s 80,s 81,s 82,s 83,s 84,s 85,s 86,s 87,s 88,s 89,s 90,s 91,s 92,s 93,s 94,s 95,s 96,s 97,s 98,s 99,s 100,s 101,s 102,s 103,s 104,s 105,s 106,s 107,s 108,s 109,s 110,s 111,s 112,s 113,s 114,s 115,s 116,s 117,s 118,s 119,s 120,s 121,s 122,s 123]
theorem t0Y{A:Array Value}(h:A.size=124):∃s,A=U9 s:=by
 obtain⟨s,hs,_⟩:=Y4 A h
 exact⟨s,hs⟩
def g02(w:World):World:=(((((w.alloc (.cells #[vI 1,vI 1,vI 10,vI 1] 47)).alloc (.cells #[vI 1,vI 2] 2)).alloc (.cells #[vI 3,vI 1,vI 0,vI 0] 47)).alloc (.cells #[vL w.heap.size 0 1 1,vL (w.heap.size+2) 0 1 1] 34)).alloc (.cells #[vI 1,vI 1,vI 0,vI 0,vI 0,vI 0,vI 0,vI 1,vI 1] 3))
theorem E0z{n:Nat}(hU:P2 F n)(hn:n≤w.heap.size)
 (h:∀A,G0 124 A [(1,vL w.heap.size 0 1 1)]→J0 Try.prog main F Stop (G (Frame.enter Try.prog 15 #[vL (w.heap.size+1) 0 2 2,vL (w.heap.size+3) 0 2 2,vL (w.heap.size+4) 0 9 9,vI 99] .normal) ((bA 13 A [.inRegion (oC g0t) [6,7,8],.code j0s])::cs)) (g02 w)):
 J0 Try.prog main F Stop (G (Frame.enter Try.prog 13 #[] .normal) cs) w:=by
 rw[n0h]
 walk_nrm
 refine ogW v0B v0D ?_
 simp only[v0B,N3,Try.f13,zz,Nat.reduceAdd]
 refine oT ?_
 refine S0<|ogW v0C v0E ?_
 simp only[v0C,N3,Try.f13,zz,Nat.reduceAdd]
 refine oT ?_
 refine oA hU ?_
 refine oT ?_
 refine S0<|ogW g0t j0s ?_
 simp only[g0t,N3,Try.f13,zz,Nat.reduceAdd]
 refine oA hU ?_
 iterate 2 refine oT ?_
 iterate 3 refine oA hU ?_
 refine oc e0n #[vL (w.heap.size+1) 0 2 2,vL (w.heap.size+3) 0 2 2,vL (w.heap.size+4) 0 9 9,vI 99] ?_
 refine h _ ?_
 exact⟨rfl,rfl,trivial⟩
def i0L(w:World)(b0:Nat)(aa oa xa:Option Addr)(al ac ol oz xl xc:Nat)(st:Bool):World:=(((((w.alloc (.cells #[.slice aa al ac,.slice oa ol oz,.slice xa xl xc,.bool st] 31)).alloc (.cells #[vI 1,vI 2] 2)).alloc (.cells #[vI 4,vI 0,vI 0,vI 0] 47)).alloc (.cells #[vL b0 0 1 1,vL (w.heap.size+2) 0 1 1] 34)).alloc (.cells #[vI 1,vI 0,vI 0,vI 0,vI 0,vI 0,vI 1] 3))
theorem E0A{n:Nat}(hU:P2 F n)(hn:n≤w.heap.size){aa oa xa:Option Addr}{al ac ol oz xl xc:Nat}{st:Bool}{b0:Nat}{A:Array Value}(hA:G0 124 A [(1,vL b0 0 1 1)])
 (h:∀A,G0 124 A [(1,vL b0 0 1 1),(2,vP w.heap.size 0)]→J0 Try.prog main F Stop (G (Frame.enter Try.prog 15 #[vL (w.heap.size+1) 0 2 2,vL (w.heap.size+3) 0 2 2,vL (w.heap.size+4) 0 7 7,vI 99] .normal) ((bA 13 A [.inRegion (oC g0u) [6,7,8],.code g0v])::cs)) (i0L w b0 aa oa xa al ac ol oz xl xc st)):
 J0 Try.prog main F Stop (G ((bA 13 A [.inRegion (oC g0t) [6,7,8],.code j0s]).finish (.agg #[.slice aa al ac,.slice oa ol oz,.slice xa xl xc,.bool st])) cs) w:=by
 obtain⟨s,rfl,h1,_⟩:=Y3 U9 hA
 simp only[U9,h1]
 clear h1
 rw[Frame.finish_at]
 simp only[g0t,N3,Try.f13,zz,Nat.reduceAdd]
 walk_nrm
 refine oA hU ?_
 (refine oW fun dd K hK=>?_;go_simp;refine hK _ _ ⟨⟨⟨0,e0L (fun k=>Q2 hU (show n≤w.heap.size by omega)) _ _ _ _⟩,fun e he=>by(have hm:=mem_listed he;clear he hK;simp[go_sem,storedEv]at hm;rcases hm with rfl|rfl|rfl|rfl<;>exact U0 _ _ ((fun k=>Q2 hU (show n≤w.heap.size by omega)) _))⟩,?_⟩;clear hK K;simp only[setCell_at'];refine J0.at ?_ dd)
 have e1:=i0i w (.slice none 0 0) (.slice none 0 0) (.slice none 0 0) (.bool false) (.slice aa al ac) (.slice oa ol oz) (.slice xa xl xc) (.bool st)
 rw[e1]
 clear e1
 refine S0<|ogW g0u g0v ?_
 simp only[g0u,N3,Try.f13,zz,Nat.reduceAdd]
 refine oA hU ?_
 iterate 2 refine oT ?_
 iterate 3 refine oA hU ?_
 refine oc e0n #[vL (w.heap.size+1) 0 2 2,vL (w.heap.size+3) 0 2 2,vL (w.heap.size+4) 0 7 7,vI 99] ?_
 refine h _ ?_
 exact⟨rfl,rfl,rfl,trivial⟩
theorem E0B{n:Nat}(hU:P2 F n)(hn:n≤w.heap.size){aa oa xa:Option Addr}{al ac ol oz xl xc:Nat}{st:Bool}{b0 t1:Nat}{A:Array Value}(hA:G0 124 A [(1,vL b0 0 1 1),(2,vP t1 0)])
 (h:∀A,G0 124 A [(2,vP t1 0),(3,vP w.heap.size 0)]→J0 Try.prog main F Stop (G (bA 13 A [.code sfxr4,.code f0i,.code j0t]) cs) (w.alloc (.cells #[.slice aa al ac,.slice oa ol oz,.slice xa xl xc,.bool st] 31))):
 J0 Try.prog main F Stop (G ((bA 13 A [.inRegion (oC g0u) [6,7,8],.code g0v]).finish (.agg #[.slice aa al ac,.slice oa ol oz,.slice xa xl xc,.bool st])) cs) w:=by
 obtain⟨s,rfl,h1,h2,_⟩:=Y3 U9 hA
 simp only[U9,h1,h2]
 clear h1 h2
 rw[Frame.finish_at]
 simp only[g0u,N3,Try.f13,zz,Nat.reduceAdd]
 walk_nrm
 refine oA hU ?_
 (refine oW fun dd K hK=>?_;go_simp;refine hK _ _ ⟨⟨⟨0,e0L (fun k=>Q2 hU (show n≤w.heap.size by omega)) _ _ _ _⟩,fun e he=>by(have hm:=mem_listed he;clear he hK;simp[go_sem,storedEv]at hm;rcases hm with rfl|rfl|rfl|rfl<;>exact U0 _ _ ((fun k=>Q2 hU (show n≤w.heap.size by omega)) _))⟩,?_⟩;clear hK K;simp only[setCell_at'];refine J0.at ?_ dd)
 have e1:=i0i w (.slice none 0 0) (.slice none 0 0) (.slice none 0 0) (.bool false) (.slice aa al ac) (.slice oa ol oz) (.slice xa xl xc) (.bool st)
 rw[e1]
 clear e1
 refine S0<|ogV q0S j0t<|ogV sfxr4 f0i ?_
 refine h _ ?_
 exact⟨rfl,rfl,rfl,trivial⟩
theorem E0C{n:Nat}(hU:P2 F n)(hn:n≤w.heap.size){A:Array Value}(hA:G0 124 A [(89,.bool false)])
 (h:∀A,A.size=124→J0 Try.prog main F Stop (G (Frame.enter Try.prog 17 #[vL w.heap.size 0 2 2] .normal) ((bA 13 A [.inRegion (oC j0q) [1,2],.code j0u])::cs)) (w.alloc (.cells #[vI 1,vI 2] 2))):
 J0 Try.prog main F Stop (G (bA 13 A [.code f0i,.code j0t]) cs) w:=by
 obtain⟨s,rfl,h89,_⟩:=Y3 U9 hA
 simp only[U9,h89]
 clear h89
 refine ogGn .skip<|ogK<|ogW j0q j0u ?_
 simp only[j0q,N3,Try.f13,zz,Nat.reduceAdd]
 refine oA hU ?_
 refine oc Y9 #[vL w.heap.size 0 2 2] ?_
 exact h _ rfl
theorem E0D{n:Nat}(hU:P2 F n)(hn:n≤w.heap.size){lb:Nat}{A:Array Value}(hsz:A.size=124)
 (h:∀A,G0 124 A [(4,vP lb 0),(94,.bool false)]→J0 Try.prog main F Stop (G (Frame.enter Try.prog 24 #[vP lb 0,.nilIface,vI 1,vL w.heap.size 0 2 2] .normal) ((bA 13 A [.inRegion (oC d0K) [5,6,7,8,9,10,11,12,13],.code b0p,.code c06])::cs)) (w.alloc (.cells #[vI 5,vI 6] 2))):
 J0 Try.prog main F Stop (G ((bA 13 A [.inRegion (oC j0q) [1,2],.code j0u]).finish (vP lb 0)) cs) w:=by
 obtain⟨s,rfl⟩:=t0Y hsz
 clear hsz
 simp only[U9]
 rw[Frame.finish_at]
 simp only[j0q,N3,Try.f13,zz,Nat.reduceAdd]
 walk_nrm
 refine oT ?_
 refine S0<|ogV v0F c06<|ogW d0K b0p ?_
 simp only[d0K,N3,Try.f13,zz,Nat.reduceAdd]
 iterate 4 refine oT ?_
 refine oA hU ?_
 refine oc callable24 #[vP lb 0,.nilIface,vI 1,vL w.heap.size 0 2 2] ?_
 refine h _ ?_
 exact⟨rfl,rfl,rfl,trivial⟩
theorem E0E{n:Nat}(hU:P2 F n)(hn:n≤w.heap.size){lb:Nat}{A:Array Value}(hA:G0 124 A [(4,vP lb 0),(94,.bool false)])
 (h:∀A,G0 124 A [(4,vP lb 0),(100,.bool false)]→J0 Try.prog main F Stop (G (Frame.enter Try.prog 25 #[vP lb 0,.nilIface,vI 1,vL w.heap.size 0 1 1] .normal) ((bA 13 A [.inRegion (oC d0K) [11,12,13],.code b0p,.code c06])::cs)) (w.alloc (.cells #[vI 1] 2))):
 J0 Try.prog main F Stop (G ((bA 13 A [.inRegion (oC d0K) [5,6,7,8,9,10,11,12,13],.code b0p,.code c06]).finish (.bool true)) cs) w:=by
 obtain⟨s,rfl,h4,h94,_⟩:=Y3 U9 hA
 simp only[U9,h4,h94]
 clear h4 h94
 rw[Frame.finish_at]
 simp only[d0K,N3,Try.f13,zz,Nat.reduceAdd]
 walk_nrm
 iterate 4 refine oT ?_
 refine oA hU ?_
 refine oc callable25 #[vP lb 0,.nilIface,vI 1,vL w.heap.size 0 1 1] ?_
 refine h _ ?_
 exact⟨rfl,rfl,rfl,trivial⟩
theorem E0F{lb:Nat}{A:Array Value}(hA:G0 124 A [(4,vP lb 0),(100,.bool false)])
 (h:∀A,G0 124 A [(4,vP lb 0)]→J0 Try.prog main F Stop (G (Frame.enter Try.prog 26 #[vP lb 0,.nilIface,vI 1] .normal) ((bA 13 A [.inRegion (oC j0r) [1,2,3,4,5,6],.code k0S])::cs)) w):
 J0 Try.prog main F Stop (G ((bA 13 A [.inRegion (oC d0K) [11,12,13],.code b0p,.code c06]).finish (.bool true)) cs) w:=by
 obtain⟨s,rfl,h4,h100,_⟩:=Y3 U9 hA
 simp only[U9,h4,h100]
 clear h4 h100
 rw[Frame.finish_at]
 simp only[d0K,N3,Try.f13,zz,Nat.reduceAdd]
 walk_nrm
 iterate 2 refine oT ?_
 refine S0<|ogGn .skip<|ogK<|ogW j0r k0S ?_
 simp only[j0r,N3,Try.f13,zz,Nat.reduceAdd]
 refine oT ?_
 refine oc b0T #[vP lb 0,.nilIface,vI 1] ?_
 refine h _ ?_
 exact⟨rfl,rfl,trivial⟩
theorem E0G{n:Nat}(hU:P2 F n)(hn:n≤w.heap.size){lb:Nat}{va:Option Addr}{vl vc:Nat}{A:Array Value}(hA:G0 124 A [(4,vP lb 0)])
 (h:∀A,G0 124 A [(4,vP lb 0),(112,.bool true)]→J0 Try.prog main F Stop (G (Frame.enter Try.prog 22 #[.slice va vl vc,vL w.heap.size 0 2 2] .normal) ((bA 13 A [.inRegion (oC a00) [4,5,6,7,8,9,10,11,12,13],.code .ret])::cs)) (w.alloc (.cells #[vI 6,vI 6] 2))):
 J0 Try.prog main F Stop (G ((bA 13 A [.inRegion (oC j0r) [1,2,3,4,5,6],.code k0S]).finish (.tuple #[.slice va vl vc,.bool true])) cs) w:=by
 obtain⟨s,rfl,h4,_⟩:=Y3 U9 hA
 simp only[U9,h4]
 clear h4
 rw[Frame.finish_at]
 simp only[j0r,N3,Try.f13,zz,Nat.reduceAdd]
 walk_nrm
 iterate 5 refine oT ?_
 refine S0<|ogW a00 .ret ?_
 simp only[a00,N3,Try.f13,zz,Nat.reduceAdd]
 iterate 3 refine oT ?_
 refine oA hU ?_
 refine oc callable22 #[.slice va vl vc,vL w.heap.size 0 2 2] ?_
 refine h _ ?_
 exact⟨rfl,rfl,rfl,trivial⟩
theorem E0H{lb:Nat}{A:Array Value}(hA:G0 124 A [(4,vP lb 0),(112,.bool true)])
 (h:∀A,G0 124 A [(117,.bool true)]→J0 Try.prog main F Stop (G (Frame.enter Try.prog 19 #[vP lb 0] .normal) ((bA 13 A [.inRegion (oC a00) [8,9,10,11,12,13],.code .ret])::cs)) w):
 J0 Try.prog main F Stop (G ((bA 13 A [.inRegion (oC a00) [4,5,6,7,8,9,10,11,12,13],.code .ret]).finish (.bool true)) cs) w:=by
 obtain⟨s,rfl,h4,h112,_⟩:=Y3 U9 hA
 simp only[U9,h4,h112]
 clear h4 h112
 rw[Frame.finish_at]
 simp only[a00,N3,Try.f13,zz,Nat.reduceAdd]
 walk_nrm
 iterate 3 refine oT ?_
 refine oc callable19 #[vP lb 0] ?_
 refine h _ ?_
 exact⟨rfl,rfl,trivial⟩
theorem E0I{A:Array Value}(hA:G0 124 A [(117,.bool true)]){c:Frame}
 (h:J0 Try.prog main F Stop (G (c.finish (.bool true)) cs) w):
 J0 Try.prog main F Stop (G ((bA 13 A [.inRegion (oC a00) [8,9,10,11,12,13],.code .ret]).finish (vI 4)) (c::cs)) w:=by
 obtain⟨s,rfl,h117,_⟩:=Y3 U9 hA
 simp only[U9,h117]
 clear h117
 rw[Frame.finish_at]
 simp only[a00,N3,Try.f13,zz,Nat.reduceAdd]
 walk_nrm
 iterate 5 refine oT ?_
 refine S0<|ogX ?_
 refine Q0 rfl (fun d=>stepG_leave (fn:=Try.f13) (v:=.bool true) rfl rfl Try.func13 (by simp[results,Try.f13]) (by simp[results,Try.f13,go_sem])) ?_
 exact h
end
noncomputable section
variable{F:Fz}{w w':World}{kb st:Nat}
def B0n(ph:Nat):List Item:=match ph with
 | 1=>[.inRegion (oC B0o) [1],.code p0v,.inBlock 1,.inLoop i0P,.inBlock 0]
 | 2=>[.inRegion (oC B0p) [1],.code p0w,.inBlock 1,.inLoop i0P,.inBlock 0]
 | _=>[.inRegion (oC B0q) [1],.code x0z,.inBlock 1,.inLoop i0P,.inBlock 0]
def A06(ph:Nat):List Item:=match ph with
 | 1=>[.inRegion (oC A07) [1],.code p0m,.inBlock 1,.inLoop i0O,.inBlock 0]
 | 2=>[.inRegion (oC A08) [1],.code p0n,.inBlock 1,.inLoop i0O,.inBlock 0]
 | _=>[.inRegion (oC A09) [1],.code B0a,.inBlock 1,.inLoop i0O,.inBlock 0]
def B0j(ph:Nat):List Item:=match ph with
 | 1=>[.inRegion (oC B0k) [5,6,7,8,9,10],.code p0t]
 | 2=>[.inRegion (oC B0l) [1],.code p0u]
 | _=>[.inRegion (oC B0m) [6],.code x0y]
def B0f(ph:Nat):List Item:=match ph with
 | 1=>[.inRegion (oC B0g) [5,6,7,8,9,10],.code p0r]
 | 2=>[.inRegion (oC B0h) [1],.code p0s]
 | _=>[.inRegion (oC B0i) [6],.code x0x]
def B0b(ph:Nat):List Item:=match ph with
 | 1=>[.inRegion (oC B0c) [1],.code p0q]
 | 2=>[.inRegion (oC B0d) [1],.code k0l,.inBlock 1,.inLoop l0G,.inBlock 0,.code p0p]
 | _=>[.inRegion (oC B0e) [1],.code x0w,.inBlock 1,.inLoop l0G,.inBlock 0,.code p0p]
def A03(ph:Nat):List Item:=match ph with
 | _=>[.inRegion (oC A04) [1],.code A05]
def A0Y(ph:Nat):List Item:=match ph with
 | 1=>[.inRegion (oC A0Z) [4,5,6],.code .ret,.inBlock 0,.code g04]
 | 2=>[.inRegion (oC A00) [2,3,4,5,6,7],.code A02,.inBlock 0,.code g04]
 | 3=>[.inRegion (oC A01) [2,3,4,5,6,7],.code x0v,.inBlock 0,.code g04]
 | _=>[.inRegion (oC x0u) [2,3,4],.code .ret,.inBlock 0,.code g04]
structure KC where
 c:KCl
 A:Array Value
 A1:Array Value
 A2:Array Value
 ab:Nat
def KC.tk(c:KC)(ph:Nat):Frame:=(Go.Conc.base 78).at ⟨c.A,[]⟩ (B0n ph)
def KC.gv(c:KC)(ph:Nat):Frame:=(Go.Conc.base 80).at ⟨c.A,[]⟩ (A06 ph)
def KC.pu(c:KC)(ph:Nat):Frame:=(Go.Conc.base 45).at ⟨c.A1,[]⟩ (B0j ph)
def KC.po(c:KC)(ph:Nat):Frame:=(Go.Conc.base 43).at ⟨c.A1,[]⟩ (B0f ph)
def KC.pe(c:KC)(ph:Nat):Frame:=(Go.Conc.base 44).at ⟨c.A1,[]⟩ (B0b ph)
def KC.em(c:KC):Frame:=(Go.Conc.base 46).at ⟨c.A1,[]⟩ (A03 1)
def KC.do(c:KC)(ph:Nat):Frame:=(Go.Conc.base 64).at ⟨c.A2,[]⟩ (A0Y ph)
def KC.fr(c:KC):List Frame:=match c.c.pc with
 | 10=>[c.tk 1,c.pu 1,c.do 1]
 | 11=>[c.tk 2,c.pu 1,c.do 1]
 | 12=>[c.tk 3,c.pu 1,c.do 1]
 | 13=>[c.pu 2,c.do 1]
 | 14=>[c.gv 1,c.pu 3,c.do 1]
 | 15=>[c.gv 2,c.pu 3,c.do 1]
 | 16=>[c.gv 3,c.pu 3,c.do 1]
 | 20=>[c.tk 1,c.po 1,c.do 2]
 | 21=>[c.tk 2,c.po 1,c.do 2]
 | 22=>[c.tk 3,c.po 1,c.do 2]
 | 23=>[c.po 2,c.do 2]
 | 24=>[c.gv 1,c.po 3,c.do 2]
 | 25=>[c.gv 2,c.po 3,c.do 2]
 | 26=>[c.gv 3,c.po 3,c.do 2]
 | 30=>[c.pe 1,c.do 3]
 | 31=>[c.pe 2,c.do 3]
 | 32=>[c.pe 3,c.do 3]
 | _=>[c.em,c.do 4]
end
section
variable{F:Fz}{w w':World}{kb st:Nat}
section
variable{s:KS}{n0 n1 n2 n3 n4 a:Int}{A A1 A2:Array Value}{ab:Nat}
end
section
variable{s:KS}{a b0 c0:Int}{i:Nat}
end
end
section
variable{w w':World}{kb:Nat}
structure z0Q(sv:Value)(main:Bool)(sb:Nat)(X:Nat→World→Prop):Prop where
 tick:∀(m:Nat) (w:World) (c:Frame) (cs:List Frame) (Stop:Goroutine→World→Prop),X m w→m<4611686018427387904→(∀w',X (m+1) w'→w'.heap.size=w.heap.size→(∀r,r≠sb→w'.heap[r]? =w.heap[r]?)→J0 Try.prog main F0 Stop (G (c.finish (.tuple #[])) cs) w')→
  J0 Try.prog main F0 Stop (G (Frame.enter Try.prog 79 #[sv] .normal) (c::cs)) w
 keep:∀(m:Nat) (w w':World),X m w→w'.heap[sb]? =w.heap[sb]?→X m w'
structure AlK(kb sb:Nat)(X:Nat→World→Prop)(w0:World)(s0 s:KS)(m:Nat)(w:World):Prop where
 u:KU kb s w
 nb:s.nb=s0.nb
 x:X m w
 sz:w.heap.size=w0.heap.size
 o:∀r,r≠sb→¬KR kb s0 r→w.heap[r]? =w0.heap[r]?
section
variable{sv:Value}{main:Bool}{sb m:Nat}{X:Nat→World→Prop}{w0:World}{s0 s s':KS}
theorem AlK.tick(h:AlK kb sb X w0 s0 s m w)(hsb:¬KR kb s0 sb)(hx:X (m+1) w')(hs:w'.heap.size=w.heap.size)(ho:∀r,r≠sb→w'.heap[r]? =w.heap[r]?):AlK kb sb X w0 s0 s (m+1) w':=
 ⟨h.u.same fun r hr=>ho r fun e=>hsb (by subst e;rcases hr with hr|hr;exact .inl hr;exact .inr (hr.trans h.nb)),h.nb,hx,hs.trans h.sz,fun r hr hk=>(ho r hr).trans (h.o r hr hk)⟩
theorem AlK.set(S:z0Q sv main sb X)(h:AlK kb sb X w0 s0 s m w)(hsb:¬KR kb s0 sb){ad:Addr}{v:Value}(hu:KU kb s' (w.setCell ad v))(hn:s'.nb=s0.nb)(ha:ad.block=kb∨ad.block=s.nb):AlK kb sb X w0 s0 s' m (w.setCell ad v):=by
 have hk:KR kb s0 ad.block:=by
  rcases ha with h1|h1
  ·exact .inl h1
  ·exact .inr (h1.trans h.nb)
 exact⟨hu,hn,S.keep m _ _ h.x (I0 _ _ _ fun e=>hsb (by rw[e];exact hk)),by rw[World.size_setCell];exact h.sz,fun r hr hkr=>(I0 _ _ _ fun e=>hkr (by rw[e];exact hk)).trans (h.o r hr hkr)⟩
end
end
section
variable{F:Fz}{w:World}
@[go_sem] theorem E0L(w:World):(binOp .neq 105 .nilIface .nilIface).run Try.prog w= .ok (.bool false) w:=by kernel_rfl
@[go_sem] theorem D0U(w:World)(es:Array Event):(binOp .neq 105 .nilIface .nilIface).events Try.prog w es=es:=by kernel_rfl
end
section
variable{F:Fz}{w:World}
end
section
variable{w:World}
end
section
variable{An:G3}{w w':World}
theorem h0h{base n size:Nat}{e:TypeId}{v:Value}{xs:List Value}(h:w.ownsRow base e size v n xs)(hs:∀b c,w.heap[b]? =some (.cells c e (0,0))→base≤b→w'.heap[b]? =w.heap[b]?):w'.ownsRow base e size v n xs:=by
 refine⟨h.1,?_⟩
 rcases h.2 with h2|⟨b,cap,cur,rfl,h3,h4,h5⟩
 ·exact .inl h2
 ·exact .inr ⟨b,cap,cur,rfl,h3,(hs b cur h4 h3).trans h4,h5⟩
structure o0q(w:World)(n:Nat)(ans:Nat→List (Bool×Int))(state:List Int)(order:List Nat)(aa:Nat)(ov sv:Value)(w':World):Prop where
 size:w.heap.size≤w'.heap.size
 old:∀(r:Nat) (c:Array Value) (e:TypeId) (z:Nat×Nat),w.heap[r]? =some (.cells c e z)→w'.heap[r]? =some (.cells c e z)
 arr:∃c,w'.heap[aa]? =some (.cells c 42 (0,0))∧c.size=n∧∀i,i<n→∃v,c[i]? =some v∧(ans i).length≤65536∧w'.ownsRow 0 44 3 v (ans i).length (z0V (ans i))
 ord:w'.ownsRow w.heap.size 3 1 ov order.length (order.map fun i:Nat=>Value.int .i64 i)
 st:w'.ownsRow w.heap.size 2 1 sv state.length (state.map fun v=>vI v)
def KSt.state(s:KSt):List Int:=[s.hd.1,s.hd.2,s.fr.1,s.fr.2]++s.vals
end
section
variable{F:Fz}{w:World}
theorem bOp(k a b c:Int):Try.prog.built 47 [(0,vI k)]=some #[vI k,vI 0,vI 0,vI 0]:=by kernel_rfl
theorem z0X(k a:Int):Try.prog.built 47 [(0,vI k),(1,vI a)]=some #[vI k,vI a,vI 0,vI 0]:=by kernel_rfl
@[go_sem] theorem D0V(k:Int)(w:World):(Instr.build 47 #[(0,vI k)]).run Try.prog w= .ok (.agg #[vI k,vI 0,vI 0,vI 0]) w:=run_build w _ _ _ (bOp k 0 0 0)
@[go_sem] theorem E0q(k:Int)(w:World)(es:Array Event):(Instr.build 47 #[(0,vI k)]).events Try.prog w es=es:=l6 w es _ _ _ _ Try.underlying47 (bOp k 0 0 0)
@[go_sem] theorem C0D(k a:Int)(w:World):(Instr.build 47 #[(0,vI k),(1,vI a)]).run Try.prog w= .ok (.agg #[vI k,vI a,vI 0,vI 0]) w:=run_build w _ _ _ (z0X k a)
@[go_sem] theorem D0O(k a:Int)(w:World)(es:Array Event):(Instr.build 47 #[(0,vI k),(1,vI a)]).events Try.prog w es=es:=l6 w es _ _ _ _ Try.underlying47 (z0X k a)
end
section
variable{w w' w0:World}
end
section
variable{An:G3}{w w' w0:World}
theorem o0q.other{w1 u:World}{n:Nat}{ans:Nat→List (Bool×Int)}{state:List Int}{order:List Nat}{aa rb:Nat}{ov sv:Value}(h:o0q w1 n ans state order aa ov sv w')(hs:w.heap.size≤w1.heap.size)(hold:∀r,r<w.heap.size→w1.heap[r]? =w.heap[r]?)(hu:u.heap.size=w'.heap.size)(hne:∀r,r≠rb→u.heap[r]? =w'.heap[r]?)(hr:∃c z,w'.heap[rb]? =some (.cells c 31 z))(hrb:w.heap.size≤rb):o0q w n ans state order aa ov sv u:=by
 obtain⟨cr,zr,hr⟩:=hr
 have ty:∀(b:Nat) (c:Array Value) (e:TypeId) (z:Nat×Nat),w'.heap[b]? =some (.cells c e z)→e≠31→u.heap[b]? =w'.heap[b]?:=fun b c e z hb he=>hne b fun e2=>by
  rw[e2,hr]at hb
  cases hb
  exact he rfl
 obtain⟨c,a1,a2,a3⟩:=h.arr
 refine⟨by have:=h.size;omega,fun r cc e z hr2=>?_,⟨c,(ty _ _ _ _ a1 (by decide)).trans a1,a2,fun i hi=>?_⟩,?_,?_⟩
 ·have hlt:=(Q3 hr2)
  rw[hne r (by omega)]
  exact h.old r cc e z ((hold r hlt).trans hr2)
 ·obtain⟨v,v1,v2,v3⟩:=a3 i hi
  exact⟨v,v1,v2,h0h v3 fun b cc hb _=>ty b cc _ _ hb (by decide)⟩
 ·exact j4 hs (h0h h.ord fun b cc hb _=>ty b cc _ _ hb (by decide))
 ·exact j4 hs (h0h h.st fun b cc hb _=>ty b cc _ _ hb (by decide))
end
section
variable{w w':World}
theorem B5.drewN{w:World}{a:Option Addr}{xs:List Value}(h:B5 w a xs)(k:Nat):B5 (w.drewN k) a xs:=h.heap rfl
end
section
variable{F:Fz}{w:World}
theorem B5.same{a:Option Addr}{xs:List Value}{w w':World}(h:B5 w a xs)(he:∀b o,a=some ⟨b,o,none⟩→w'.heap[b]? =w.heap[b]?):B5 w' a xs:=
 ⟨fun k x hx=>by
  obtain⟨b,o,h1,h2⟩:=h.c k x hx
  exact⟨b,o,h1,by simpa only[World.cell?,he b o h1]using h2⟩⟩
theorem B5.alloc{a:Option Addr}{xs:List Value}{w:World}(h:B5 w a xs)(o:Obj):B5 (w.alloc o) a xs:=
 ⟨fun k x hx=>by
  obtain⟨b,o1,h1,h2⟩:=h.c k x hx
  exact⟨b,o1,h1,(O0 h2 o).1⟩⟩
theorem j0i(w:World)(xs:List Value)(e:TypeId):B5 (w.alloc (.cells xs.toArray e)) (some ⟨w.heap.size,0,none⟩) xs:=
 ⟨fun k x hx=>⟨_,_,rfl,by
  have:=heap_alloc_new w (.cells xs.toArray e)
  simp only[World.cell?,this,Nat.zero_add]
  simpa using hx⟩⟩
variable{An:G3}
end
section
variable{An:G3}{w w' w0:World}
def x0l:Nat→List P3:=fun i=>if i=0 then[⟨1,1,10,1⟩]else if i=1 then[⟨3,1,0,0⟩]else[]
def x0m:Nat→List P3:=fun i=>if i=0 then[⟨1,1,10,1⟩]else if i=1 then[⟨4,0,0,0⟩]else[]
def fxS1:List Int:=[1,1,0,0,0,0,0,1,1]
def fxS2:List Int:=[1,0,0,0,0,0,1]
def g00:GS SPl×List Nat:=a0K x0l 2 99 fxS1 10 (ss0 [1,2])
def g01:GS SPl×List Nat:=a0K x0m 2 99 fxS2 10 (ss0 [1,2])
theorem n0y:g7 2 99 g00:=by decide +kernel
theorem n0z:g7 2 99 g01:=by decide +kernel
theorem s0p:R1.state g00.1.q=[2,10,11]:=by decide +kernel
theorem s0q:R1.state g01.1.q=[2,10,11]:=by decide +kernel
def E0x:List SAn:=(g00.1.th 1).ans
def E0y:List SAn:=(g01.1.th 1).ans
theorem o07:E0x=[(false,0,[])]:=by decide +kernel
theorem o08:E0y=[(true,0,[1,11])]:=by decide +kernel
theorem i0N{m:Pl}{ops:Nat→List P3}{n M:Nat}{S:List Int}{s:GS m}{f0:Nat}(hd:g7 n M (a0K ops n M S f0 s))(t:GS m×List Nat)(h:∃k,∀f,k≤f→a0K ops n M S f s=t):t=a0K ops n M S f0 s:=by
 obtain⟨k,hk⟩:=h
 rw[← hk (max k f0) (by omega)]
 exact f0F f0 _ hd _ (by omega)
theorem V1{X:World}{k:Nat}{c:Array Value}{e:TypeId}(h:X.heap[k]? =some (.cells c e (0,0))){j:Nat}{v:Value}(hv:c[j]? =some v):X.cell? ⟨k,j,none⟩=some v∧X.frozen? ⟨k,j,none⟩=false:=⟨by simp only[World.cell?,h];simpa using hv,by simp[World.frozen?,h]⟩
theorem u0Q{u:World}{b0 b1 bt bs:Nat}{k1 a1 x1 y1 k2 a2 x2 y2:Int}{S:List Int}(h0:u.heap[b0]? =some (.cells #[vI k1,vI a1,vI x1,vI y1] 47 (0,0)))(h1:u.heap[b1]? =some (.cells #[vI k2,vI a2,vI x2,vI y2] 47 (0,0)))(ht:u.heap[bt]? =some (.cells #[vL b0 0 1 1,vL b1 0 1 1] 34 (0,0)))(hs:u.heap[bs]? =some (.cells (S.map fun i:Int=>Value.int .i64 i).toArray 3 (0,0)))(hl:S.length<100):
 y6 u (fun _=>False) 2 bt 0 2 (some ⟨bt,0,none⟩) (fun i=>some ⟨if i=0 then b0 else b1,0,none⟩) (fun _=>1) (fun _=>1) (fun i=>if i=0 then[⟨k1,a1,x1,y1⟩]else if i=1 then[⟨k2,a2,x2,y2⟩]else[]) S (some ⟨bs,0,none⟩):=by
 refine⟨rfl,fun _=>rfl,fun _=>(Q3 ht),fun j hj=>?_,fun j hj=>?_,fun j hj k x hx=>?_,by omega,fun _=>⟨_,_,_,_,_,rfl,id,hs,fun k v hv=>⟨by rw[Nat.zero_add];simpa using hv,by simp⟩⟩⟩
 ·have:j=0∨j=1:=by omega
  rcases this with rfl|rfl
  ·exact⟨(V1 ht rfl).1,(V1 (j:=0) ht rfl).2,Nat.le_refl _⟩
  ·exact⟨(V1 ht rfl).1,(V1 (j:=1) ht rfl).2,Nat.le_refl _⟩
 ·have:j=0∨j=1:=by omega
  rcases this with rfl|rfl<;>rfl
 ·have:j=0∨j=1:=by omega
  rcases this with rfl|rfl
  ·have hk:k=0:=by
    have:=(List.getElem?_eq_some_iff.1 hx).1
    simp at this
    omega
   subst hk
   obtain rfl:(⟨k1,a1,x1,y1⟩:P3)=x:=by simpa using hx
   exact⟨_,_,rfl,id,(V1 h0 rfl).1,(V1 h0 rfl).1,(V1 h0 rfl).1,(V1 h0 rfl).1,(V1 (j:=0) h0 rfl).2,(V1 (j:=1) h0 rfl).2,(V1 (j:=2) h0 rfl).2,(V1 (j:=3) h0 rfl).2⟩
  ·have hk:k=0:=by
    have:=(List.getElem?_eq_some_iff.1 hx).1
    simp at this
    omega
   subst hk
   obtain rfl:(⟨k2,a2,x2,y2⟩:P3)=x:=by simpa using hx
   exact⟨_,_,rfl,id,(V1 h1 rfl).1,(V1 h1 rfl).1,(V1 h1 rfl).1,(V1 h1 rfl).1,(V1 (j:=0) h1 rfl).2,(V1 (j:=1) h1 rfl).2,(V1 (j:=2) h1 rfl).2,(V1 (j:=3) h1 rfl).2⟩
theorem k0k{u:World}{vb:Nat}{vs:List Int}(h:u.heap[vb]? =some (.cells (vs.map fun i:Int=>Value.int .i64 i).toArray 2 (0,0))):o5 u (some ⟨vb,0,none⟩) vs:=fun i x hx=>⟨vb,0,rfl,by
 rw[Nat.zero_add]
 exact(V1 h (by simp[hx])).1⟩
structure FxT(u:World)(T:Nat)(ok:Bool)(l:List Int):Prop where
 t:∃aa xa xc g cap la lc,u.cell? ⟨T,0,none⟩=some (vL aa 0 2 2)∧u.cell? ⟨T,2,none⟩=some (vL xa 0 3 xc)∧u.cell? ⟨aa,1,none⟩=some (vL g 0 1 cap)∧u.cell? ⟨g,0,none⟩=some (.bool ok)∧u.cell? ⟨g,2,none⟩=some (.slice la l.length lc)∧B5 u la (l.map fun v=>vI v)∧u.cell? ⟨xa,0,none⟩=some (vI 2)∧u.cell? ⟨xa,2,none⟩=some (vI 11)
theorem FxT.same{u u':World}{T:Nat}{ok:Bool}{l:List Int}(h:FxT u T ok l)(hs:∀(r:Nat) (c:Array Value) (e:TypeId) (z:Nat×Nat),u.heap[r]? =some (.cells c e z)→u'.heap[r]? =some (.cells c e z)):FxT u' T ok l:=by
 obtain⟨aa,xa,xc,g,cap,la,lc,h1,h2,h3,h4,h5,h6,h7,h8⟩:=h.t
 have hc:∀{a:Addr} {v:Value},u.cell? a=some v→u'.cell? a=some v:=fun{a v} h=>by
  obtain⟨c,e,z,ho⟩:=M3 h
  have:=hs _ _ _ _ ho
  rw[← h];unfold World.cell?;simp only[this,ho]
 refine⟨aa,xa,xc,g,cap,la,lc,hc h1,hc h2,hc h3,hc h4,hc h5,⟨fun k x hx=>?_⟩,hc h7,hc h8⟩
 obtain⟨b,o,e1,e2⟩:=h6.c k x hx
 exact⟨b,o,e1,hc e2⟩
theorem p0a{u u':World}{ans:Nat→List SAn}{order:List Nat}{aa:Nat}{rows:Nat→Value}{av:Nat→List SA}{oa xa:Option Addr}{oc xc:Nat}{st:Bool}{ok:Bool}{n1:Int}{l:List Int}(h:j0P w 2 ans [2,10,11] order aa rows av (.slice oa order.length oc) (.slice xa ([2,10,11]:List Int).length xc) u)(ha:ans 1=[(ok,n1,l)])
 (hT:u'.heap=(u.alloc (.cells #[vL aa 0 2 2,.slice oa order.length oc,.slice xa ([2,10,11]:List Int).length xc,.bool st] 31)).heap):FxT u' u.heap.size ok l:=by
 have hn:u'.heap[u.heap.size]? =some (.cells #[vL aa 0 2 2,.slice oa order.length oc,.slice xa ([2,10,11]:List Int).length xc,.bool st] 31 (0,0)):=by rw[hT];exact heap_alloc_new _ _
 have ho:∀r,r<u.heap.size→u'.heap[r]? =u.heap[r]?:=fun r hr=>by rw[hT];exact D0 _ _ hr
 have hc:∀{a:Addr} {v:Value},u.cell? a=some v→u'.cell? a=some v:=fun{a v} h=>by
  obtain⟨c,e,z,hb⟩:=M3 h
  rw[← h];unfold World.cell?;simp only[ho _ (Q3 hb)]
 obtain⟨c,a1,a2,a3⟩:=h.arr
 obtain⟨r1,r2,r3,r4⟩:=h.row 1 (by decide)
 rw[ha]at r1
 obtain⟨sa,hsa⟩:∃sa,av 1=[sa]:=by
  cases hq:av 1 with
  | nil=>rw[hq]at r1;cases r1
  | cons x t=>
    cases t with
    | nil=>exact⟨x,rfl⟩
    | cons y t=>rw[hq]at r1;simp at r1
 rw[hsa]at r1 r3 r4
 have r1:sa.an=(ok,n1,l):=by simpa using r1
 obtain⟨an,la,ll,lc⟩:=sa
 simp only at r1
 subst r1
 have r3:u.ownsRow 0 44 3 (rows 1) (0+1) (SA.v ⟨(ok,n1,l),la,ll,lc⟩).cells:=by simpa using r3
 obtain⟨g,cap,hg⟩:=j5 r3
 have hcells:(SA.v ⟨(ok,n1,l),la,ll,lc⟩).cells=[.bool ok,vI n1,.slice la ll lc]:=rfl
 rw[hcells]at r3
 obtain⟨b,cp,e1,g0⟩:=M5 (k:=0) r3 rfl
 obtain⟨b2,cp2,e2,g2⟩:=M5 (k:=2) r3 rfl
 rw[hg]at e1 e2
 cases e1
 cases e2
 have hl:SAU ⟨(ok,n1,l),la,ll,lc⟩ u:=r4 _ (by simp)
 have hl2:u.ownsRow 0 2 1 (.slice la ll lc) l.length (l.map fun v=>vI v):=hl
 have hll:ll=l.length:=by
  rcases hl2.2 with⟨e,e2⟩|⟨_,_,_,e,_⟩
  ·cases e
   omega
  ·cases e
   rfl
 have hst:=h.st
 obtain⟨bx,cx,ex,x0⟩:=M5 (k:=0) hst rfl
 obtain⟨bx2,cx2,ex2,x2⟩:=M5 (k:=2) hst rfl
 cases ex
 cases ex2
 refine⟨aa,bx,xc,g,cap,la,lc,(V1 hn rfl).1,(V1 hn rfl).1,hc ?_,hc g0.c,hc (hll ▸ g2.c),?_,hc x0.c,hc x2.c⟩
 ·have:=a3 1 (by decide)
  rw[hg]at this
  exact(V1 a1 this).1
 ·refine⟨fun k x hx=>?_⟩
  obtain⟨b,cp,e,hk⟩:=M5 hl2 hx
  cases e
  exact⟨b,0,rfl,by rw[Nat.zero_add];exact hc hk.c⟩
theorem A0W{T1 T2:Nat}{b1:Bool}{l1:List Int}(h1:FxT w T1 false l1)(h2:FxT w T2 b1 [1,11]){A:Array Value}(hA:G0 124 A [(2,.pointer (some ⟨T1,0,none⟩)),(3,.pointer (some ⟨T2,0,none⟩))]):
 sfxr4.wp Try.prog (F7 fun a u=>a.defers=[]∧(a.tmps.size=124∧a.tmps.getD 89 undef= .bool false∧w.heap.size≤u.heap.size∧∀r,r<w.heap.size→u.heap[r]? =w.heap[r]?)) ⟨A,[]⟩ w:=by
 obtain⟨s,rfl,h02,h03,_⟩:=Y3 U9 hA
 obtain⟨aa,xa,xc,g,cap,la,lc,c1,c2,c3,c4,c5,c6,c7,c8⟩:=h1.t
 obtain⟨aa2,xa2,xc2,g2,cap2,la2,lc2,d1,d2,d3,d4,d5,d6,d7,d8⟩:=h2.t
 have C:Aside (Calls Try.prog 22 #[.slice la2 2 lc2,.slice (some ⟨w.heap.size,0,none⟩) 2 2] (w.alloc (.cells #[.int .i64 1,.int .i64 11] 2)) fun x w'=>x= .returned (.bool true)∧w'.heap=(w.alloc (.cells #[.int .i64 1,.int .i64 11] 2)).heap):=
  y05 (xs:=[1,11]) (by decide) (d6.alloc _) (j0i w ([1,11].map fun v=>.int .i64 v) 2)
 clear h1 h2 c5 c6 d4 d6 d7 d8 d2
 simp only[sfxr4,N3,pC,Try.f13,Option.getD_some,U9,h02,h03,List.append_eq,List.append,List.cons_append,List.nil_append]
 clear h02 h03
 go_wp2_with (go_at_call 22;refine C.out.mono ?_;rintro e w1 ⟨rfl,hw1⟩;have W1:Aside (w1.heap=(w.alloc (.cells #[.int .i64 1,.int .i64 11] 2)).heap):=hw1;clear hw1)
 refine⟨rfl,rfl,rfl,?_,fun r hr=>?_⟩
 ·rw[W1.out];simp
 ·rw[W1.out];exact D0 _ _ hr
end
section
variable{F:Fz}{w:World}
theorem w0I{nn:Nat}(hU:P2 F nn)(hn:nn≤w.heap.size){sv:Value}{lb n:Nat}{a b c0:Int}{cs:List Frame}{main:Bool}{Stop:Goroutine→World→Prop}
 (h:∀A,G0 67 A [(0,vP lb 0),(1,sv),(3,vI (n:Nat)),(6,vP w.heap.size 0),(8,vP (w.heap.size+1) 0),(9,vP (w.heap.size+2) 0)]→J0 Try.prog main F Stop (G (bA 20 A [.code f0Z,.inBlock 0,.code M6]) cs) (((w.alloc (.cells #[vI 1,vI a,vI b,vI c0] 47)).alloc (.cells #[.bool false,vI 0,.slice none 0 0] 44)).alloc (.cells #[.bool true,vI 0,.slice none 0 0] 44))):
 J0 Try.prog main F Stop (G (Frame.enter Try.prog 20 #[vP lb 0,sv,.agg #[vI 1,vI a,vI b,vI c0],vI (n:Nat)] .normal) cs) w:=by
 rw[J8]
 walk_nrm
 refine ogW a0u e0y ?_
 simp only[a0u,D1,Try.f20,zz,Nat.reduceAdd]
 iterate 2 refine oA hU ?_
 refine S0<|ogW a0v d0n ?_
 simp only[a0v,D1,Try.f20,zz,Nat.reduceAdd]
 refine oT ?_
 refine oA hU ?_
 (refine oW fun dd K hK=>?_;go_simp;refine hK _ _ ⟨⟨⟨0,K6 (fun k=>Q2 hU (show nn≤w.heap.size+2 by omega)) _ _ _⟩,fun e he=>by(have hm:=mem_listed he;clear he hK;simp[go_sem,storedEv]at hm;rcases hm with rfl|rfl|rfl<;>exact U0 _ _ ((fun k=>Q2 hU (show nn≤w.heap.size+2 by omega)) _))⟩,?_⟩;clear hK K;simp only[setCell_at'];refine J0.at ?_ dd)
 have e1:=D9 ((w.alloc (.cells #[vI 1,vI a,vI b,vI c0] 47)).alloc (.cells #[.bool false,vI 0,.slice none 0 0] 44)) (.bool false) (vI 0) (.slice none 0 0) (.bool true) (vI 0) (.slice none 0 0)
 have e2:((w.alloc (.cells #[vI 1,vI a,vI b,vI c0] 47)).alloc (.cells #[.bool false,vI 0,.slice none 0 0] 44)).heap.size=w.heap.size+2:=d0L _ _ _
 rw[e2]at e1
 rw[e1]
 clear e1 e2
 refine S0<|ogV e0z M6<|ogW a0w d0l ?_
 simp only[a0w,D1,Try.f20,zz,Nat.reduceAdd]
 refine oT ?_
 refine oL ?_
 refine S0 ?_
 rw[c0Q]
 refine L7<|ogW a0x b0W ?_
 simp only[a0x,D1,Try.f20,zz,Nat.reduceAdd]
 iterate 2 refine oT ?_
 refine S0<|ogYn f0Z ?_
 refine h _ ?_
 exact⟨rfl,rfl,rfl,rfl,rfl,rfl,rfl,trivial⟩
theorem w0N{sv:Value}{main:Bool}{sb:Option Nat}{m:Nat}{X:Nat→World→Prop}{ls:SS}{lb n pb ab rb:Nat}{a b c0:Int}(S:R7 sv main sb X)(h:J7 lb sb X w ls m w)(hsb:∀b,sb=some b→¬SR lb ls b)(hsbl:∀b,sb=some b→b<w.heap.size)(hev:ls.k.ver.tmod 2=0)(hm:m+32<4611686018427387904)(hn16:n≤16)(hs:g8 pb 1 a b c0 w)(ha:w.heap[ab]? =some (.cells #[.bool true,vI 0,.slice none 0 0] 44 (0,0)))(hb:Ans w rb)(hne:ab≠rb)
 (hpn:some pb≠sb∧pb≠lb∧pb≠ls.wb) (hna:some ab≠sb∧ab≠lb∧ab≠ls.wb) (hnr:some rb≠sb∧rb≠lb∧rb≠ls.wb) {A:Array Value} (hA:G0 67 A [(0,vP lb 0),(1,sv),(3,vI (n:Nat)),(6,vP pb 0),(8,vP rb 0),(9,vP ab 0)]) {c:Frame} {cs:List Frame} {Stop:Goroutine→World→Prop}
 (K:∀w2 w3,J7 lb sb X w ⟨ls.k.wrote 1 (V2 n b c0),ls.wb,ls.wo⟩ (m+ls.n+3) w2→e0b w2 w3 ab rb→J0 Try.prog main F0 Stop (G (c.finish (.agg #[.bool true,vI 0,.slice none 0 0])) cs) w3):
 J0 Try.prog main F0 Stop (G (bA 20 A [.code f0Z,.inBlock 0,.code M6]) (c::cs)) w:=by
 have hne2:=Ne.symm hne
 have hpl:pb<w.heap.size:=(Array.getElem?_eq_some_iff.1 hs.o).1
 have hal:ab<w.heap.size:=(Q3 ha)
 have hrl:rb<w.heap.size:=by
  obtain⟨_,_,_,h1⟩:=hb.o
  exact(Q3 h1)
 have hs0:=hs
 have hS:∀w d,g8 pb 1 a b c0 w→g8 pb 1 a b c0 (World.at w d):=fun w d h=>h.at d
 obtain⟨s,rfl,h0,h1,h3,h6,h8,h9,_⟩:=Y3 e0v hA
 simp only[e0v,h0,h1,h3,h6,h8,h9]
 clear h0 h1 h3 h6 h8 h9
 rw[w0S]
 refine T8 (g8 pb 1 a b c0) (last:=9) x4 (z8 (by kernel_rfl)) (by decide) ?_
 simp only[f0Z,D1,Try.f20,zz,Nat.reduceAdd]
 refine c9 0 (vP lb 0) hS hs ?_
 walk_nrm
 refine c9 1 sv hS hs ?_
 walk_nrm
 refine c9 2 (vP pb 1) hS hs ?_
 walk_nrm
 refine V9 3 (vI a) (fun u hu=>hu.f1) hS hs ?_
 walk_nrm
 refine V9 4 (.agg #[vI 1,vI a,vI b,vI c0]) (fun u hu=>(And.intro hu.f0 (And.intro hu.f1 (And.intro hu.f2 hu.f3)))) hS hs ?_
 walk_nrm
 refine c9 5 (vI (n:Nat)) hS hs ?_
 walk_nrm
 refine Z2 (r:=[6]) (by kernel_rfl) (by kernel_rfl) (fun j1 hj1 hjl=>?_)
 obtain rfl:j1=6:=by simpa using hj1
 refine⟨_,rfl,.inr (.inr ⟨rfl,55,#[.agg #[vI 1,vI a,vI b,vI c0],vI (n:Nat)],fun v w'=>X9 w w' v (V2 n b c0),fun w=>by simp[execOp,Act.eval,resolve,invoke,Deferred.ofValue,callable55.run],fun w=>by simp[execOp,Act.eval,resolve,invoke,Deferred.ofValue,callable55.run,callable55.quiet],fun c cs Stop k=>g0i hn16 fun w1 v hV=>k _ _ hV,?_⟩)⟩
 rintro v w1 hV
 refine⟨⟨(hV.old _ hpl).trans hs.o⟩,?_⟩
 have hs1:g8 pb 1 a b c0 w1:=⟨(hV.old _ hpl).trans hs.o⟩
 clear hs
 have hs:=hs1
 have hrow:=hV.row
 rw[G5]at hrow
 obtain⟨va,vl,vc,hv⟩:=F3 hrow
 subst hv
 obtain rfl:vl=n:=by
  rcases hrow.2 with⟨e,h⟩|⟨_,_,_,e,_⟩
  ·cases e;exact h.symm
  ·cases e;rfl
 have a1:J7 lb sb X w ls m w1:=h.grow S hV.size (fun r hr=>hV.old r hr) (fun r hr=>hV.old r (h.u.low hr)) (fun b hb _=>hV.old b (hsbl b hb))
 walk_nrm
 refine Z2 (r:=[7]) (by kernel_rfl) (by kernel_rfl) (fun j1 hj1 hjl=>?_)
 obtain rfl:j1=7:=by simpa using hj1
 refine⟨_,rfl,.inr (.inr ⟨rfl,24,#[vP lb 0,sv,vI a,.slice va vl vc],fun v w'=>v= .bool true∧J7 lb sb X w ⟨ls.k.wrote 1 (V2 vl b c0),ls.wb,ls.wo⟩ (m+ls.n+3) w',fun w=>by simp[execOp,Act.eval,resolve,invoke,Deferred.ofValue,callable24.run],fun w=>by simp[execOp,Act.eval,resolve,invoke,Deferred.ofValue,callable24.run,callable24.quiet],fun c cs Stop k=>(by
  have hk:=b0G (a:=a) (vc:=vc) (c:=c) (cs:=cs) (Stop:=Stop) S a1 hsb hev hm (vs:=V2 vl b c0) (.of_row hV.row) (fun y hy=>by
   subst hy
   have h1:=hV.new _ rfl
   have h2:=h.u.low (r:=lb) (.inl rfl)
   have h3:=h.u.low (r:=ls.wb) (.inr rfl)
   exact⟨by omega,by omega,fun e=>by have:=hsbl _ e.symm;omega⟩) (fun w2 a2=>k _ _ ⟨rfl,a2⟩)
  rw[G5]at hk
  exact hk),?_⟩)⟩
 rintro v w2 ⟨hvb,a2⟩
 subst hvb
 have hs2:g8 pb 1 a b c0 w2:=⟨(a2.o _ hpl hpn.1 hpn.2.1 hpn.2.2).trans hs0.o⟩
 refine⟨hs2,?_⟩
 clear hs hs1
 have hs:=hs2
 walk_nrm
 refine c9 8 (vP ab 0) hS hs ?_
 walk_nrm
 refine F9 (by kernel_rfl) ?_ _
 have hab:=a2.o ab hal hna.1 hna.2.1 hna.2.2
 have c0x:=(V1 (hab.trans ha) (j:=0) rfl).1
 have c1x:=(V1 (hab.trans ha) (j:=1) rfl).1
 have c2x:=(V1 (hab.trans ha) (j:=2) rfl).1
 have z0:=(V1 (hab.trans ha) (j:=0) rfl).2
 have z1:=(V1 (hab.trans ha) (j:=1) rfl).2
 have z2:=(V1 (hab.trans ha) (j:=2) rfl).2
 obtain⟨y0v,y1v,y2v,hrb0⟩:=hb.o
 have hrb:=(a2.o rb hrl hnr.1 hnr.2.1 hnr.2.2).trans hrb0
 have d0:=(V1 hrb (j:=0) rfl).1
 have y0:=(V1 hrb (j:=0) rfl).2
 have d1:=(V1 hrb (j:=1) rfl).1
 have y1:=(V1 hrb (j:=1) rfl).2
 have d2:=(V1 hrb (j:=2) rfl).1
 have y2:=(V1 hrb (j:=2) rfl).2
 (refine oW fun dd K hK=>?_;go_simp;refine hK _ _ ⟨⟨⟨0,i1 rfl (o7 _) _⟩,fun e he=>by(have hm:=mem_listed he;clear he hK;simp[go_sem,storedEv,c0x,z0]at hm;subst hm;exact U0 _ _ (o7 _))⟩,?_⟩;clear hK K;simp only[setCell_at'];refine J0.at ?_ dd)
 refine S0<|ogI<|ogW w9 .ret ?_
 simp only[w9,D1,Try.f20,zz,Nat.reduceAdd]
 (refine oW fun dd K hK=>?_;go_simp;refine hK _ _ ⟨⟨⟨0,V3.refl _ _⟩,fun e he=>by(have hm:=mem_listed he;clear he hK;simp[go_sem,c0x,c1x,c2x,z0,z1,z2,d0,d1,d2,y0,y1,y2,hne,hne2]at hm;rcases hm with rfl|rfl|rfl<;>exact I1 _ _)⟩,J0.at ?_ dd⟩;clear hK K)
 (refine oW fun dd K hK=>?_;go_simp;refine hK _ _ ⟨⟨⟨0,K6 (fun k=>o7 _) _ _ _⟩,fun e he=>by(have hm:=mem_listed he;clear he hK;simp[go_sem,storedEv,c0x,c1x,c2x,z0,z1,z2,d0,d1,d2,y0,y1,y2,hne,hne2]at hm;rcases hm with rfl|rfl|rfl<;>exact U0 _ _ ((fun k=>o7 _) _))⟩,?_⟩;clear hK K;simp only[setCell_at'];refine J0.at ?_ dd)
 refine S0<|ogX ?_
 refine p4 (fn:=Try.f20) (v:=.agg #[.bool true,vI 0,.slice none 0 0]) rfl rfl Try.func20 (fun d=>by simp[results,Try.f20,go_sem,c0x,c1x,c2x,z0,z1,z2,d0,d1,d2,y0,y1,y2,hne,hne2]) (fun d e he=>by(simp[results,Try.f20,go_sem,c0x,c1x,c2x,z0,z1,z2,d0,d1,d2,y0,y1,y2,hne,hne2]at he;rcases he with rfl|rfl|rfl<;>exact I1 _ _)) ?_
 exact K w2 _ a2 ⟨by simp,fun r h1 h2=>by simp[B4 h1,B4 h2]⟩
theorem w0J{nn:Nat}(hU:P2 F nn)(hn:nn≤w.heap.size){sv:Value}{lb n:Nat}{a b c0:Int}{cs:List Frame}{main:Bool}{Stop:Goroutine→World→Prop}
 (h:∀A,G0 67 A [(0,vP lb 0),(1,sv),(3,vI (n:Nat)),(6,vP w.heap.size 0),(8,vP (w.heap.size+1) 0),(9,vP (w.heap.size+2) 0)]→J0 Try.prog main F Stop (G (bA 20 A [.code f00,.inBlock 0,.code M6]) cs) (((w.alloc (.cells #[vI 2,vI a,vI b,vI c0] 47)).alloc (.cells #[.bool false,vI 0,.slice none 0 0] 44)).alloc (.cells #[.bool true,vI 0,.slice none 0 0] 44))):
 J0 Try.prog main F Stop (G (Frame.enter Try.prog 20 #[vP lb 0,sv,.agg #[vI 2,vI a,vI b,vI c0],vI (n:Nat)] .normal) cs) w:=by
 rw[J8]
 walk_nrm
 refine ogW a0u e0y ?_
 simp only[a0u,D1,Try.f20,zz,Nat.reduceAdd]
 iterate 2 refine oA hU ?_
 refine S0<|ogW a0v d0n ?_
 simp only[a0v,D1,Try.f20,zz,Nat.reduceAdd]
 refine oT ?_
 refine oA hU ?_
 (refine oW fun dd K hK=>?_;go_simp;refine hK _ _ ⟨⟨⟨0,K6 (fun k=>Q2 hU (show nn≤w.heap.size+2 by omega)) _ _ _⟩,fun e he=>by(have hm:=mem_listed he;clear he hK;simp[go_sem,storedEv]at hm;rcases hm with rfl|rfl|rfl<;>exact U0 _ _ ((fun k=>Q2 hU (show nn≤w.heap.size+2 by omega)) _))⟩,?_⟩;clear hK K;simp only[setCell_at'];refine J0.at ?_ dd)
 have e1:=D9 ((w.alloc (.cells #[vI 2,vI a,vI b,vI c0] 47)).alloc (.cells #[.bool false,vI 0,.slice none 0 0] 44)) (.bool false) (vI 0) (.slice none 0 0) (.bool true) (vI 0) (.slice none 0 0)
 have e2:((w.alloc (.cells #[vI 2,vI a,vI b,vI c0] 47)).alloc (.cells #[.bool false,vI 0,.slice none 0 0] 44)).heap.size=w.heap.size+2:=d0L _ _ _
 rw[e2]at e1
 rw[e1]
 clear e1 e2
 refine S0<|ogV e0z M6<|ogW a0w d0l ?_
 simp only[a0w,D1,Try.f20,zz,Nat.reduceAdd]
 refine oT ?_
 refine oL ?_
 refine S0 ?_
 rw[c0Q]
 refine L7<|ogW a0x b0W ?_
 simp only[a0x,D1,Try.f20,zz,Nat.reduceAdd]
 iterate 2 refine oT ?_
 refine S0<|ogGn f01<|ogW b0C c0R ?_
 simp only[b0C,D1,Try.f20,zz,Nat.reduceAdd]
 iterate 2 refine oT ?_
 refine S0<|ogYn f00 ?_
 refine h _ ?_
 exact⟨rfl,rfl,rfl,rfl,rfl,rfl,rfl,trivial⟩
theorem w0O{sv:Value}{main:Bool}{sb:Option Nat}{m:Nat}{X:Nat→World→Prop}{ls:SS}{lb n pb ab rb:Nat}{a b c0:Int}(S:R7 sv main sb X)(h:J7 lb sb X w ls m w)(hsb:∀b,sb=some b→¬SR lb ls b)(hsbl:∀b,sb=some b→b<w.heap.size)(hev:ls.k.ver.tmod 2=0)(hm:m+32<4611686018427387904)(hn16:n≤16)(hs:g8 pb 2 a b c0 w)(ha:w.heap[ab]? =some (.cells #[.bool true,vI 0,.slice none 0 0] 44 (0,0)))(hb:Ans w rb)(hne:ab≠rb)
 (hpn:some pb≠sb∧pb≠lb∧pb≠ls.wb) (hna:some ab≠sb∧ab≠lb∧ab≠ls.wb) (hnr:some rb≠sb∧rb≠lb∧rb≠ls.wb) {A:Array Value} (hA:G0 67 A [(0,vP lb 0),(1,sv),(3,vI (n:Nat)),(6,vP pb 0),(8,vP rb 0),(9,vP ab 0)]) {c:Frame} {cs:List Frame} {Stop:Goroutine→World→Prop}
 (K:∀w2 w3,J7 lb sb X w ⟨ls.k.wrote 2 (V2 n b c0),ls.wb,ls.wo⟩ (m+ls.n+3) w2→e0b w2 w3 ab rb→J0 Try.prog main F0 Stop (G (c.finish (.agg #[.bool true,vI 0,.slice none 0 0])) cs) w3):
 J0 Try.prog main F0 Stop (G (bA 20 A [.code f00,.inBlock 0,.code M6]) (c::cs)) w:=by
 have hne2:=Ne.symm hne
 have hpl:pb<w.heap.size:=(Array.getElem?_eq_some_iff.1 hs.o).1
 have hal:ab<w.heap.size:=(Q3 ha)
 have hrl:rb<w.heap.size:=by
  obtain⟨_,_,_,h1⟩:=hb.o
  exact(Q3 h1)
 have hs0:=hs
 have hS:∀w d,g8 pb 2 a b c0 w→g8 pb 2 a b c0 (World.at w d):=fun w d h=>h.at d
 obtain⟨s,rfl,h0,h1,h3,h6,h8,h9,_⟩:=Y3 e0v hA
 simp only[e0v,h0,h1,h3,h6,h8,h9]
 clear h0 h1 h3 h6 h8 h9
 rw[w0T]
 refine T8 (g8 pb 2 a b c0) (last:=9) x4 (z8 (by kernel_rfl)) (by decide) ?_
 simp only[f00,D1,Try.f20,zz,Nat.reduceAdd]
 refine c9 0 (vP lb 0) hS hs ?_
 walk_nrm
 refine c9 1 sv hS hs ?_
 walk_nrm
 refine c9 2 (vP pb 1) hS hs ?_
 walk_nrm
 refine V9 3 (vI a) (fun u hu=>hu.f1) hS hs ?_
 walk_nrm
 refine V9 4 (.agg #[vI 2,vI a,vI b,vI c0]) (fun u hu=>(And.intro hu.f0 (And.intro hu.f1 (And.intro hu.f2 hu.f3)))) hS hs ?_
 walk_nrm
 refine c9 5 (vI (n:Nat)) hS hs ?_
 walk_nrm
 refine Z2 (r:=[6]) (by kernel_rfl) (by kernel_rfl) (fun j1 hj1 hjl=>?_)
 obtain rfl:j1=6:=by simpa using hj1
 refine⟨_,rfl,.inr (.inr ⟨rfl,55,#[.agg #[vI 2,vI a,vI b,vI c0],vI (n:Nat)],fun v w'=>X9 w w' v (V2 n b c0),fun w=>by simp[execOp,Act.eval,resolve,invoke,Deferred.ofValue,callable55.run],fun w=>by simp[execOp,Act.eval,resolve,invoke,Deferred.ofValue,callable55.run,callable55.quiet],fun c cs Stop k=>g0i hn16 fun w1 v hV=>k _ _ hV,?_⟩)⟩
 rintro v w1 hV
 refine⟨⟨(hV.old _ hpl).trans hs.o⟩,?_⟩
 have hs1:g8 pb 2 a b c0 w1:=⟨(hV.old _ hpl).trans hs.o⟩
 clear hs
 have hs:=hs1
 have hrow:=hV.row
 rw[G5]at hrow
 obtain⟨va,vl,vc,hv⟩:=F3 hrow
 subst hv
 obtain rfl:vl=n:=by
  rcases hrow.2 with⟨e,h⟩|⟨_,_,_,e,_⟩
  ·cases e;exact h.symm
  ·cases e;rfl
 have a1:J7 lb sb X w ls m w1:=h.grow S hV.size (fun r hr=>hV.old r hr) (fun r hr=>hV.old r (h.u.low hr)) (fun b hb _=>hV.old b (hsbl b hb))
 walk_nrm
 refine Z2 (r:=[7]) (by kernel_rfl) (by kernel_rfl) (fun j1 hj1 hjl=>?_)
 obtain rfl:j1=7:=by simpa using hj1
 refine⟨_,rfl,.inr (.inr ⟨rfl,25,#[vP lb 0,sv,vI a,.slice va vl vc],fun v w'=>v= .bool true∧J7 lb sb X w ⟨ls.k.wrote 2 (V2 vl b c0),ls.wb,ls.wo⟩ (m+ls.n+3) w',fun w=>by simp[execOp,Act.eval,resolve,invoke,Deferred.ofValue,callable25.run],fun w=>by simp[execOp,Act.eval,resolve,invoke,Deferred.ofValue,callable25.run,callable25.quiet],fun c cs Stop k=>(by
  have hk:=b0H (a:=a) (vc:=vc) (c:=c) (cs:=cs) (Stop:=Stop) S a1 hsb hev hm (vs:=V2 vl b c0) (.of_row hV.row) (fun y hy=>by
   subst hy
   have h1:=hV.new _ rfl
   have h2:=h.u.low (r:=lb) (.inl rfl)
   have h3:=h.u.low (r:=ls.wb) (.inr rfl)
   exact⟨by omega,by omega,fun e=>by have:=hsbl _ e.symm;omega⟩) (fun w2 a2=>k _ _ ⟨rfl,a2⟩)
  rw[G5]at hk
  exact hk),?_⟩)⟩
 rintro v w2 ⟨hvb,a2⟩
 subst hvb
 have hs2:g8 pb 2 a b c0 w2:=⟨(a2.o _ hpl hpn.1 hpn.2.1 hpn.2.2).trans hs0.o⟩
 refine⟨hs2,?_⟩
 clear hs hs1
 have hs:=hs2
 walk_nrm
 refine c9 8 (vP ab 0) hS hs ?_
 walk_nrm
 refine F9 (by kernel_rfl) ?_ _
 have hab:=a2.o ab hal hna.1 hna.2.1 hna.2.2
 have c0x:=(V1 (hab.trans ha) (j:=0) rfl).1
 have c1x:=(V1 (hab.trans ha) (j:=1) rfl).1
 have c2x:=(V1 (hab.trans ha) (j:=2) rfl).1
 have z0:=(V1 (hab.trans ha) (j:=0) rfl).2
 have z1:=(V1 (hab.trans ha) (j:=1) rfl).2
 have z2:=(V1 (hab.trans ha) (j:=2) rfl).2
 obtain⟨y0v,y1v,y2v,hrb0⟩:=hb.o
 have hrb:=(a2.o rb hrl hnr.1 hnr.2.1 hnr.2.2).trans hrb0
 have d0:=(V1 hrb (j:=0) rfl).1
 have y0:=(V1 hrb (j:=0) rfl).2
 have d1:=(V1 hrb (j:=1) rfl).1
 have y1:=(V1 hrb (j:=1) rfl).2
 have d2:=(V1 hrb (j:=2) rfl).1
 have y2:=(V1 hrb (j:=2) rfl).2
 (refine oW fun dd K hK=>?_;go_simp;refine hK _ _ ⟨⟨⟨0,i1 rfl (o7 _) _⟩,fun e he=>by(have hm:=mem_listed he;clear he hK;simp[go_sem,storedEv,c0x,z0]at hm;subst hm;exact U0 _ _ (o7 _))⟩,?_⟩;clear hK K;simp only[setCell_at'];refine J0.at ?_ dd)
 refine S0<|ogI<|ogW w9 .ret ?_
 simp only[w9,D1,Try.f20,zz,Nat.reduceAdd]
 (refine oW fun dd K hK=>?_;go_simp;refine hK _ _ ⟨⟨⟨0,V3.refl _ _⟩,fun e he=>by(have hm:=mem_listed he;clear he hK;simp[go_sem,c0x,c1x,c2x,z0,z1,z2,d0,d1,d2,y0,y1,y2,hne,hne2]at hm;rcases hm with rfl|rfl|rfl<;>exact I1 _ _)⟩,J0.at ?_ dd⟩;clear hK K)
 (refine oW fun dd K hK=>?_;go_simp;refine hK _ _ ⟨⟨⟨0,K6 (fun k=>o7 _) _ _ _⟩,fun e he=>by(have hm:=mem_listed he;clear he hK;simp[go_sem,storedEv,c0x,c1x,c2x,z0,z1,z2,d0,d1,d2,y0,y1,y2,hne,hne2]at hm;rcases hm with rfl|rfl|rfl<;>exact U0 _ _ ((fun k=>o7 _) _))⟩,?_⟩;clear hK K;simp only[setCell_at'];refine J0.at ?_ dd)
 refine S0<|ogX ?_
 refine p4 (fn:=Try.f20) (v:=.agg #[.bool true,vI 0,.slice none 0 0]) rfl rfl Try.func20 (fun d=>by simp[results,Try.f20,go_sem,c0x,c1x,c2x,z0,z1,z2,d0,d1,d2,y0,y1,y2,hne,hne2]) (fun d e he=>by(simp[results,Try.f20,go_sem,c0x,c1x,c2x,z0,z1,z2,d0,d1,d2,y0,y1,y2,hne,hne2]at he;rcases he with rfl|rfl|rfl<;>exact I1 _ _)) ?_
 exact K w2 _ a2 ⟨by simp,fun r h1 h2=>by simp[B4 h1,B4 h2]⟩
end
section
variable{w w' w0:World}{lb:Nat}
def R1.call1(s:R1)(n:Nat)(o:P3):R1×SAn×Nat:=
 if o.kd=1 then(s.wrote 1 (V2 n o.b o.c),(true,0,[]),s.ws.length+3)
 else if o.kd=2 then(s.wrote 2 (V2 n o.b o.c),(true,0,[]),s.ws.length+3)
 else if o.kd=3 then(s,(true,0,s.ws),s.ws.length+2)
 else if o.kd=4 then(s,(true,0,s.ws),s.ws.length)
 else if o.kd=5 then(s,(decide (o.a<s.ver),s.ver,[]),1)
 else(s,(false,0,[]),0)
section
variable{sv:Value}{main:Bool}{sb:Option Nat}{m:Nat}{X:Nat→World→Prop}{s s':SS}
theorem J7.fin{W3 w2 w3:World}{ab rb m':Nat}(S:R7 sv main sb X)(h:J7 lb sb X W3 s' m' w2)(hs0:w.heap.size≤W3.heap.size)(ho0:∀r,r<w.heap.size→W3.heap[r]? =w.heap[r]?)(hw:e0b w2 w3 ab rb)(hab:w.heap.size≤ab)(hrb:w.heap.size≤rb)(hl:∀r,SR lb s' r→r<w.heap.size)(hsbl:∀b,sb=some b→b<w.heap.size):J7 lb sb X w s' m' w3:=by
 have hz:=h.sz
 exact⟨h.u.same fun r hr=>hw.old r (by have:=hl r hr;omega) (by have:=hl r hr;omega),S.keep m' _ _ h.x fun b hb _=>hw.old b (by have:=hsbl b hb;omega) (by have:=hsbl b hb;omega),by rw[hw.size];omega,fun r hr h1 h2 h3=>(hw.old r (by omega) (by omega)).trans ((h.o r (by omega) h1 h2 h3).trans (ho0 r hr))⟩
theorem d04(x:SAn)(hx:x.2.2=[]):SAU ⟨x,none,0,0⟩ w:=by
 unfold SAU
 rw[hx]
 exact World.ownsRow_nil _ _ _ _
theorem g0j(S:R7 sv main sb X)(h:J7 lb sb X w s m w)(hsb:∀b,sb=some b→¬SR lb s b)(hsbl:∀b,sb=some b→b<w.heap.size)(hev:s.k.ver.tmod 2=0)(hm:m+64<4611686018427387904){n:Nat}(hn:n=s.n){kd a b c0:Int}{c:Frame}{cs:List Frame}{Stop:Goroutine→World→Prop}
 (K:∀w' la ll lc,J7 lb sb X w ⟨(s.k.call1 n ⟨kd,a,b,c0⟩).1,s.wb,s.wo⟩ (m+(s.k.call1 n ⟨kd,a,b,c0⟩).2.2) w'→SAU ⟨(s.k.call1 n ⟨kd,a,b,c0⟩).2.1,la,ll,lc⟩ w'→(∀g,(Value.slice la ll lc).ownBlock=some g→w.heap.size≤g)→J0 Try.prog main F0 Stop (G (c.finish (.agg #[.bool (s.k.call1 n ⟨kd,a,b,c0⟩).2.1.1,vI (s.k.call1 n ⟨kd,a,b,c0⟩).2.1.2.1,.slice la ll lc])) cs) w'):
 J0 Try.prog main F0 Stop (G (Frame.enter Try.prog 20 #[vP lb 0,sv,.agg #[vI kd,vI a,vI b,vI c0],vI (n:Nat)] .normal) (c::cs)) w:=by
 have hn16:s.n≤16:=h.u.wf.n2
 have hl1:=h.u.low (r:=lb) (.inl rfl)
 have hl2:=h.u.low (r:=s.wb) (.inr rfl)
 have hlow:∀r,r=lb∨r=s.wb→r<w.heap.size:=fun r hr=>by rcases hr with rfl|rfl<;>assumption
 by_cases h1:kd=1
 ·subst h1
  refine w0I J1 (Nat.zero_le _) fun A hA=>?_
  have hs3:(((w.alloc (.cells #[vI 1,vI a,vI b,vI c0] 47)).alloc (.cells #[.bool false,vI 0,.slice none 0 0] 44)).alloc (.cells #[.bool true,vI 0,.slice none 0 0] 44)).heap.size=w.heap.size+3:=by simp
  have ho3:∀r,r<w.heap.size→(((w.alloc (.cells #[vI 1,vI a,vI b,vI c0] 47)).alloc (.cells #[.bool false,vI 0,.slice none 0 0] 44)).alloc (.cells #[.bool true,vI 0,.slice none 0 0] 44)).heap[r]? =w.heap[r]?:=fun r hr=>by
   rw[D0 _ _ (by simp;omega),D0 _ _ (by simp;omega),D0 _ _ hr]
  have hob:(((w.alloc (.cells #[vI 1,vI a,vI b,vI c0] 47)).alloc (.cells #[.bool false,vI 0,.slice none 0 0] 44)).alloc (.cells #[.bool true,vI 0,.slice none 0 0] 44)).heap[w.heap.size]? =some (.cells #[vI 1,vI a,vI b,vI c0] 47 (0,0)):=by
   rw[D0 _ _ (by simp;omega),D0 _ _ (by simp)]
   exact heap_alloc_new _ _
  have hrb:(((w.alloc (.cells #[vI 1,vI a,vI b,vI c0] 47)).alloc (.cells #[.bool false,vI 0,.slice none 0 0] 44)).alloc (.cells #[.bool true,vI 0,.slice none 0 0] 44)).heap[w.heap.size+1]? =some (.cells #[.bool false,vI 0,.slice none 0 0] 44 (0,0)):=by
   rw[D0 _ _ (by simp)]
   exact R5 (by simp) _
  have hab:(((w.alloc (.cells #[vI 1,vI a,vI b,vI c0] 47)).alloc (.cells #[.bool false,vI 0,.slice none 0 0] 44)).alloc (.cells #[.bool true,vI 0,.slice none 0 0] 44)).heap[w.heap.size+2]? =some (.cells #[.bool true,vI 0,.slice none 0 0] 44 (0,0)):=R5 (by simp) _
  have a3:J7 lb sb X (((w.alloc (.cells #[vI 1,vI a,vI b,vI c0] 47)).alloc (.cells #[.bool false,vI 0,.slice none 0 0] 44)).alloc (.cells #[.bool true,vI 0,.slice none 0 0] 44)) s m (((w.alloc (.cells #[vI 1,vI a,vI b,vI c0] 47)).alloc (.cells #[.bool false,vI 0,.slice none 0 0] 44)).alloc (.cells #[.bool true,vI 0,.slice none 0 0] 44)):=by
   have:=h.grow S (w':=(((w.alloc (.cells #[vI 1,vI a,vI b,vI c0] 47)).alloc (.cells #[.bool false,vI 0,.slice none 0 0] 44)).alloc (.cells #[.bool true,vI 0,.slice none 0 0] 44))) (by omega) (fun r hr=>ho3 r hr) (fun r hr=>ho3 r (h.u.low hr)) (fun b hb _=>ho3 b (hsbl b hb))
   exact⟨this.u,this.x,Nat.le_refl _,fun _ _ _ _ _=>rfl⟩
  generalize (((w.alloc (.cells #[vI 1,vI a,vI b,vI c0] 47)).alloc (.cells #[.bool false,vI 0,.slice none 0 0] 44)).alloc (.cells #[.bool true,vI 0,.slice none 0 0] 44))=W at hs3 ho3 hob hrb hab a3 ⊢
  subst hn
  refine w0N S a3 hsb (fun b hb=>by have:=hsbl b hb;omega) hev (by omega) hn16 ⟨hob⟩ hab ⟨_,_,_,hrb⟩ (by omega) ⟨fun e=>by have:=hsbl _ e.symm;omega,by omega,by omega⟩ ⟨fun e=>by have:=hsbl _ e.symm;omega,by omega,by omega⟩ ⟨fun e=>by have:=hsbl _ e.symm;omega,by omega,by omega⟩ hA fun w2 w3 a2 hw=>?_
  refine K w3 none 0 0 ?_ (d04 _ (by simp[R1.call1])) (fun g hg=>by simp[Value.ownBlock]at hg)
  have:=a2.fin S (by omega) ho3 hw (by omega) (by omega) hlow hsbl
  simpa [R1.call1,SS.n,Nat.add_assoc]using this
 by_cases h2:kd=2
 ·subst h2
  refine w0J J1 (Nat.zero_le _) fun A hA=>?_
  have hs3:(((w.alloc (.cells #[vI 2,vI a,vI b,vI c0] 47)).alloc (.cells #[.bool false,vI 0,.slice none 0 0] 44)).alloc (.cells #[.bool true,vI 0,.slice none 0 0] 44)).heap.size=w.heap.size+3:=by simp
  have ho3:∀r,r<w.heap.size→(((w.alloc (.cells #[vI 2,vI a,vI b,vI c0] 47)).alloc (.cells #[.bool false,vI 0,.slice none 0 0] 44)).alloc (.cells #[.bool true,vI 0,.slice none 0 0] 44)).heap[r]? =w.heap[r]?:=fun r hr=>by
   rw[D0 _ _ (by simp;omega),D0 _ _ (by simp;omega),D0 _ _ hr]
  have hob:(((w.alloc (.cells #[vI 2,vI a,vI b,vI c0] 47)).alloc (.cells #[.bool false,vI 0,.slice none 0 0] 44)).alloc (.cells #[.bool true,vI 0,.slice none 0 0] 44)).heap[w.heap.size]? =some (.cells #[vI 2,vI a,vI b,vI c0] 47 (0,0)):=by
   rw[D0 _ _ (by simp;omega),D0 _ _ (by simp)]
   exact heap_alloc_new _ _
  have hrb:(((w.alloc (.cells #[vI 2,vI a,vI b,vI c0] 47)).alloc (.cells #[.bool false,vI 0,.slice none 0 0] 44)).alloc (.cells #[.bool true,vI 0,.slice none 0 0] 44)).heap[w.heap.size+1]? =some (.cells #[.bool false,vI 0,.slice none 0 0] 44 (0,0)):=by
   rw[D0 _ _ (by simp)]
   exact R5 (by simp) _
  have hab:(((w.alloc (.cells #[vI 2,vI a,vI b,vI c0] 47)).alloc (.cells #[.bool false,vI 0,.slice none 0 0] 44)).alloc (.cells #[.bool true,vI 0,.slice none 0 0] 44)).heap[w.heap.size+2]? =some (.cells #[.bool true,vI 0,.slice none 0 0] 44 (0,0)):=R5 (by simp) _
  have a3:J7 lb sb X (((w.alloc (.cells #[vI 2,vI a,vI b,vI c0] 47)).alloc (.cells #[.bool false,vI 0,.slice none 0 0] 44)).alloc (.cells #[.bool true,vI 0,.slice none 0 0] 44)) s m (((w.alloc (.cells #[vI 2,vI a,vI b,vI c0] 47)).alloc (.cells #[.bool false,vI 0,.slice none 0 0] 44)).alloc (.cells #[.bool true,vI 0,.slice none 0 0] 44)):=by
   have:=h.grow S (w':=(((w.alloc (.cells #[vI 2,vI a,vI b,vI c0] 47)).alloc (.cells #[.bool false,vI 0,.slice none 0 0] 44)).alloc (.cells #[.bool true,vI 0,.slice none 0 0] 44))) (by omega) (fun r hr=>ho3 r hr) (fun r hr=>ho3 r (h.u.low hr)) (fun b hb _=>ho3 b (hsbl b hb))
   exact⟨this.u,this.x,Nat.le_refl _,fun _ _ _ _ _=>rfl⟩
  generalize (((w.alloc (.cells #[vI 2,vI a,vI b,vI c0] 47)).alloc (.cells #[.bool false,vI 0,.slice none 0 0] 44)).alloc (.cells #[.bool true,vI 0,.slice none 0 0] 44))=W at hs3 ho3 hob hrb hab a3 ⊢
  subst hn
  refine w0O S a3 hsb (fun b hb=>by have:=hsbl b hb;omega) hev (by omega) hn16 ⟨hob⟩ hab ⟨_,_,_,hrb⟩ (by omega) ⟨fun e=>by have:=hsbl _ e.symm;omega,by omega,by omega⟩ ⟨fun e=>by have:=hsbl _ e.symm;omega,by omega,by omega⟩ ⟨fun e=>by have:=hsbl _ e.symm;omega,by omega,by omega⟩ hA fun w2 w3 a2 hw=>?_
  refine K w3 none 0 0 ?_ (d04 _ (by simp[R1.call1])) (fun g hg=>by simp[Value.ownBlock]at hg)
  have:=a2.fin S (by omega) ho3 hw (by omega) (by omega) hlow hsbl
  simpa [R1.call1,SS.n,Nat.add_assoc]using this
 by_cases h3:kd=3
 ·subst h3
  refine w0K J1 (Nat.zero_le _) fun A hA=>?_
  have hs3:(((w.alloc (.cells #[vI 3,vI a,vI b,vI c0] 47)).alloc (.cells #[.bool false,vI 0,.slice none 0 0] 44)).alloc (.cells #[.bool true,vI 0,.slice none 0 0] 44)).heap.size=w.heap.size+3:=by simp
  have ho3:∀r,r<w.heap.size→(((w.alloc (.cells #[vI 3,vI a,vI b,vI c0] 47)).alloc (.cells #[.bool false,vI 0,.slice none 0 0] 44)).alloc (.cells #[.bool true,vI 0,.slice none 0 0] 44)).heap[r]? =w.heap[r]?:=fun r hr=>by
   rw[D0 _ _ (by simp;omega),D0 _ _ (by simp;omega),D0 _ _ hr]
  have hob:(((w.alloc (.cells #[vI 3,vI a,vI b,vI c0] 47)).alloc (.cells #[.bool false,vI 0,.slice none 0 0] 44)).alloc (.cells #[.bool true,vI 0,.slice none 0 0] 44)).heap[w.heap.size]? =some (.cells #[vI 3,vI a,vI b,vI c0] 47 (0,0)):=by
   rw[D0 _ _ (by simp;omega),D0 _ _ (by simp)]
   exact heap_alloc_new _ _
  have hrb:(((w.alloc (.cells #[vI 3,vI a,vI b,vI c0] 47)).alloc (.cells #[.bool false,vI 0,.slice none 0 0] 44)).alloc (.cells #[.bool true,vI 0,.slice none 0 0] 44)).heap[w.heap.size+1]? =some (.cells #[.bool false,vI 0,.slice none 0 0] 44 (0,0)):=by
   rw[D0 _ _ (by simp)]
   exact R5 (by simp) _
  have hab:(((w.alloc (.cells #[vI 3,vI a,vI b,vI c0] 47)).alloc (.cells #[.bool false,vI 0,.slice none 0 0] 44)).alloc (.cells #[.bool true,vI 0,.slice none 0 0] 44)).heap[w.heap.size+2]? =some (.cells #[.bool true,vI 0,.slice none 0 0] 44 (0,0)):=R5 (by simp) _
  have a3:J7 lb sb X (((w.alloc (.cells #[vI 3,vI a,vI b,vI c0] 47)).alloc (.cells #[.bool false,vI 0,.slice none 0 0] 44)).alloc (.cells #[.bool true,vI 0,.slice none 0 0] 44)) s m (((w.alloc (.cells #[vI 3,vI a,vI b,vI c0] 47)).alloc (.cells #[.bool false,vI 0,.slice none 0 0] 44)).alloc (.cells #[.bool true,vI 0,.slice none 0 0] 44)):=by
   have:=h.grow S (w':=(((w.alloc (.cells #[vI 3,vI a,vI b,vI c0] 47)).alloc (.cells #[.bool false,vI 0,.slice none 0 0] 44)).alloc (.cells #[.bool true,vI 0,.slice none 0 0] 44))) (by omega) (fun r hr=>ho3 r hr) (fun r hr=>ho3 r (h.u.low hr)) (fun b hb _=>ho3 b (hsbl b hb))
   exact⟨this.u,this.x,Nat.le_refl _,fun _ _ _ _ _=>rfl⟩
  generalize (((w.alloc (.cells #[vI 3,vI a,vI b,vI c0] 47)).alloc (.cells #[.bool false,vI 0,.slice none 0 0] 44)).alloc (.cells #[.bool true,vI 0,.slice none 0 0] 44))=W at hs3 ho3 hob hrb hab a3 ⊢
  refine d0A S a3 hsb (fun b hb=>by have:=hsbl b hb;omega) hev (by omega) fun W4 ov a4 hr hs4 ho4=>?_
  obtain⟨la,ll,lc,hov⟩:=F3 hr.row
  subst hov
  have eab:=a4.o (w.heap.size+2) (by omega) (fun e=>by have:=hsbl _ e.symm;omega) (by omega) (by omega)
  have erb:=a4.o (w.heap.size+1) (by omega) (fun e=>by have:=hsbl _ e.symm;omega) (by omega) (by omega)
  have hab4:=eab.trans hab
  have hrb4:=erb.trans hrb
  refine w0P ⟨(V1 hab4 (j:=0) rfl).1,(V1 hab4 (j:=1) rfl).1,(V1 hab4 (j:=2) rfl).1,fun k=>by simp[World.frozen?,hab4]⟩ ⟨_,_,_,hrb4⟩ (by omega) (fun _=>o7 _) (fun _=>o7 _) hA fun w3 hw=>?_
  refine K w3 la ll lc ?_ ?_ (fun g hg=>by have:=hr.blk g hg;omega)
  ·have:=a4.fin S (by omega) ho3 hw (by omega) (by omega) hlow hsbl
   simpa [R1.call1,SS.n,Nat.add_assoc]using this
  ·show SAU ⟨(s.k.call1 n ⟨3,a,b,c0⟩).2.1,la,ll,lc⟩ w3
   have e:(s.k.call1 n ⟨3,a,b,c0⟩).2.1=(true,0,s.k.ws):=by simp[R1.call1]
   rw[e]
   exact K0 hr.row fun g hg _=>hw.old g (fun e=>by have:=hr.blk g hg;omega) (fun e=>by have:=hr.blk g hg;omega)
 by_cases h4:kd=4
 ·subst h4
  refine w0L J1 (Nat.zero_le _) fun A hA=>?_
  have hs3:(((w.alloc (.cells #[vI 4,vI a,vI b,vI c0] 47)).alloc (.cells #[.bool false,vI 0,.slice none 0 0] 44)).alloc (.cells #[.bool true,vI 0,.slice none 0 0] 44)).heap.size=w.heap.size+3:=by simp
  have ho3:∀r,r<w.heap.size→(((w.alloc (.cells #[vI 4,vI a,vI b,vI c0] 47)).alloc (.cells #[.bool false,vI 0,.slice none 0 0] 44)).alloc (.cells #[.bool true,vI 0,.slice none 0 0] 44)).heap[r]? =w.heap[r]?:=fun r hr=>by
   rw[D0 _ _ (by simp;omega),D0 _ _ (by simp;omega),D0 _ _ hr]
  have hob:(((w.alloc (.cells #[vI 4,vI a,vI b,vI c0] 47)).alloc (.cells #[.bool false,vI 0,.slice none 0 0] 44)).alloc (.cells #[.bool true,vI 0,.slice none 0 0] 44)).heap[w.heap.size]? =some (.cells #[vI 4,vI a,vI b,vI c0] 47 (0,0)):=by
   rw[D0 _ _ (by simp;omega),D0 _ _ (by simp)]
   exact heap_alloc_new _ _
  have hrb:(((w.alloc (.cells #[vI 4,vI a,vI b,vI c0] 47)).alloc (.cells #[.bool false,vI 0,.slice none 0 0] 44)).alloc (.cells #[.bool true,vI 0,.slice none 0 0] 44)).heap[w.heap.size+1]? =some (.cells #[.bool false,vI 0,.slice none 0 0] 44 (0,0)):=by
   rw[D0 _ _ (by simp)]
   exact R5 (by simp) _
  have hab:(((w.alloc (.cells #[vI 4,vI a,vI b,vI c0] 47)).alloc (.cells #[.bool false,vI 0,.slice none 0 0] 44)).alloc (.cells #[.bool true,vI 0,.slice none 0 0] 44)).heap[w.heap.size+2]? =some (.cells #[.bool true,vI 0,.slice none 0 0] 44 (0,0)):=R5 (by simp) _
  have a3:J7 lb sb X (((w.alloc (.cells #[vI 4,vI a,vI b,vI c0] 47)).alloc (.cells #[.bool false,vI 0,.slice none 0 0] 44)).alloc (.cells #[.bool true,vI 0,.slice none 0 0] 44)) s m (((w.alloc (.cells #[vI 4,vI a,vI b,vI c0] 47)).alloc (.cells #[.bool false,vI 0,.slice none 0 0] 44)).alloc (.cells #[.bool true,vI 0,.slice none 0 0] 44)):=by
   have:=h.grow S (w':=(((w.alloc (.cells #[vI 4,vI a,vI b,vI c0] 47)).alloc (.cells #[.bool false,vI 0,.slice none 0 0] 44)).alloc (.cells #[.bool true,vI 0,.slice none 0 0] 44))) (by omega) (fun r hr=>ho3 r hr) (fun r hr=>ho3 r (h.u.low hr)) (fun b hb _=>ho3 b (hsbl b hb))
   exact⟨this.u,this.x,Nat.le_refl _,fun _ _ _ _ _=>rfl⟩
  generalize (((w.alloc (.cells #[vI 4,vI a,vI b,vI c0] 47)).alloc (.cells #[.bool false,vI 0,.slice none 0 0] 44)).alloc (.cells #[.bool true,vI 0,.slice none 0 0] 44))=W at hs3 ho3 hob hrb hab a3 ⊢
  refine b06 S a3 hsb (fun b hb=>by have:=hsbl b hb;omega) (by omega) fun W4 ov a4 hr hs4 ho4=>?_
  obtain⟨la,ll,lc,hov⟩:=F3 hr.row
  subst hov
  have eab:=a4.o (w.heap.size+2) (by omega) (fun e=>by have:=hsbl _ e.symm;omega) (by omega) (by omega)
  have erb:=a4.o (w.heap.size+1) (by omega) (fun e=>by have:=hsbl _ e.symm;omega) (by omega) (by omega)
  have hab4:=eab.trans hab
  have hrb4:=erb.trans hrb
  refine w0Q ⟨(V1 hab4 (j:=0) rfl).1,(V1 hab4 (j:=1) rfl).1,(V1 hab4 (j:=2) rfl).1,fun k=>by simp[World.frozen?,hab4]⟩ ⟨_,_,_,hrb4⟩ (by omega) (fun _=>o7 _) (fun _=>o7 _) hA fun w3 hw=>?_
  refine K w3 la ll lc ?_ ?_ (fun g hg=>by have:=hr.blk g hg;omega)
  ·have:=a4.fin S (by omega) ho3 hw (by omega) (by omega) hlow hsbl
   simpa [R1.call1,SS.n,Nat.add_assoc]using this
  ·show SAU ⟨(s.k.call1 n ⟨4,a,b,c0⟩).2.1,la,ll,lc⟩ w3
   have e:(s.k.call1 n ⟨4,a,b,c0⟩).2.1=(true,0,s.k.ws):=by simp[R1.call1]
   rw[e]
   exact K0 hr.row fun g hg _=>hw.old g (fun e=>by have:=hr.blk g hg;omega) (fun e=>by have:=hr.blk g hg;omega)
 by_cases h5:kd=5
 ·subst h5
  refine w0M J1 (Nat.zero_le _) fun A hA=>?_
  have hs3:(((w.alloc (.cells #[vI 5,vI a,vI b,vI c0] 47)).alloc (.cells #[.bool false,vI 0,.slice none 0 0] 44)).alloc (.cells #[.bool true,vI 0,.slice none 0 0] 44)).heap.size=w.heap.size+3:=by simp
  have ho3:∀r,r<w.heap.size→(((w.alloc (.cells #[vI 5,vI a,vI b,vI c0] 47)).alloc (.cells #[.bool false,vI 0,.slice none 0 0] 44)).alloc (.cells #[.bool true,vI 0,.slice none 0 0] 44)).heap[r]? =w.heap[r]?:=fun r hr=>by
   rw[D0 _ _ (by simp;omega),D0 _ _ (by simp;omega),D0 _ _ hr]
  have hob:(((w.alloc (.cells #[vI 5,vI a,vI b,vI c0] 47)).alloc (.cells #[.bool false,vI 0,.slice none 0 0] 44)).alloc (.cells #[.bool true,vI 0,.slice none 0 0] 44)).heap[w.heap.size]? =some (.cells #[vI 5,vI a,vI b,vI c0] 47 (0,0)):=by
   rw[D0 _ _ (by simp;omega),D0 _ _ (by simp)]
   exact heap_alloc_new _ _
  have hrb:(((w.alloc (.cells #[vI 5,vI a,vI b,vI c0] 47)).alloc (.cells #[.bool false,vI 0,.slice none 0 0] 44)).alloc (.cells #[.bool true,vI 0,.slice none 0 0] 44)).heap[w.heap.size+1]? =some (.cells #[.bool false,vI 0,.slice none 0 0] 44 (0,0)):=by
   rw[D0 _ _ (by simp)]
   exact R5 (by simp) _
  have hab:(((w.alloc (.cells #[vI 5,vI a,vI b,vI c0] 47)).alloc (.cells #[.bool false,vI 0,.slice none 0 0] 44)).alloc (.cells #[.bool true,vI 0,.slice none 0 0] 44)).heap[w.heap.size+2]? =some (.cells #[.bool true,vI 0,.slice none 0 0] 44 (0,0)):=R5 (by simp) _
  have a3:J7 lb sb X (((w.alloc (.cells #[vI 5,vI a,vI b,vI c0] 47)).alloc (.cells #[.bool false,vI 0,.slice none 0 0] 44)).alloc (.cells #[.bool true,vI 0,.slice none 0 0] 44)) s m (((w.alloc (.cells #[vI 5,vI a,vI b,vI c0] 47)).alloc (.cells #[.bool false,vI 0,.slice none 0 0] 44)).alloc (.cells #[.bool true,vI 0,.slice none 0 0] 44)):=by
   have:=h.grow S (w':=(((w.alloc (.cells #[vI 5,vI a,vI b,vI c0] 47)).alloc (.cells #[.bool false,vI 0,.slice none 0 0] 44)).alloc (.cells #[.bool true,vI 0,.slice none 0 0] 44))) (by omega) (fun r hr=>ho3 r hr) (fun r hr=>ho3 r (h.u.low hr)) (fun b hb _=>ho3 b (hsbl b hb))
   exact⟨this.u,this.x,Nat.le_refl _,fun _ _ _ _ _=>rfl⟩
  generalize (((w.alloc (.cells #[vI 5,vI a,vI b,vI c0] 47)).alloc (.cells #[.bool false,vI 0,.slice none 0 0] 44)).alloc (.cells #[.bool true,vI 0,.slice none 0 0] 44))=W at hs3 ho3 hob hrb hab a3 ⊢
  refine h0g S a3 hsb (by omega) fun W4 a4=>?_
  have eab:=a4.o (w.heap.size+2) (by omega) (fun e=>by have:=hsbl _ e.symm;omega) (by omega) (by omega)
  have erb:=a4.o (w.heap.size+1) (by omega) (fun e=>by have:=hsbl _ e.symm;omega) (by omega) (by omega)
  have hab4:=eab.trans hab
  have hrb4:=erb.trans hrb
  refine w0R ⟨(V1 hab4 (j:=0) rfl).1,(V1 hab4 (j:=1) rfl).1,(V1 hab4 (j:=2) rfl).1,fun k=>by simp[World.frozen?,hab4]⟩ ⟨_,_,_,hrb4⟩ (by omega) (fun _=>o7 _) (fun _=>o7 _) hA fun w3 hw=>?_
  have e:(s.k.call1 n ⟨5,a,b,c0⟩).2.1=(decide (a<s.k.ver),s.k.ver,[]):=by simp[R1.call1]
  have K':=K w3 none 0 0 ?_ (d04 _ (by simp[R1.call1])) (fun g hg=>by simp[Value.ownBlock]at hg)
  ·rw[e]at K'
   exact K'
  ·have:=a4.fin S (by omega) ho3 hw (by omega) (by omega) hlow hsbl
   simpa [R1.call1,SS.n,Nat.add_assoc]using this
 refine w0H J1 (Nat.zero_le _) (by simpa using h1) (by simpa using h2) (by simpa using h3) (by simpa using h4) (by simpa using h5) fun w3 hs3 ho3=>?_
 have e:(s.k.call1 n ⟨kd,a,b,c0⟩)=(s.k,(false,0,[]),0):=by simp[R1.call1,h1,h2,h3,h4,h5]
 have K':=K w3 none 0 0 ?_ (d04 _ (by rw[e])) (fun g hg=>by simp[Value.ownBlock]at hg)
 ·rw[e]at K'
  exact K'
 ·rw[e]
  exact h.grow S (by omega) (fun r hr=>ho3 r hr) (fun r hr=>ho3 r (h.u.low hr)) (fun b hb _=>ho3 b (hsbl b hb))
end
end
section
section
variable{m:Pl}
inductive c0m(m:Pl):m.S→m.C→Nat→m.S→m.A→Prop
 | done {q q':m.S} {c:m.C} {a:m.A}:m.stp q c=(q',.inr a)→c0m m q c 1 q' a
 | more {q q1 q':m.S} {c c1:m.C} {n:Nat} {a:m.A}:m.stp q c=(q1,.inl c1)→c0m m q1 c1 n q' a→c0m m q c (n+1) q' a
inductive Op1(m:Pl):m.S→P3→Nat→m.S→m.A→Prop
 | imm {q q':m.S} {o:P3} {a:m.A}:m.beg q o=(q',.inr a)→Op1 m q o 0 q' a
 | call {q q1 q':m.S} {o:P3} {c:m.C} {n:Nat} {a:m.A}:m.beg q o=(q1,.inl c)→c0m m q1 c n q' a→Op1 m q o n q' a
inductive m0X(m:Pl):m.S→List P3→Nat→m.S→List m.A→Prop
 | nil {q:m.S}:m0X m q [] 0 q []
 | cons {q q1 q2:m.S} {o:P3} {l:List P3} {n n2:Nat} {a:m.A} {al:List m.A}:Op1 m q o n q1 a→m0X m q1 l n2 q2 al→m0X m q (o::l) (n+n2) q2 (a::al)
def Rem(ops:List P3):Nat→m.S×GT m→m.S→List m.A→Prop
 | 0,r,q2,al=>r.2.call=none∧r.1=q2∧r.2.ans=al
 | n+1,r,q2,al=>r.2.call.isSome=true∧Rem ops n (H8 m ops r.1 r.2) q2 al
theorem t08{ops:List P3}{n2:Nat}{q2:m.S}{al:List m.A}{t:GT m}{q1 q':m.S}{c:m.C}{n:Nat}{a:m.A}(h:c0m m q1 c n q' a)(hr:Rem ops n2 (r6 m (ops.drop (t.k+1)) q' ⟨t.k+1,none,t.ans++[a]⟩) q2 al):Rem ops (n+n2) (q1,{t with call:=some c}) q2 al:=by
 induction h with
 | done h=>
   rw[Nat.add_comm]
   refine⟨rfl,?_⟩
   simp only[H8,h]
   exact hr
 | @more q q1 q' c c1 n a h _ ih=>
   rw[show n+1+n2=(n+n2)+1 by omega]
   refine⟨rfl,?_⟩
   simp only[H8,h]
   exact ih hr
theorem r0W{ops l:List P3}{q q2:m.S}{n:Nat}{al:List m.A}(h:m0X m q l n q2 al):∀t:GT m,t.call=none→ops.drop t.k=l→Rem ops n (r6 m l q t) q2 (t.ans++al):=by
 induction h with
 | nil=>exact fun t h1 h2=>⟨h1,rfl,by simp[r6]⟩
 | @cons q q1 q2 o l n n2 a al ho hr ih=>
   intro t h1 h2
   have h3:ops.drop (t.k+1)=l:=by rw[← List.drop_drop,h2];rfl
   have ih:=ih ⟨t.k+1,none,t.ans++[a]⟩ rfl h3
   simp only[List.append_assoc,List.cons_append,List.nil_append]at ih
   cases ho with
   | imm hb=>
     rw[Nat.zero_add]
     simp only[r6,hb]
     exact ih
   | call hb hs=>
     simp only[r6,hb]
     exact t08 hs (by rw[h3];exact ih)
theorem l0o{s:GS m}:L5 s.live 1=0↔s.live 0=false:=by
 simp[L5]
theorem f0a{ops:Nat→List P3}{M:Nat}{q2:m.S}{al:List m.A}:∀(f n:Nat) (s:GS m) (ord:List Nat),Rem (ops 0) n (s.q,s.th 0) q2 al→n≤f→L5 (Z3 ops 1 M f (s,ord)).1.live 1=0→
 (Z3 ops 1 M f (s,ord)).1.q=q2∧((Z3 ops 1 M f (s,ord)).1.th 0).ans=al∧(Z3 ops 1 M f (s,ord)).2.length=ord.length+n
 | 0,n,s,ord,h,hn,hc=>by
   obtain rfl:n=0:=by omega
   exact⟨h.2.1,h.2.2,rfl⟩
 | f+1,n,s,ord,h,hn,hc=>by
   unfold Z3 at hc ⊢
   by_cases hd:g7 1 M (s,ord)
   ·rw[if_pos hd]at hc ⊢
    cases n with
    | zero=>exact⟨h.2.1,h.2.2,rfl⟩
    | succ n=>
      have h1:(s.th 0).call.isSome=true:=h.1
      have h2:(s.th 0).call.isSome=false:=l0o.1 hc
      rw[h1]at h2
      cases h2
   ·rw[if_neg hd]at hc ⊢
    have hl:s.live 0=true:=by
     cases e:s.live 0 with
     | true=>rfl
     | false=>exact absurd (Or.inl (l0o.2 e)) hd
    have hM:ord.length≠M:=fun e=>hd (.inr (by simp only;omega))
    cases n with
    | zero=>
      have h1:(s.th 0).call=none:=h.1
      have h2:(s.th 0).call.isSome=true:=hl
      rw[h1]at h2
      cases h2
    | succ n=>
      have e:U4 ops 1 M ((List.range 1).map fun j:Nat=>(j:Int)) (s,ord)=(s.put 0 (H8 m (ops 0) s.q (s.th 0)),ord++[0]):=by
       show V7 ops 1 M (s,ord) 0=_
       unfold V7
       rw[if_pos ⟨by omega,by omega,hl,hM⟩]
       rfl
      rw[e]at hc ⊢
      have:=f0a f n (s.put 0 (H8 m (ops 0) s.q (s.th 0))) (ord++[0]) (by simpa [GS.put]using h.2) (by omega) hc
      refine⟨this.1,this.2.1,?_⟩
      rw[this.2.2]
      simp
      omega
theorem p0N{ops:Nat→List P3}{M n:Nat}{s0:GS m}{q2:m.S}{al:List m.A}(h:m0X m s0.q (ops 0) n q2 al)(h0:s0.th 0=⟨0,none,[]⟩){s:GS m}{order:List Nat}(ho:∃k,∀f,k≤f→a0K ops 1 M [] f s0=(s,order))(hc:L5 s.live 1=0):
 s.q=q2∧(s.th 0).ans=al∧order.length=n:=by
 obtain⟨k,hk⟩:=ho
 have e:=hk (max k n) (Nat.le_max_left _ _)
 have hb:N6 m ops 1 s0=s0.put 0 (r6 m (ops 0) s0.q (s0.th 0)):=rfl
 have hr:=r0W (ops:=ops 0) h (s0.th 0) (by rw[h0]) (by rw[h0];rfl)
 have key:=f0a (ops:=ops) (M:=M) (max k n) n (N6 m ops 1 s0) [] (by rw[hb];simpa [GS.put,h0]using hr) (Nat.le_max_right _ _)
 have e2:Z3 ops 1 M (max k n) (N6 m ops 1 s0,[])=(s,order):=e
 rw[e2]at key
 have:=key hc
 exact⟨this.1,this.2.1,by simpa using this.2.2⟩
end
theorem o9{s q1 q':R1}{c c1:SCl}{n:Nat}{a:SAn}(h:R1.step s c=(q1,.inl c1))(h2:c0m SPl q1 c1 n q' a):c0m SPl s c (n+1) q' a:=.more h h2
theorem d08{s q':R1}{c:SCl}{a:SAn}(h:R1.step s c=(q',.inr a)):c0m SPl s c 1 q' a:=.done h
theorem j0y{kd:Nat}(hkd:kd=1∨kd=2){T r:Nat}{v v0 a:Int}{vs ws:List Int}(hv:v0=i6 (v+1)):∀(j i:Nat),i+j+1=ws.length→
 c0m SPl ⟨v0,part kd vs ws i⟩ ⟨kd,2,r,T,v,i,[],vs,a⟩ (j+2) ⟨i6 (v+2),part kd vs ws ws.length⟩ (true,0,[])
 | 0,i,h=>by
   refine o9 (q1:=⟨v0,part kd vs ws ws.length⟩) (c1:=⟨kd,3,r,T,v,i,[],vs,a⟩) ?_ (d08 ?_)
   ·have hp:=R9 kd vs ws (i:=i) (by omega)
    have hs:=S9 kd vs ws (i:=i) (by omega)
    have hl:=U8 kd vs ws i
    unfold R1.step R1.wstep
    simp only[if_pos hkd,hp,hs,hl,if_neg (show ¬i+1<ws.length by omega),show i+1=ws.length by omega]
    simp
   ·unfold R1.step R1.wstep
    simp only[if_pos hkd]
    simp
 | j+1,i,h=>by
   refine o9 (q1:=⟨v0,part kd vs ws (i+1)⟩) (c1:=⟨kd,2,r,T,v,i+1,[],vs,a⟩) ?_ (j0y hkd hv j (i+1) (by omega))
   have hp:=R9 kd vs ws (i:=i) (by omega)
   have hs:=S9 kd vs ws (i:=i) (by omega)
   have hl:=U8 kd vs ws i
   unfold R1.step R1.wstep
   simp only[if_pos hkd,hp,hs,hl,if_pos (show i+1<ws.length by omega)]
   simp
theorem m0v{s:R1}(hev:s.ver.tmod 2=0){T r:Nat}{a:Int}:∀(j i:Nat) (out:List Int),i+j+1=s.ws.length→out=s.ws.take i→c0m SPl s ⟨3,1,r,T,s.ver,i,out,[],a⟩ (j+2) s (true,0,s.ws)
 | 0,i,out,h,ho=>by
   have hlt:i<s.ws.length:=by omega
   have e:out++[s.ws.getD i 0]=s.ws:=by
    rw[ho,show s.ws.getD i 0=s.ws[i]by simp[List.getD_eq_getElem?_getD,hlt],List.take_append_getElem hlt,List.take_of_length_le (by omega)]
   refine o9 (q1:=s) (c1:=⟨3,2,r,T,s.ver,i,s.ws,[],a⟩) ?_ (d08 ?_)
   ·unfold R1.step R1.rstep
    simp only[List.getD_eq_getElem?_getD]at e
    simp[e,if_neg (show ¬i+1<s.ws.length by omega)]
   ·unfold R1.step R1.rstep
    simp
 | j+1,i,out,h,ho=>by
   have hlt:i<s.ws.length:=by omega
   refine o9 (q1:=s) (c1:=⟨3,1,r,T,s.ver,i+1,out++[s.ws.getD i 0],[],a⟩) ?_ (m0v hev j (i+1) _ (by omega) ?_)
   ·unfold R1.step R1.rstep
    simp[show i+1<s.ws.length by omega]
   ·rw[ho,show s.ws.getD i 0=s.ws[i]by simp[List.getD_eq_getElem?_getD,hlt],List.take_append_getElem hlt]
theorem q0V{s:R1}{T r:Nat}{v a:Int}:∀(j i:Nat) (out:List Int),i+j+1=s.ws.length→out=s.ws.take i→c0m SPl s ⟨4,1,r,T,v,i,out,[],a⟩ (j+1) s (true,0,s.ws)
 | 0,i,out,h,ho=>by
   have hlt:i<s.ws.length:=by omega
   have e:out++[s.ws.getD i 0]=s.ws:=by
    rw[ho,show s.ws.getD i 0=s.ws[i]by simp[List.getD_eq_getElem?_getD,hlt],List.take_append_getElem hlt,List.take_of_length_le (by omega)]
   refine d08 ?_
   unfold R1.step
   simp only[List.getD_eq_getElem?_getD]at e
   simp[e,if_neg (show ¬i+1<s.ws.length by omega)]
 | j+1,i,out,h,ho=>by
   have hlt:i<s.ws.length:=by omega
   refine o9 (q1:=s) (c1:=⟨4,1,r,T,v,i+1,out++[s.ws.getD i 0],[],a⟩) ?_ (q0V j (i+1) _ (by omega) ?_)
   ·unfold R1.step
    simp[show i+1<s.ws.length by omega]
   ·rw[ho,show s.ws.getD i 0=s.ws[i]by simp[List.getD_eq_getElem?_getD,hlt],List.take_append_getElem hlt]
theorem B0A(s:R1)(o:P3)(hev:s.ver.tmod 2=0)(n1:0<s.ws.length):Op1 SPl s o (s.call1 s.ws.length o).2.2 (s.call1 s.ws.length o).1 (s.call1 s.ws.length o).2.1:=by
 obtain⟨kd,x,b,d⟩:=o
 have ht:=A5 x
 have wr:∀k:Nat,k=1∨k=2→c0m SPl s ⟨k,0,0,N2 x,0,0,[],V2 s.ws.length b d,0⟩ (s.ws.length+3) (s.wrote k (V2 s.ws.length b d)) (true,0,[]):=fun k hk=>by
  have e:s.ws.length+3=(s.ws.length - 1+2)+1+1:=by omega
  rw[e]
  refine o9 (q1:=s) (c1:=⟨k,1,0,N2 x,s.ver,0,[],V2 s.ws.length b d,0⟩) ?_ (o9 (q1:=⟨i6 (s.ver+1),s.ws⟩) (c1:=⟨k,2,0,N2 x,s.ver,0,[],V2 s.ws.length b d,0⟩) ?_ ?_)
  ·unfold R1.step R1.wstep
   simp[hk,hev]
  ·unfold R1.step R1.wstep
   simp[hk]
  ·have h:=j0y hk (T:=N2 x) (r:=0) (v:=s.ver) (v0:=i6 (s.ver+1)) (a:=0) (vs:=V2 s.ws.length b d) (ws:=s.ws) rfl (s.ws.length - 1) 0 (by omega)
   rw[c0X]at h
   exact h
 by_cases k1:kd=1
 ·subst k1
  refine Op1.call (q1:=s) (c:=(⟨1,0,0,N2 x,0,0,[],V2 s.ws.length b d,0⟩:SCl)) rfl ?_
  exact wr 1 (.inl rfl)
 by_cases k2:kd=2
 ·subst k2
  refine Op1.call (q1:=s) (c:=(⟨2,0,0,N2 x,0,0,[],V2 s.ws.length b d,0⟩:SCl)) rfl ?_
  exact wr 2 (.inr rfl)
 by_cases k3:kd=3
 ·subst k3
  refine Op1.call (q1:=s) (c:=(⟨3,0,0,N2 x,0,0,[],[],0⟩:SCl)) rfl ?_
  show c0m SPl s _ (s.ws.length+2) s (true,0,s.ws)
  have e:s.ws.length+2=(s.ws.length - 1+2)+1:=by omega
  rw[e]
  refine o9 (q1:=s) (c1:=⟨3,1,0,N2 x,s.ver,0,[],[],0⟩) ?_ (m0v hev (s.ws.length - 1) 0 [] (by omega) rfl)
  unfold R1.step R1.rstep
  simp[hev]
 by_cases k4:kd=4
 ·subst k4
  refine Op1.call (q1:=s) (c:=(⟨4,1,0,1,0,0,[],[],0⟩:SCl)) rfl ?_
  show c0m SPl s _ s.ws.length s (true,0,s.ws)
  have h:=q0V (s:=s) (T:=1) (r:=0) (v:=0) (a:=0) (s.ws.length - 1) 0 [] (by omega) rfl
  rwa [show s.ws.length - 1+1=s.ws.length by omega]at h
 by_cases k5:kd=5
 ·subst k5
  refine Op1.call (q1:=s) (c:=(⟨5,0,0,1,0,0,[],[],x⟩:SCl)) rfl ?_
  exact d08 rfl
 ·have e:R1.begin s ⟨kd,x,b,d⟩=(s,.inr (false,0,[])):=by unfold R1.begin;simp[k1,k2,k3,k4,k5]
  have e2:s.call1 s.ws.length ⟨kd,x,b,d⟩=(s,(false,0,[]),0):=by unfold R1.call1;simp[k1,k2,k3,k4,k5]
  rw[e2]
  exact Op1.imm e
theorem i0u(s:R1)(n:Nat)(o:P3)(h:s.ver.tmod 2=0):(s.call1 n o).1.ver.tmod 2=0:=by
 have key:∀kd vs,(s.wrote kd vs).ver.tmod 2=0:=fun kd vs=>by
  have h2:s.ver % 2=0:=by
   have:=Int.dvd_of_tmod_eq_zero h
   omega
  have e:(s.wrote kd vs).ver=IntKind.i64.wrap (s.ver+2):=rfl
  have hm:(s.wrote kd vs).ver % 2=0:=by rw[e,IntKind.wrap_i64];omega
  exact Int.tmod_eq_zero_of_dvd (by omega)
 unfold R1.call1
 repeat' split
 all_goals first|exact h|exact key _ _
theorem e0m(s:R1)(n:Nat)(o:P3):(s.call1 n o).1.ws.length=s.ws.length:=by
 unfold R1.call1
 repeat' split
 all_goals first|rfl|exact o0l _ _ _
def s6(n:Nat):R1→List P3→List SAn×R1×Nat
 | s,[]=>([],s,0)
 | s,o::l=>((s.call1 n o).2.1::(s6 n (s.call1 n o).1 l).1,(s6 n (s.call1 n o).1 l).2.1,(s.call1 n o).2.2+(s6 n (s.call1 n o).1 l).2.2)
theorem q0z{n:Nat}:∀(l:List P3) (s:R1),s.ver.tmod 2=0→s.ws.length=n→0<n→m0X SPl s l (s6 n s l).2.2 (s6 n s l).2.1 (s6 n s l).1
 | [],s,_,_,_=>.nil
 | o::l,s,hev,hn,h0=>by
   have h:=B0A s o hev (by omega)
   rw[hn]at h
   exact .cons h (q0z l _ (i0u _ _ _ hev) ((e0m _ _ _).trans hn) h0)
theorem g0o{n:Nat}:∀(l:List P3) (s:R1) (i:Nat) (o:P3),l[i]? =some o→(s6 n s (l.take (i+1))).2.1=((s6 n s (l.take i)).2.1.call1 n o).1∧(s6 n s (l.take (i+1))).2.2=(s6 n s (l.take i)).2.2+((s6 n s (l.take i)).2.1.call1 n o).2.2∧(s6 n s l).1[i]? =some ((s6 n s (l.take i)).2.1.call1 n o).2.1
 | [],s,i,o,h=>by simp at h
 | x::l,s,0,o,h=>by
   simp at h
   subst h
   simp[s6]
 | x::l,s,i+1,o,h=>by
   obtain⟨h1,h2,h3⟩:=g0o l (s.call1 n x).1 i o (by simpa using h)
   simp only[List.take_succ_cons,s6]
   refine⟨h1,by rw[h2];omega,by simpa using h3⟩
theorem j0m{n:Nat}:∀(l:List P3) (s:R1),(s6 n s l).1.length=l.length
 | [],_=>rfl
 | o::l,s=>by simp[s6,j0m l]
theorem h0R{n:Nat}:∀(l:List P3) (s:R1),s.ver.tmod 2=0→(s6 n s l).2.1.ver.tmod 2=0∧(s6 n s l).2.1.ws.length=s.ws.length
 | [],s,h=>⟨h,rfl⟩
 | o::l,s,h=>by
   obtain⟨h1,h2⟩:=h0R (n:=n) l (s.call1 n o).1 (i0u s n o h)
   exact⟨h1,h2.trans (e0m _ _ _)⟩
theorem m0f{n:Nat}:∀(l:List P3) (s:R1),s.ws.length≤16→(s6 n s l).2.2≤19*l.length
 | [],_,_=>Nat.zero_le _
 | o::l,s,h=>by
   have h1:=m0f (n:=n) l (s.call1 n o).1 (by rw[e0m];exact h)
   have h2:(s.call1 n o).2.2≤19:=by
    unfold R1.call1
    repeat' split
    all_goals(simp only;omega)
   simp only[s6,List.length_cons]
   omega
end
section
variable{An:G3}{w w' w0:World}
def C9(w w':World):Prop:=w.heap.size≤w'.heap.size∧∀(r:Nat) (c:Array Value) (e:TypeId) (z:Nat×Nat),w.heap[r]? =some (.cells c e z)→w'.heap[r]? =some (.cells c e z)
theorem C9.refl(w:World):C9 w w:=⟨Nat.le_refl _,fun _ _ _ _ h=>h⟩
theorem C9.trans{a b c:World}(h1:C9 a b)(h2:C9 b c):C9 a c:=⟨Nat.le_trans h1.1 h2.1,fun r x e z h=>h2.2 r x e z (h1.2 r x e z h)⟩
theorem C9.of(h1:w.heap.size≤w'.heap.size)(h2:∀r,r<w.heap.size→w'.heap[r]? =w.heap[r]?):C9 w w':=⟨h1,fun r c e z h=>(h2 r (Q3 h)).trans h⟩
theorem r0C(X:World)(vs:List Int):VS (X.alloc (.cells (vs.map fun i:Int=>Value.int .i64 i).toArray 2)) (some ⟨X.heap.size,0,none⟩) vs:=fun _=>⟨_,rfl,fun i hi=>(V1 (heap_alloc_new _ _) (by simp[List.getD_eq_getElem?_getD,hi])).1⟩
theorem m0S{lb:Nat}{s:SS}{X:World}(h:SU lb s X):e0e lb none s (some ⟨X.heap.size,0,none⟩):=fun y hy=>by
 cases hy
 have h1:=h.low (r:=lb) (.inl rfl)
 have h2:=h.low (r:=s.wb) (.inr rfl)
 exact⟨by simp only;omega,by simp only;omega,by simp⟩
theorem J7.alloc{lb m:Nat}{main:Bool}{s:SS}{X:World}(h:J7 lb none (fun _ _=>True) w0 s m X)(o:Obj):J7 lb none (fun _ _=>True) w0 s m (X.alloc o):=
 h.grow (e0W main) (by simp) (fun r hr=>D0 _ _ (Nat.lt_of_lt_of_le hr h.sz)) (fun r hr=>D0 _ _ (h.u.low hr)) (fun b hb=>by cases hb)
theorem J7.heap{lb m:Nat}{main:Bool}{s:SS}{X Y:World}(h:J7 lb none (fun _ _=>True) w0 s m X)(e:Y.heap=X.heap):J7 lb none (fun _ _=>True) w0 s m Y:=
 h.grow (e0W main) (by rw[e];exact Nat.le_refl _) (fun r hr=>by rw[e]) (fun r hr=>by rw[e]) (fun b hb=>by cases hb)
theorem o09{A:Array Value}(hA:G0 124 A [(89,.bool false)]){c:Frame}{cs:List Frame}{main:Bool}{Stop:Goroutine→World→Prop}
 (K:∀w',w.heap.size≤w'.heap.size→(∀r,r<w.heap.size→w'.heap[r]? =w.heap[r]?)→J0 Try.prog main F0 Stop (G (c.finish (.bool true)) cs) w'):
 J0 Try.prog main F0 Stop (G (bA 13 A [.code f0i,.code j0t]) (c::cs)) w:=by
 refine E0C J1 (Nat.zero_le _) hA fun A hA=>?_
 have hs0:(w.alloc (.cells #[vI 1,vI 2] 2)).heap.size=w.heap.size+1:=by simp
 have ho0:∀r,r<w.heap.size→(w.alloc (.cells #[vI 1,vI 2] 2)).heap[r]? =w.heap[r]?:=fun r hr=>D0 _ _ hr
 have hv0:o5 (w.alloc (.cells #[vI 1,vI 2] 2)) (some ⟨w.heap.size,0,none⟩) [1,2]:=k0k (heap_alloc_new _ _)
 generalize w.alloc (.cells #[vI 1,vI 2] 2)=W0 at hs0 ho0 hv0 ⊢
 refine c0C (xs:=[1,2]) hv0 (by decide) fun W1 hU hs1 ho1=>?_
 have hk1:∀r,r<w.heap.size→W1.heap[r]? =w.heap[r]?:=fun r hr=>(ho1 r (by omega)).trans (ho0 r hr)
 have a1:J7 (W0.heap.size+1) none (fun _ _=>True) W1 ⟨I4 [1,2],W0.heap.size,0⟩ 0 W1:=⟨hU,trivial,Nat.le_refl _,fun _ _ _ _ _=>rfl⟩
 refine E0D J1 (Nat.zero_le _) hA fun A hA=>?_
 refine b0G (e0W main) (a1.alloc (main:=main) _) (fun _ h=>by cases h) rfl (by decide) (vs:=[5,6]) (r0C W1 [5,6]) (m0S hU) fun W2 a2=>?_
 refine E0E J1 (Nat.zero_le _) hA fun A hA=>?_
 refine b0H (e0W main) (a2.alloc (main:=main) _) (fun _ h=>by cases h) (show((I4 [1,2]).wrote 1 [5,6]).ver.tmod 2=0 by decide) (show 0+(I4 [1,2]).ws.length+3+32<4611686018427387904 by decide) (vs:=[1]) (r0C W2 [1]) (m0S a2.u) fun W3 a3=>?_
 refine E0F hA fun A hA=>?_
 refine d0A (e0W main) a3 (fun _ h=>by cases h) (fun _ h=>by cases h) (show(((I4 [1,2]).wrote 1 [5,6]).wrote 2 [1]).ver.tmod 2=0 by decide) (show 0+(I4 [1,2]).ws.length+3+((I4 [1,2]).wrote 1 [5,6]).ws.length+3+64<4611686018427387904 by decide) fun W4 ov a4 hr hs4 ho4=>?_
 have e6:(((I4 [1,2]).wrote 1 [5,6]).wrote 2 [1]).ws=[6,6]:=by decide
 have hrow:=hr.row
 simp only[e6]at hrow
 obtain⟨la,ll,lc,hov⟩:=F3 hrow
 subst hov
 have hll:ll=2:=by
  rcases hrow.2 with⟨_,h⟩|⟨_,_,_,e,_⟩
  ·simp at h
  ·cases e;rfl
 subst hll
 refine E0G J1 (Nat.zero_le _) hA fun A hA=>?_
 refine k0w (xs:=[6,6]) (by decide) ((c0E hrow).alloc _) (j0i W4 ([6,6].map fun v=>vI v) 2) fun W5 e5=>?_
 have a5:=(a4.alloc (main:=main) (.cells #[vI 6,vI 6] 2)).heap (main:=main) e5
 refine E0H hA fun A hA=>?_
 refine b0k (v:=4) a5.u.v.c fun W6 e7=>?_
 have a6:=a5.heap (main:=main) e7
 refine E0I hA (K W6 ?_ fun r hr=>?_)
 ·have:=a6.sz
  omega
 ·rw[a6.o r (by omega) (by simp) (by omega) (by simp only;omega)]
  exact hk1 r hr
theorem m00{c:Frame}{cs:List Frame}{Stop:Goroutine→World→Prop}(K:∀w',C9 w w'→Bes An Try.prog Stop (G (c.finish (.bool true)) cs) w'):
 Bes An Try.prog Stop (G (Frame.enter Try.prog 13 #[] .normal) (c::cs)) w:=by
 refine w7 (F:=F0) (Stop:=fun a u=>∃A,G0 124 A [(1,vL w.heap.size 0 1 1)]∧u.heap=(g02 w).heap∧a=G (Frame.enter Try.prog 15 #[vL (w.heap.size+1) 0 2 2,vL (w.heap.size+3) 0 2 2,vL (w.heap.size+4) 0 9 9,vI 99] .normal) ((bA 13 A [.inRegion (oC g0t) [6,7,8],.code j0s])::c::cs))
  (E0z J1 (Nat.zero_le _) fun A hA=>.stop fun d=>⟨A,hA,rfl,rfl⟩) fun a u ⟨A,hA,hu,ha⟩=>?_
 subst ha
 have k1:C9 w u:=by
  refine .of (by rw[hu];simp[g02];omega) fun r hr=>?_
  rw[hu]
  simp only[g02]
  rw[D0 _ _ (by simp;omega),D0 _ _ (by simp;omega),D0 _ _ (by simp;omega),D0 _ _ (by simp;omega),D0 _ _ hr]
 have b0:u.heap[w.heap.size]? =some (.cells #[vI 1,vI 1,vI 10,vI 1] 47 (0,0)):=by
  rw[hu]
  simp only[g02]
  rw[D0 _ _ (by simp;try omega),D0 _ _ (by simp;try omega),D0 _ _ (by simp;try omega),D0 _ _ (by simp)]
  exact heap_alloc_new _ _
 have b1:u.heap[w.heap.size+1]? =some (.cells #[vI 1,vI 2] 2 (0,0)):=by
  rw[hu]
  simp only[g02]
  rw[D0 _ _ (by simp;try omega),D0 _ _ (by simp;try omega),D0 _ _ (by simp)]
  exact R5 (by simp) _
 have b2:u.heap[w.heap.size+2]? =some (.cells #[vI 3,vI 1,vI 0,vI 0] 47 (0,0)):=by
  rw[hu]
  simp only[g02]
  rw[D0 _ _ (by simp;try omega),D0 _ _ (by simp)]
  exact R5 (by simp) _
 have b3:u.heap[w.heap.size+3]? =some (.cells #[vL w.heap.size 0 1 1,vL (w.heap.size+2) 0 1 1] 34 (0,0)):=by
  rw[hu]
  simp only[g02]
  rw[D0 _ _ (by simp)]
  exact R5 (by simp) _
 have b4:u.heap[w.heap.size+4]? =some (.cells (fxS1.map fun i:Int=>Value.int .i64 i).toArray 3 (0,0)):=by
  rw[hu]
  simp only[g02]
  exact R5 (by simp) _
 clear hu
 refine f0X (va:=some ⟨w.heap.size+1,0,none⟩) (vs:=[1,2]) (S:=fxS1) (k0k b1) (by decide) (u0Q b0 b2 b3 b4 (by decide)) (M:=99) rfl fun s order hd hk aa rows av oa' oc' xa xc u1 hP=>?_
 obtain⟨rfl,rfl⟩:s=g00.1∧order=g00.2:=by
  have:=i0N n0y (s,order) hk
  exact⟨congrArg Prod.fst this,congrArg Prod.snd this⟩
 have hst:=s0p
 generalize g00.2=order at hP ⊢
 generalize decide (0<L5 g00.1.live 2)=lv
 have ha1:(fun i=>((g00.1.th i).ans:List SAn)) 1=[(false,0,[])]:=o07
 generalize (fun i=>((g00.1.th i).ans:List SAn))=an1 at hP ha1
 rw[hst]at hP ⊢
 have k2:C9 u u1:=⟨hP.size,hP.old⟩
 have b0:=k2.2 _ _ _ _ b0
 clear hk hd b1 b2 b3 b4
 refine w7 (F:=F0) (Stop:=fun a v=>∃A,G0 124 A [(1,vL w.heap.size 0 1 1),(2,vP u1.heap.size 0)]∧v.heap=(i0L u1 w.heap.size (some ⟨aa,0,none⟩) oa' xa 2 2 order.length oc' ([2,10,11]:List Int).length xc lv).heap∧a=G (Frame.enter Try.prog 15 #[vL (u1.heap.size+1) 0 2 2,vL (u1.heap.size+3) 0 2 2,vL (u1.heap.size+4) 0 7 7,vI 99] .normal) ((bA 13 A [.inRegion (oC g0u) [6,7,8],.code g0v])::c::cs))
  (E0A J1 (Nat.zero_le _) hA fun A hA=>.stop fun d=>⟨A,hA,rfl,rfl⟩) fun a v ⟨A,hA,hv,ha⟩=>?_
 subst ha
 have hW:∀r,r<u1.heap.size+1→v.heap[r]? =(u1.alloc (.cells #[vL aa 0 2 2,.slice oa' order.length oc',.slice xa ([2,10,11]:List Int).length xc,.bool lv] 31)).heap[r]?:=fun r hr=>by
  rw[hv]
  simp only[i0L]
  rw[D0 _ _ (by simp;omega),D0 _ _ (by simp;omega),D0 _ _ (by simp;omega),D0 _ _ (by simp;omega)]
 have hvs:v.heap.size=u1.heap.size+5:=by rw[hv];simp[i0L]
 have k3:C9 u1 v:=.of (by omega) fun r hr=>(hW r (by omega)).trans (D0 _ _ hr)
 have t1:=p0a hP ha1 (u':=u1.alloc (.cells #[vL aa 0 2 2,.slice oa' order.length oc',.slice xa ([2,10,11]:List Int).length xc,.bool lv] 31)) rfl
 have t2:FxT v u1.heap.size false []:=t1.same fun r cc e z h=>(hW r (by have:=(Q3 h);simpa using this)).trans h
 have b0:=k3.2 _ _ _ _ b0
 have b1:v.heap[u1.heap.size+1]? =some (.cells #[vI 1,vI 2] 2 (0,0)):=by
  rw[hv]
  simp only[i0L]
  rw[D0 _ _ (by simp;try omega),D0 _ _ (by simp;try omega),D0 _ _ (by simp)]
  exact R5 (by simp) _
 have b2:v.heap[u1.heap.size+2]? =some (.cells #[vI 4,vI 0,vI 0,vI 0] 47 (0,0)):=by
  rw[hv]
  simp only[i0L]
  rw[D0 _ _ (by simp;try omega),D0 _ _ (by simp)]
  exact R5 (by simp) _
 have b3:v.heap[u1.heap.size+3]? =some (.cells #[vL w.heap.size 0 1 1,vL (u1.heap.size+2) 0 1 1] 34 (0,0)):=by
  rw[hv]
  simp only[i0L]
  rw[D0 _ _ (by simp)]
  exact R5 (by simp) _
 have b4:v.heap[u1.heap.size+4]? =some (.cells (fxS2.map fun i:Int=>Value.int .i64 i).toArray 3 (0,0)):=by
  rw[hv]
  simp only[i0L]
  exact R5 (by simp) _
 clear hv hW
 refine f0X (va:=some ⟨u1.heap.size+1,0,none⟩) (vs:=[1,2]) (S:=fxS2) (k0k b1) (by decide) (u0Q b0 b2 b3 b4 (by decide)) (M:=99) rfl fun s order2 hd hk aa2 rows2 av2 oa2 oc2 xa2 xc2 v1 hP2=>?_
 obtain⟨rfl,rfl⟩:s=g01.1∧order2=g01.2:=by
  have:=i0N n0z (s,order2) hk
  exact⟨congrArg Prod.fst this,congrArg Prod.snd this⟩
 have hst:=s0q
 generalize g01.2=order2 at hP2 ⊢
 generalize decide (0<L5 g01.1.live 2)=lv2
 have ha2:(fun i=>((g01.1.th i).ans:List SAn)) 1=[(true,0,[1,11])]:=o08
 generalize (fun i=>((g01.1.th i).ans:List SAn))=an2 at hP2 ha2
 rw[hst]at hP2 ⊢
 have k4:C9 v v1:=⟨hP2.size,hP2.old⟩
 clear hk hd b0 b1 b2 b3 b4
 refine w7 (F:=F0) (Stop:=fun a u2=>a=G (c.finish (.bool true)) cs∧v1.heap.size≤u2.heap.size∧∀r,r<v1.heap.size→u2.heap[r]? =v1.heap[r]?)
  (E0B J1 (Nat.zero_le _) hA fun A hA=>?_) fun a u2 ⟨ha,hs2,ho2⟩=>?_
 ·have q1:=p0a hP2 ha2 (u':=v1.alloc (.cells #[vL aa2 0 2 2,.slice oa2 order2.length oc2,.slice xa2 ([2,10,11]:List Int).length xc2,.bool lv2] 31)) rfl
  have ho:∀r,r<v1.heap.size→(v1.alloc (.cells #[vL aa2 0 2 2,.slice oa2 order2.length oc2,.slice xa2 ([2,10,11]:List Int).length xc2,.bool lv2] 31)).heap[r]? =v1.heap[r]?:=fun r hr=>D0 _ _ hr
  have hz:(v1.alloc (.cells #[vL aa2 0 2 2,.slice oa2 order2.length oc2,.slice xa2 ([2,10,11]:List Int).length xc2,.bool lv2] 31)).heap.size=v1.heap.size+1:=by simp
  generalize v1.alloc (.cells #[vL aa2 0 2 2,.slice oa2 order2.length oc2,.slice xa2 ([2,10,11]:List Int).length xc2,.bool lv2] 31)=V at q1 ho hz ⊢
  have q2:FxT V u1.heap.size false []:=(t2.same k4.2).same fun r cc e z h=>(ho r (Q3 h)).trans h
  refine n0R e0B F6 (by kernel_rfl) (R:=fun A u=>A.size=124∧A.getD 89 undef= .bool false∧V.heap.size≤u.heap.size∧∀r,r<V.heap.size→u.heap[r]? =V.heap[r]?) (by decide) (fun τ e=>A0W (w:=retape V τ e) (q2.same fun _ _ _ _ h=>h) (q1.same fun _ _ _ _ h=>h) hA) fun A2 w2 τ e hR hg=>?_
  obtain⟨r1,r2,r3,r4⟩:=hR
  refine o09 ⟨r1,r2,trivial⟩ fun w3 hs3 ho3=>.stop fun d=>⟨rfl,?_,fun r hr=>?_⟩
  ·have r3:V.heap.size≤w2.heap.size:=r3
   show _≤w3.heap.size
   have hs3:w2.heap.size≤w3.heap.size:=hs3
   omega
  ·have r3:V.heap.size≤w2.heap.size:=r3
   have r4:w2.heap[r]? =V.heap[r]?:=r4 r (by omega)
   have h3:w3.heap[r]? =w2.heap[r]?:=ho3 r (by show r<w2.heap.size;omega)
   exact h3.trans (r4.trans (ho r hr))
 ·subst ha
  exact K u2 (k1.trans (k2.trans (k3.trans (k4.trans (.of hs2 ho2)))))
end
section
variable{An:G3}{P:Program}{F:Fz}{fn:FuncId}{ops:Array Oper}{S:World→Prop}{last:Nat}{Z:Act→World→Prop}
end
section
variable{F:Fz}{w:World}
end
section
variable{w w':World}
theorem t0N{aa ab:Option Addr}{ca cb:Nat}{xs:List Int}(hl:xs.length<100000000)(hA:B5 w aa (xs.map fun v=>vI v))(hB:B5 w ab (xs.map fun v=>vI v)):
 Calls Try.prog 22 #[.slice aa xs.length ca,.slice ab xs.length cb] w fun x w'=>x= .returned (.bool true)∧∃m,w'=w.drewN m:=by
 have E:Aside (B5 w aa (xs.map fun v=>vI v)∧B5 w ab (xs.map fun v=>vI v)):=⟨hA,hB⟩
 clear hA hB
 go_enter Try.func22,Try.ntmps22
 go_wp2
 go_loopg [5] xs.length (fun g i wr=>∃k:Nat,k≤xs.length∧i=vI k∧g=xs.length - k∧∃m,wr=w.drewN m)
 case atStart=>exact⟨0,Nat.zero_le _,rfl,rfl,0,rfl⟩
 case round=>
  obtain⟨k,hk,rfl,rfl,m0,hw⟩:=hrel
  have W:Aside (wr=w.drewN m0):=hw
  have hh:wr.heap=w.heap:=by rw[hw];rfl
  clear hw
  rcases Nat.lt_or_ge k xs.length with hlt|hge
  ·obtain⟨b1,o1,rfl,h1⟩:=(E.out.1.heap hh).c k (vI xs[k]) (by simp[hlt])
   obtain⟨b2,o2,rfl,h2⟩:=(E.out.2.heap hh).c k (vI xs[k]) (by simp[hlt])
   have hwr:IntKind.i64.wrap ((k:Int)+1)=(k:Int)+1:=IntWalk.i64_in _ (by omega)
   clear hh
   go_wp2
   go_quiet (fail)
   go_wp2
   go_roundg (xs.length - (k+1))
   case measure=>omega
   case rel=>exact⟨k+1,hlt,rfl,rfl,_,by rw[W.out,World.drewN_drewN]⟩
  ·have:k=xs.length:=by omega
   subst this
   clear hh
   go_wp2
   go_ret
   exact⟨rfl,m0,W.out⟩
def e9(l:List SA):List Value:=(l.map fun a=>a.v.cells).flatten
theorem e0i(l:List SA):∀k a,l[k]? =some a→(e9 l)[k*3]? =some (.bool a.an.1)∧(e9 l)[k*3+1]? =some (vI a.an.2.1)∧(e9 l)[k*3+2]? =some (.slice a.la a.ll a.lc):=by
 induction l with
 | nil=>intro k a h;simp at h
 | cons x t ih=>
   intro k a h
   have e:e9 (x::t)= .bool x.an.1::vI x.an.2.1:: .slice x.la x.ll x.lc::e9 t:=rfl
   rw[e]
   cases k with
   | zero=>
     simp at h
     subst h
     exact⟨rfl,rfl,rfl⟩
   | succ k=>
     have h:t[k]? =some a:=by simpa using h
     obtain⟨h1,h2,h3⟩:=ih k a h
     rw[show(k+1)*3=k*3+3 by omega]
     exact⟨by simpa using h1,by simpa [show k*3+3+1=k*3+1+3 by omega]using h2,by simpa [show k*3+3+2=k*3+2+3 by omega]using h3⟩
structure SAL(a:SA)(w:World):Prop where
 l:a.ll=a.an.2.2.length
 r:B5 w a.la (a.an.2.2.map fun v=>vI v)
theorem SAL.heap{a:SA}(h:SAL a w)(e:w'.heap=w.heap):SAL a w':=⟨h.l,h.r.heap e⟩
theorem SAL.of{a:SA}(h:SAU a w):SAL a w:=by
 obtain⟨an,la,ll,lc⟩:=a
 have h1:w.ownsRow 0 2 1 (.slice la ll lc) an.2.2.length (an.2.2.map fun v=>vI v):=h
 have hl:ll=an.2.2.length:=by
  rcases h1.2 with⟨e,h5⟩|⟨_,_,_,e,_⟩
  ·cases e;exact h5.symm
  ·cases e;rfl
 subst hl
 exact⟨rfl,c0E h1⟩
theorem t0M{aa ab:Option Addr}{ca cb:Nat}{xs ys:List SA}(hl:xs.length<100000000)(he:xs.map SA.an=ys.map SA.an)(hA:B5 w aa (e9 xs))(hB:B5 w ab (e9 ys))(hx:∀a∈xs,SAL a w∧a.an.2.2.length<100000000)(hy:∀a∈ys,SAL a w):
 Y6 Try.prog Try.f21 #[.slice aa xs.length ca,.slice ab xs.length cb] w fun x w'=>x= .bool true∧w'.heap=w.heap:=by
 have E:Aside (B5 w aa (e9 xs)∧B5 w ab (e9 ys)∧xs.map SA.an=ys.map SA.an∧(∀a∈xs,SAL a w∧a.an.2.2.length<100000000)∧∀a∈ys,SAL a w):=⟨hA,hB,he,hx,hy⟩
 clear hA hB he hx hy
 refine I8 rfl ?_
 simp only[Try.ntmps21,List.size_toArray,List.length_cons,List.length_nil,Nat.reduceAdd,Nat.reduceSub,Array.replicate_succ,Array.replicate_zero,List.push_toArray,List.append_toArray,List.nil_append,List.cons_append]
 go_wp2
 go_loopg [5] xs.length (fun g i wr=>∃k:Nat,k≤xs.length∧i=vI k∧g=xs.length - k∧wr.heap=w.heap)
 case atStart=>exact⟨0,Nat.zero_le _,rfl,rfl,rfl⟩
 case round=>
  obtain⟨k,hk,rfl,rfl,hw⟩:=hrel
  rcases Nat.lt_or_ge k xs.length with hlt|hge
  ·have hq:=congrArg (fun l=>l[k]?) E.out.2.2.1
   simp only[List.getElem?_map,List.getElem?_eq_getElem hlt,Option.map_some]at hq
   obtain⟨y,hyk,hya⟩:=Option.map_eq_some_iff.1 hq.symm
   obtain⟨g1,g2,g3⟩:=e0i xs k _ (List.getElem?_eq_getElem hlt)
   obtain⟨j1,j2,j3⟩:=e0i ys k _ hyk
   have hsx:=(E.out.2.2.2.1 _ (List.getElem_mem hlt))
   have hsy:=E.out.2.2.2.2 y (List.mem_of_getElem? hyk)
   rw[hya]at j1 j2
   obtain⟨sl1,sr1⟩:=hsx.1.heap hw
   obtain⟨sl2,sr2⟩:=hsy.heap hw
   have hlen:=hsx.2
   rw[hya]at sl2 sr2
   generalize xs[k]=x at g1 g2 g3 j1 j2 sl1 sr1 sl2 sr2 hlen
   obtain⟨⟨ok,n,l⟩,la,ll,lc⟩:=x
   obtain⟨an2,la2,ll2,lc2⟩:=y
   simp only at g1 g2 g3 j1 j2 j3 sl1 sr1 sl2 sr2 hlen
   subst sl1
   subst sl2
   obtain⟨b1,o1,rfl,f0⟩:=(E.out.1.heap hw).c (k*3) _ g1
   obtain⟨_,_,e1,f1⟩:=(E.out.1.heap hw).c (k*3+1) _ g2
   cases e1
   obtain⟨_,_,e1,f2⟩:=(E.out.1.heap hw).c (k*3+2) _ g3
   cases e1
   obtain⟨b2,o2,rfl,h0⟩:=(E.out.2.1.heap hw).c (k*3) _ j1
   obtain⟨_,_,e1,h1⟩:=(E.out.2.1.heap hw).c (k*3+1) _ j2
   cases e1
   obtain⟨_,_,e1,h2⟩:=(E.out.2.1.heap hw).c (k*3+2) _ j3
   cases e1
   rw[← Nat.add_assoc]at f1 f2 h1 h2
   have H:Aside (∀m,Calls Try.prog 22 #[.slice la l.length lc,.slice la2 l.length lc2] (wr.drewN m) fun x w''=>x= .returned (.bool true)∧∃m',w''=wr.drewN m'):=fun m=>(t0N (w:=wr.drewN m) hlen (sr1.heap rfl) (sr2.heap rfl)).mono (by
    rintro e u ⟨rfl,m',rfl⟩
    exact⟨rfl,_,World.drewN_drewN _ _ _⟩)
   have hwr:IntKind.i64.wrap ((k:Int)+1)=(k:Int)+1:=IntWalk.i64_in _ (by omega)
   have W:Aside (wr.heap=w.heap):=hw
   clear g1 g2 g3 j1 j2 j3 hw hq hyk hya hsx hsy sr1 sr2 hlen
   cases ok
   all_goals(
    go_wp2
    go_quiet ((go_at_call 22;exact H.out _))
    go_wp2
    go_roundg (xs.length - (k+1))
    case measure=>omega
    case rel=>exact⟨k+1,hlt,rfl,rfl,W.out⟩)
  ·have:k=xs.length:=by omega
   subst this
   go_wp2
   go_ret
   exact⟨_,rfl,rfl,hw⟩
theorem i0z:Z5 Try.prog (fun f=>[21,22].contains f) true:=a0b (x:=[]) (fun f h=>by cases h) (by kernel_rfl)
theorem callable21:O1 21:=G2 Try.func21 rfl rfl
end
section

end
section
variable{w w':World}
theorem g0G{P:Program}{ops:Array Oper}{o:Oper}{a:Act}{w:World}{K:Act→World→Prop}{Q:Exit→Act→World→Prop}{E:Prop}(hg:o.guard=none)(f:FuncId)(args:Array Value)(v:Value)
 (hr:(execOp a.eval o).run P w= .ok (.enter f args) w) {R:World→Prop} (hC:Calls P f args w fun e w'=>e= .returned v∧R w') (hK:∀w',R w'→K (a.put o.dst v) w'):
 if Region.wanted o (yielded ops a.tmps)=true then Oper.wp P o a w K Q else E:=by
 have hw:Region.wanted o (yielded ops a.tmps)=true:=by simp[Region.wanted,hg]
 rw[if_pos hw]
 unfold Oper.wp
 rw[hr,Oper.upon_enter]
 exact hC.mono fun e w' ⟨h1,h2⟩=>by subst h1;exact hK w' h2
theorem i4{w:World}{a b:Nat}{c d:Array Value}{e f:TypeId}{y z:Nat×Nat}(h:w.heap[a]? =some (.cells c e y))(k:w.heap[b]? =some (.cells d f z))(he:e≠f):a≠b:=by
 rintro rfl
 rw[h]at k
 simp only[Option.some.injEq,Obj.cells.injEq]at k
 exact he k.2.1
theorem v5{b k:Nat}{c:Array Value}{e:TypeId}{z:Nat×Nat}{v:Value}(h:w.heap[b]? =some (.cells c e z)):(w.setCell ⟨b,k,none⟩ v).heap[b]? =some (.cells (c.setIfInBounds k v) e z):=by
 rw[U1 h]
structure RTh where
 k:Nat
 pc:Nat
 n0:Int
 n1:Int
 n2:Int
 n3:Int
 n4:Int
 ans:List (Bool×Int)
def RTh.fin(t:RTh)(a:Bool×Int):RTh:={t with k:=t.k+1,pc:=0,ans:=t.ans++[a]}
def thC(op:Value)(t:RTh)(ov:Value)(en:Bool):Array Value:= #[op,vI t.k,vI t.pc,vI t.n0,vI t.n1,vI t.n2,vI t.n3,vI t.n4,vI 0,vI 0,vI 0,.slice none 0 0,ov,.bool en]
structure TAt(w:World)(tb:Nat)(op:Value)(t:RTh)(ov:Value)(en:Bool):Prop where
 o:w.heap[tb]? =some (.cells (thC op t ov en) 158 (0,0))
 row:w.ownsRow 0 44 3 ov t.ans.length (z0V t.ans)
theorem TAt.lt{tb:Nat}{op ov:Value}{t:RTh}{en:Bool}(h:TAt w tb op t ov en):tb<w.heap.size:=(Array.getElem?_eq_some_iff.1 h.o).1
theorem TAt.same{tb:Nat}{op ov:Value}{t:RTh}{en:Bool}(h:TAt w tb op t ov en)(h1:w'.heap[tb]? =w.heap[tb]?)(h2:∀r,some r=ov.ownBlock→w'.heap[r]? =w.heap[r]?):TAt w' tb op t ov en:=
 ⟨h1.trans h.o,K0 h.row fun b hb _=>h2 b hb.symm⟩
theorem TAt.heap{tb:Nat}{op ov:Value}{t:RTh}{en:Bool}(h:TAt w tb op t ov en)(e:w'.heap=w.heap):TAt w' tb op t ov en:=h.same (by rw[e]) fun r _=>by rw[e]
theorem TAt.ne{tb:Nat}{op ov:Value}{t:RTh}{en:Bool}(h:TAt w tb op t ov en):some tb≠ov.ownBlock:=Q9 h.row h.o (by decide)
structure Kpt(w w':World)(tb:Nat)(ov ov':Value):Prop where
 size:w.heap.size≤w'.heap.size
 old:∀r,r<w.heap.size→r≠tb→some r≠ov.ownBlock→w'.heap[r]? =w.heap[r]?
 fo:ov'.ownBlock=ov.ownBlock∨∃g,ov'.ownBlock=some g∧w.heap.size≤g
theorem Kpt.refl(w:World)(tb:Nat)(ov:Value):Kpt w w tb ov ov:=⟨Nat.le_refl _,fun _ _ _ _=>rfl,.inl rfl⟩
theorem Kpt.trans{u v:World}{tb:Nat}{ov ov1 ov2:Value}(h:Kpt w u tb ov ov1)(k:Kpt u v tb ov1 ov2):Kpt w v tb ov ov2:=by
 have hs:=h.size
 refine⟨Nat.le_trans hs k.size,fun r h1 h2 h3=>(k.old r (by omega) h2 ?_).trans (h.old r h1 h2 h3),?_⟩
 ·rcases h.fo with e|⟨g,e,hg⟩
  ·rw[e];exact h3
  ·rw[e];intro e2;cases e2;omega
 ·rcases k.fo with e|⟨g,e,hg⟩
  ·rw[e];exact h.fo
  ·exact .inr ⟨g,e,by omega⟩
theorem Kpt.heap{u:World}{tb:Nat}{ov ov1:Value}(h:Kpt w u tb ov ov1)(e:w'.heap=u.heap):Kpt w w' tb ov ov1:=⟨by rw[e];exact h.size,fun r a b c=>by rw[e];exact h.old r a b c,h.fo⟩
theorem s0v:∃i z,Try.prog.info? 44=some i∧i.zero=some z∧i.size=3∧i.bytes=40∧z.cells.size=3:=by
 have h:(Try.prog.info? 44).map (fun i=>(i.zero.map (·.cells.size),i.size,i.bytes))=some (some 3,3,40):=by kernel_rfl
 obtain⟨i,hi,h1⟩:=Option.map_eq_some_iff.1 h
 simp only[Prod.mk.injEq]at h1
 obtain⟨z,hz,h2⟩:=Option.map_eq_some_iff.1 h1.1
 exact⟨i,z,hi,hz,h1.2.1,h1.2.2,h2⟩
section
variable{tb:Nat}{op ov:Value}{t:RTh}{en:Bool}
structure TFx(w:World)(tb:Nat)(op:Value)(t:RTh)(ov:Value)(en:Bool):Prop where
 c0:w.cell? ⟨tb,0,none⟩=some op
 c1:w.cell? ⟨tb,1,none⟩=some (vI t.k)
 c2:w.cell? ⟨tb,2,none⟩=some (vI t.pc)
 c3:w.cell? ⟨tb,3,none⟩=some (vI t.n0)
 c4:w.cell? ⟨tb,4,none⟩=some (vI t.n1)
 c5:w.cell? ⟨tb,5,none⟩=some (vI t.n2)
 c6:w.cell? ⟨tb,6,none⟩=some (vI t.n3)
 c7:w.cell? ⟨tb,7,none⟩=some (vI t.n4)
 c11:w.cell? ⟨tb,11,none⟩=some (.slice none 0 0)
 c12:w.cell? ⟨tb,12,none⟩=some ov
 c13:w.cell? ⟨tb,13,none⟩=some (.bool en)
 z:∀j,w.frozen? ⟨tb,j,none⟩=false
theorem TAt.fx(h:TAt w tb op t ov en):TFx w tb op t ov en:=by
 have ho:=h.o
 constructor<;>first|(simp[World.cell?,ho,thC];done)|(intro j;simp[World.frozen?,ho];done)
end
end
section
variable{w w':World}
theorem B5.olds{a:Option Addr}{xs:List Value}(h:B5 w a xs)(hk:∀r,r<w.heap.size→w'.heap[r]? =w.heap[r]?):B5 w' a xs:=
 ⟨fun k x hx=>by
  obtain⟨b,o,h1,h2⟩:=h.c k x hx
  obtain⟨c,e,z,ho⟩:=M3 h2
  have:=hk b (Q3 ho)
  exact⟨b,o,h1,by rw[← h2];unfold World.cell?;simp only[this]⟩⟩
end
section
variable{w w':World}
theorem SAL.olds{a:SA}(h:SAL a w)(hk:∀r,r<w.heap.size→w'.heap[r]? =w.heap[r]?):SAL a w':=⟨h.l,h.r.olds hk⟩
end
section
variable{w w':World}
structure T3 where
 op:Value
 who:Nat
 k:Nat
 pc:Nat
 tr:Int
 v:Int
 sv:Value
 so:Option (List Int)
 av:Value
 ans:List SA
def T3.cells(t:T3):List Value:=[t.op,t.av,vI t.who,vI t.k,vI t.pc,vI t.tr,vI t.v,t.sv]
def r8C(ts:List T3):List Value:=(ts.map T3.cells).flatten
def R8R(t:T3)(r:Nat):Prop:=t.av.ownBlock=some r∨(t.so≠none∧t.sv.ownBlock=some r)∨∃a∈t.ans,a.row.ownBlock=some r
structure R8H(w:World)(t:T3):Prop where
 av:w.ownsRow 0 44 3 t.av t.ans.length (e9 t.ans)
 au:∀a∈t.ans,SAU a w
 sv:∀l,t.so=some l→w.ownsRow 0 2 1 t.sv l.length (l.map fun v=>vI v)
 dj:t.so≠none→∀r,t.sv.ownBlock=some r→∀a∈t.ans,a.row.ownBlock≠some r
structure R8B where
 mb:Nat
 wb:Nat
 wc:Nat
 tv:Value
structure R2(w:World)(b0:Nat)(B:R8B)(s:R1)(ts:List T3):Prop where
 wf:SWf s
 o:w.heap[B.mb]? =some (.cells #[vI s.ver,vL B.wb 0 s.ws.length B.wc,B.tv] 147 (0,0))
 wds:w.ownsRow 0 2 1 (vL B.wb 0 s.ws.length B.wc) s.ws.length (s.ws.map fun v=>vI v)
 row:w.ownsRow 0 149 8 B.tv ts.length (r8C ts)
 thr:∀t∈ts,R8H w t
 tt:∀(i j:Nat) t u,ts[i]? =some t→ts[j]? =some u→i≠j→∀r,R8R t r→¬R8R u r
 wn:∀t∈ts,¬R8R t B.wb
 b1:b0≤B.mb
 b2:b0≤B.wb
 b3:∀r,B.tv.ownBlock=some r→b0≤r
 b4:∀t∈ts,∀r,R8R t r→b0≤r
structure D2(b0:Nat)(w w':World):Prop where
 s:w.heap.size≤w'.heap.size
 o:∀r,r<b0→w'.heap[r]? =w.heap[r]?
 t:∀(r:Nat) (c:Array Value) (y:TypeId) (z:Nat×Nat),y=3∨y=31→w.heap[r]? =some (.cells c y z)→w'.heap[r]? =w.heap[r]?
theorem D2.trans{b0:Nat}{u v:World}(h:D2 b0 w u)(k:D2 b0 u v):D2 b0 w v:=⟨Nat.le_trans h.s k.s,fun r hr=>(k.o r hr).trans (h.o r hr),fun r c y z q e=>(k.t r c y z q ((h.t r c y z q e).trans e)).trans (h.t r c y z q e)⟩
theorem D2.heap{b0:Nat}{u:World}(h:D2 b0 w u)(e:w'.heap=u.heap):D2 b0 w w':=⟨by rw[e];exact h.s,fun r hr=>by rw[e];exact h.o r hr,fun r c y z q k=>by rw[e];exact h.t r c y z q k⟩
theorem D2.refl(b0:Nat)(w:World):D2 b0 w w:=⟨Nat.le_refl _,fun _ _=>rfl,fun _ _ _ _ _ _=>rfl⟩
def d0R(w:World)(r:Nat):Prop:=∀(c:Array Value) (y:TypeId) (z:Nat×Nat),y=3∨y=31→w.heap[r]?≠some (.cells c y z)
variable{b0:Nat}{B:R8B}{s:R1}{ts:List T3}
theorem X1{n size:Nat}{e:TypeId}{v:Value}{xs:List Value}(h:w.ownsRow 0 e size v n xs){r:Nat}(hr:v.ownBlock=some r):∃c,w.heap[r]? =some (.cells c e (0,0)):=by
 rcases h.2 with⟨rfl,_⟩|⟨b,cap,cur,rfl,_,h4,_⟩
 ·simp[Value.ownBlock]at hr
 ·simp only[Value.ownBlock,Option.some.injEq]at hr
  subst hr
  exact⟨_,h4⟩
theorem R8H.blk{t:T3}(h:R8H w t){r:Nat}(hr:R8R t r):∃c,w.heap[r]? =some (.cells c 44 (0,0))∨w.heap[r]? =some (.cells c 2 (0,0)):=by
 rcases hr with hr|⟨h1,hr⟩|⟨a,ha,hr⟩
 ·obtain⟨c,h2⟩:=X1 h.av hr
  exact⟨c,.inl h2⟩
 ·obtain⟨l,hl⟩:=Option.ne_none_iff_exists'.1 h1
  obtain⟨c,h2⟩:=X1 (h.sv l hl) hr
  exact⟨c,.inr h2⟩
 ·obtain⟨c,h2⟩:=X1 (h.au a ha) hr
  exact⟨c,.inr h2⟩
theorem R8H.low{t:T3}(h:R8H w t){r:Nat}(hr:R8R t r):r<w.heap.size:=by
 obtain⟨c,h|h⟩:=h.blk hr<;>exact(Q3 h)
theorem R8H.same{t:T3}(h:R8H w t)(hs:∀r,R8R t r→w'.heap[r]? =w.heap[r]?):R8H w' t:=
 ⟨K0 h.av fun b hb _=>hs b (.inl hb),fun a ha=>K0 (h.au a ha) fun b hb _=>hs b (.inr (.inr ⟨a,ha,hb⟩)),fun l hl=>K0 (h.sv l hl) fun b hb _=>hs b (.inr (.inl ⟨by simp[hl],hb⟩)),h.dj⟩
theorem R8H.ne{t:T3}(h:R8H w t){r b:Nat}{c:Array Value}{e:TypeId}(hr:R8R t r)(hb:w.heap[b]? =some (.cells c e (0,0)))(h1:e≠44)(h2:e≠2):r≠b:=by
 obtain⟨d,h|h⟩:=h.blk hr
 ·exact i4 h hb (Ne.symm h1)
 ·exact i4 h hb (Ne.symm h2)
theorem R2.low_m(h:R2 w b0 B s ts):B.mb<w.heap.size:=(Array.getElem?_eq_some_iff.1 h.o).1
theorem R2.more(h:R2 w b0 B s ts)(hs:∀r,r<w.heap.size→w'.heap[r]? =w.heap[r]?):R2 w' b0 B s ts:=
 ⟨h.wf,(hs _ h.low_m).trans h.o,K0 h.wds fun b hb _=>by obtain⟨c,hc⟩:=X1 h.wds hb;exact hs b (Q3 hc),K0 h.row fun b hb _=>by obtain⟨c,hc⟩:=X1 h.row hb;exact hs b (Q3 hc),fun t ht=>(h.thr t ht).same fun r hr=>hs r ((h.thr t ht).low hr),h.tt,h.wn,h.b1,h.b2,h.b3,h.b4⟩
theorem R2.heap(h:R2 w b0 B s ts)(e:w'.heap=w.heap):R2 w' b0 B s ts:=h.more fun _ _=>by rw[e]
theorem R2.w_ty(h:R2 w b0 B s ts):∃c,w.heap[B.wb]? =some (.cells c 2 (0,0)):=X1 h.wds rfl
theorem R2.mw(h:R2 w b0 B s ts):B.wb≠B.mb:=by
 obtain⟨c,hc⟩:=h.w_ty
 exact i4 hc h.o (by decide)
theorem l03:∀(ts:List T3) (i:Nat) (t:T3) (j:Nat),ts[i]? =some t→j<8→(r8C ts)[i*8+j]? =t.cells[j]?
 | [],i,t,j,h,_=>by simp at h
 | x::l,0,t,j,h,hj=>by
   simp at h
   subst h
   have e:r8C (x::l)=x.cells++r8C l:=rfl
   rw[e,show 0*8+j=j by omega,List.getElem?_append_left (by simp[T3.cells];omega)]
 | x::l,i+1,t,j,h,hj=>by
   have ih:=l03 l i t j (by simpa using h) hj
   have e:r8C (x::l)=x.cells++r8C l:=rfl
   rw[e,List.getElem?_append_right (by simp[T3.cells];omega),show(i+1)*8+j - x.cells.length=i*8+j by simp[T3.cells];omega]
   exact ih
theorem l04:∀(ts:List T3) (i:Nat) (t t':T3) (j:Nat) (v:Value),ts[i]? =some t→j<8→t'.cells=t.cells.set j v→r8C (ts.set i t')=(r8C ts).set (i*8+j) v
 | [],i,t,t',j,v,h,_,_=>by simp at h
 | x::l,0,t,t',j,v,h,hj,hc=>by
   simp at h
   subst h
   have e:r8C (x::l)=x.cells++r8C l:=rfl
   have e2:r8C ((x::l).set 0 t')=t'.cells++r8C l:=rfl
   rw[e,e2,hc,show 0*8+j=j by omega,List.set_append_left _ _ (by simp[T3.cells];omega)]
 | x::l,i+1,t,t',j,v,h,hj,hc=>by
   have ih:=l04 l i t t' j v (by simpa using h) hj hc
   have e:r8C (x::l)=x.cells++r8C l:=rfl
   have e2:r8C ((x::l).set (i+1) t')=x.cells++r8C (l.set i t'):=rfl
   rw[e,e2,List.set_append_right _ _ (by simp[T3.cells];omega),ih,show(i+1)*8+j - x.cells.length=i*8+j by simp[T3.cells];omega]
theorem d0B{n size k g cap:Nat}{e:TypeId}{v:Value}{xs:List Value}(h:w.ownsRow 0 e size (vL g 0 n cap) n xs)(hk:k<n*size):(w.setCell ⟨g,k,none⟩ v).ownsRow 0 e size (vL g 0 n cap) n (xs.set k v):=by
 refine⟨by simpa using h.1,?_⟩
 rcases h.2 with⟨h1,_⟩|⟨b,cap',cur,h1,h3,h4,h5,h6,h7,h8⟩
 ·cases h1
 ·cases h1
  refine .inr ⟨g,cap,cur.setIfInBounds k v,rfl,h3,v5 h4,h5,h6,by simpa using h7,?_⟩
  rw[← h8,Array.toList_setIfInBounds,List.take_set]
structure z0O(w:World)(B:R8B)(s:R1)(n i tb tc:Nat)(t:T3):Prop where
 tv:B.tv=vL tb 0 n tc
 m0:w.cell? ⟨B.mb,0,none⟩=some (vI s.ver)
 m1:w.cell? ⟨B.mb,1,none⟩=some (vL B.wb 0 s.ws.length B.wc)
 m2:w.cell? ⟨B.mb,2,none⟩=some (vL tb 0 n tc)
 zm:∀j,w.frozen? ⟨B.mb,j,none⟩=false
 t0:w.cell? ⟨tb,i*8,none⟩=some t.op
 t1:w.cell? ⟨tb,i*8+1,none⟩=some t.av
 t3:w.cell? ⟨tb,i*8+3,none⟩=some (vI t.k)
 t4:w.cell? ⟨tb,i*8+4,none⟩=some (vI t.pc)
 t5:w.cell? ⟨tb,i*8+5,none⟩=some (vI t.tr)
 t6:w.cell? ⟨tb,i*8+6,none⟩=some (vI t.v)
 t7:w.cell? ⟨tb,i*8+7,none⟩=some t.sv
 zt:∀j,w.frozen? ⟨tb,j,none⟩=false
 mt:B.mb≠tb
 wt:B.wb≠tb
 lt:tb<w.heap.size
theorem R2.fx(h:R2 w b0 B s ts){i:Nat}{t:T3}(ht:ts[i]? =some t):∃tb tc,z0O w B s ts.length i tb tc t:=by
 have hi:=(List.getElem?_eq_some_iff.1 ht).1
 have hg:∀j x,t.cells[j]? =some x→∃b cap,B.tv=vL b 0 ts.length cap∧At w ⟨b,i*8+j,none⟩ x:=fun j x hj=>M5 h.row (by
  have:j<8:=by have:=(List.getElem?_eq_some_iff.1 hj).1;simpa [T3.cells]using this
  rw[l03 ts i t j ht this];exact hj)
 obtain⟨tb,tc,e,g0⟩:=hg 0 t.op rfl
 have hg2:∀j x,t.cells[j]? =some x→w.cell? ⟨tb,i*8+j,none⟩=some x:=fun j x hj=>by
  obtain⟨b,cap,e2,g⟩:=hg j x hj
  rw[e]at e2
  cases e2
  exact g.c
 have ho:=h.o
 obtain⟨c,hc⟩:=X1 h.row (r:=tb) (by rw[e];rfl)
 obtain⟨d,hd⟩:=h.w_ty
 refine⟨tb,tc,e,by simp[World.cell?,ho],by simp[World.cell?,ho],by simp[World.cell?,ho,e],fun j=>by simp[World.frozen?,ho],g0.c,hg2 1 _ rfl,hg2 3 _ rfl,hg2 4 _ rfl,hg2 5 _ rfl,hg2 6 _ rfl,hg2 7 _ rfl,fun j=>by simp[World.frozen?,hc],i4 ho hc (by decide),i4 hd hc (by decide),(Q3 hc)⟩
theorem R2.wcell(h:R2 w b0 B s ts){i:Nat}(hi:i<s.ws.length):w.cell? ⟨B.wb,i,none⟩=some (vI (s.ws.getD i 0))∧w.frozen? ⟨B.wb,i,none⟩=false:=by
 obtain⟨b,cap,e,g⟩:=M5 h.wds (k:=i) (x:=vI (s.ws.getD i 0)) (by simp[List.getD_eq_getElem?_getD,List.getElem?_eq_getElem hi])
 cases e
 exact⟨g.c,g.z⟩
theorem d0R.set{r:Nat}{a:Addr}{v:Value}(h:d0R w r):d0R (w.setCell a v) r:=fun c y z q e=>by
 by_cases hr:r=a.block
 ·subst hr
  simp only[World.setCell,Array.getElem?_modify,if_true]at e
  obtain⟨o,ho,he⟩:=Option.map_eq_some_iff.1 e
  cases o with
  | cells d t x=>
    simp only[Obj.cells.injEq]at he
    obtain⟨_,rfl,rfl⟩:=he
    exact h d t x q ho
  | _=>cases he
 ·rw[I0 _ _ _ hr]at e
  exact h _ _ _ q e
theorem R2.nt_m(h:R2 w b0 B s ts):d0R w B.mb:=fun c y z q e=>by have hd:=h.o;rcases q with rfl|rfl<;>(rw[e]at hd;cases hd)
theorem R2.nt_w(h:R2 w b0 B s ts):d0R w B.wb:=fun c y z q e=>by obtain⟨d,hd⟩:=h.w_ty;rcases q with rfl|rfl<;>(rw[e]at hd;cases hd)
theorem R2.nt_t{tb n tc:Nat}(h:R2 w b0 B s ts)(htv:B.tv=vL tb 0 n tc):d0R w tb:=fun c y z q e=>by obtain⟨d,hd⟩:=X1 h.row (r:=tb) (by rw[htv];rfl);rcases q with rfl|rfl<;>(rw[e]at hd;cases hd)
theorem R2.no3(h:R2 w b0 B s ts){t:T3}(ht:t∈ts){r:Nat}(hr:R8R t r){c:Array Value}{y:TypeId}{z:Nat×Nat}(q:y=3∨y=31)(e:w.heap[r]? =some (.cells c y z)):False:=by
 obtain⟨d,hd|hd⟩:=(h.thr t ht).blk hr<;>rcases q with rfl|rfl<;>(rw[e]at hd;cases hd)
theorem D2.set{b0:Nat}{u:World}(h:D2 b0 w u){a:Addr}(ha:b0≤a.block)(v:Value)(hn:d0R w a.block∨d0R u a.block:=by first|(apply Or.inl;apply R2.nt_t<;>assumption)|(apply Or.inl;apply R2.nt_m;assumption)|(apply Or.inl;apply R2.nt_w;assumption)|(apply Or.inr;(repeat apply d0R.set);apply R2.nt_t<;>assumption)|(apply Or.inr;(repeat apply d0R.set);apply R2.nt_m;assumption)|(apply Or.inr;(repeat apply d0R.set);apply R2.nt_w;assumption)):D2 b0 w (u.setCell a v):=
 ⟨by rw[World.size_setCell];exact h.s,fun r hr=>(I0 _ _ _ (by omega)).trans (h.o r hr),fun r c y z q e=>(I0 _ _ _ fun hr=>hn.elim (fun hn=>hn c y z q (hr ▸ e)) fun hn=>hn c y z q (hr ▸ (h.t r c y z q e).trans e)).trans (h.t r c y z q e)⟩
end
section
variable{w w':World}{b0:Nat}{B:R8B}{s:R1}{ts:List T3}
theorem g9{α:Type}{l:List α}{i j:Nat}{x y:α}(h:(l.set i x)[j]? =some y):(j=i∧y=x)∨(j≠i∧l[j]? =some y):=by
 rw[List.getElem?_set]at h
 by_cases e:i=j
 ·subst e
  rw[if_pos rfl]at h
  split at h
  ·cases h;exact .inl ⟨rfl,rfl⟩
  ·cases h
 ·rw[if_neg e]at h
  exact .inr ⟨fun h=>e h.symm,h⟩
theorem c0z{α:Type}{l:List α}{x:α}(h:x∈l):∃i:Nat,l[i]? =some x:=List.mem_iff_getElem?.1 h
theorem R2.put{U:World}{i tb tc j:Nat}{t t':T3}{v:Value}(h:R2 w b0 B s ts)(ht:ts[i]? =some t)(htv:B.tv=vL tb 0 ts.length tc)(hj:j<8)(hc:t'.cells=t.cells.set j v)
 (hsz:w.heap.size≤U.heap.size) (hold:∀r,r<w.heap.size→¬R8R t r→U.heap[r]? =w.heap[r]?) (hH:R8H U t') (hR:∀r,R8R t' r→R8R t r∨w.heap.size≤r) (hb:b0≤w.heap.size):
 R2 (U.setCell ⟨tb,i*8+j,none⟩ v) b0 B s (ts.set i t'):=by
 have hi:=(List.getElem?_eq_some_iff.1 ht).1
 have hmem:t∈ts:=List.mem_of_getElem? ht
 have hT:=h.thr t hmem
 obtain⟨c,hcb⟩:=X1 h.row (r:=tb) (by rw[htv];rfl)
 obtain⟨d,hd⟩:=h.w_ty
 have n1:B.mb≠tb:=i4 h.o hcb (by decide)
 have n2:B.wb≠tb:=i4 hd hcb (by decide)
 have htb:=(Q3 hcb)
 have k1:¬R8R t tb:=fun hr=>hT.ne hr hcb (by decide) (by decide) rfl
 have k2:¬R8R t B.mb:=fun hr=>hT.ne hr h.o (by decide) (by decide) rfl
 have k3:¬R8R t B.wb:=h.wn t hmem
 have e1:∀r,r<w.heap.size→¬R8R t r→r≠tb→(U.setCell ⟨tb,i*8+j,none⟩ v).heap[r]? =w.heap[r]?:=fun r h1 h2 h3=>(I0 _ _ _ h3).trans (hold r h1 h2)
 have hnt:∀r,R8R t' r→r≠tb:=fun r hr=>(hR r hr).elim (fun h e=>k1 (e ▸ h)) fun h=>by omega
 have hlen:(ts.set i t').length=ts.length:=List.length_set
 refine⟨h.wf,(e1 _ h.low_m k2 n1).trans h.o,K0 h.wds fun b hb _=>?_,?_,fun u hu=>?_,fun x y u1 u2 h1 h2 hne r hr1 hr2=>?_,fun u hu hr=>?_,h.b1,h.b2,h.b3,fun u hu r hr=>?_⟩
 ·simp only[Value.ownBlock,Option.some.injEq]at hb
  subst hb
  exact e1 _ (Q3 hd) k3 n2
 ·rw[hlen,l04 ts i t t' j v ht hj hc]
  have hr:U.ownsRow 0 149 8 B.tv ts.length (r8C ts):=K0 h.row fun b hb _=>by
   rw[htv]at hb
   simp only[Value.ownBlock,Option.some.injEq]at hb
   subst hb
   exact hold _ htb k1
  rw[htv]at hr ⊢
  exact d0B hr (by omega)
 ·obtain⟨k,hk⟩:=c0z hu
  rcases g9 hk with⟨rfl,rfl⟩|⟨hne,hk⟩
  ·exact hH.same fun r hr=>I0 _ _ _ (hnt r hr)
  ·have hu2:=h.thr u (List.mem_of_getElem? hk)
   exact hu2.same fun r hr=>e1 r (hu2.low hr) (fun h2=>h.tt k i u t hk ht hne r hr h2) (hu2.ne hr hcb (by decide) (by decide))
 ·rcases g9 h1 with⟨e1,e2⟩|⟨hx,g1⟩
  ·rcases g9 h2 with⟨e3,e4⟩|⟨hy,g2⟩
   ·exact hne (e1.trans e3.symm)
   ·have hlow:=(h.thr u2 (List.mem_of_getElem? g2)).low hr2
    rw[e2]at hr1
    rcases hR r hr1 with h3|h3
    ·exact h.tt i y t u2 ht g2 (Ne.symm hy) r h3 hr2
    ·omega
  ·rcases g9 h2 with⟨e3,e4⟩|⟨hy,g2⟩
   ·have hlow:=(h.thr u1 (List.mem_of_getElem? g1)).low hr1
    rw[e4]at hr2
    rcases hR r hr2 with h3|h3
    ·exact h.tt x i u1 t g1 ht hx r hr1 h3
    ·omega
   ·exact h.tt x y u1 u2 g1 g2 hne r hr1 hr2
 ·obtain⟨k,hk⟩:=c0z hu
  rcases g9 hk with⟨rfl,rfl⟩|⟨hne,hk⟩
  ·rcases hR _ hr with h3|h3
   ·exact k3 h3
   ·have:=(Q3 hd)
    omega
  ·exact h.wn u (List.mem_of_getElem? hk) hr
 ·obtain⟨k,hk⟩:=c0z hu
  rcases g9 hk with⟨rfl,rfl⟩|⟨hne,hk⟩
  ·rcases hR r hr with h3|h3
   ·exact h.b4 t hmem r h3
   ·omega
  ·exact h.b4 u (List.mem_of_getElem? hk) r hr
theorem R2.bs(h:R2 w b0 B s ts):b0≤w.heap.size:=Nat.le_trans h.b1 (Nat.le_of_lt h.low_m)
section
variable{i tb tc:Nat}{t:T3}
theorem R2.num(h:R2 w b0 B s ts)(ht:ts[i]? =some t)(htv:B.tv=vL tb 0 ts.length tc)(j:Nat)(t':T3)(v:Value)(hj:j<8)(hc:t'.cells=t.cells.set j v)(e1:t'.av=t.av)(e2:t'.ans=t.ans)(e3:t'.so=none∨t'.so=some []∧t'.sv= .slice none 0 0∨t'.so=t.so∧t'.sv=t.sv):R2 (w.setCell ⟨tb,i*8+j,none⟩ v) b0 B s (ts.set i t'):=by
 have hT:=h.thr t (List.mem_of_getElem? ht)
 refine h.put (t':=t') ht htv hj hc (Nat.le_refl _) (fun _ _ _=>rfl) ⟨by rw[e1,e2];exact hT.av,by rw[e2];exact hT.au,fun l hl=>?_,fun hn r hr a ha=>?_⟩ (fun r hr=>.inl ?_) h.bs
 ·rcases e3 with e3|⟨e3,e4⟩|⟨e3,e4⟩
  ·rw[e3]at hl;cases hl
  ·rw[e3]at hl
   cases hl
   rw[e4]
   exact⟨rfl,.inl ⟨rfl,rfl⟩⟩
  ·rw[e4];exact hT.sv l (e3 ▸ hl)
 ·rcases e3 with e3|⟨e3,e4⟩|⟨e3,e4⟩
  ·exact absurd e3 hn
  ·rw[e4]at hr;cases hr
  ·exact hT.dj (e3 ▸ hn) r (e4 ▸ hr) a (e2 ▸ ha)
 ·rcases hr with hr|⟨hn,hr⟩|⟨a,ha,hr⟩
  ·exact .inl (e1 ▸ hr)
  ·rcases e3 with e3|⟨e3,e4⟩|⟨e3,e4⟩
   ·exact absurd e3 hn
   ·rw[e4]at hr;cases hr
   ·exact .inr (.inl ⟨e3 ▸ hn,e4 ▸ hr⟩)
  ·exact .inr (.inr ⟨a,e2 ▸ ha,hr⟩)
theorem R2.ver(h:R2 w b0 B s ts)(v:Int):R2 (w.setCell ⟨B.mb,0,none⟩ (vI v)) b0 B {s with ver:=v} ts:=by
 have hn:=h.mw
 have e1:∀r,r≠B.mb→(w.setCell ⟨B.mb,0,none⟩ (vI v)).heap[r]? =w.heap[r]?:=fun r hr=>I0 _ _ _ hr
 refine⟨⟨h.wf.n1,h.wf.n2⟩,?_,K0 h.wds fun b hb _=>?_,K0 h.row fun b hb _=>?_,fun u hu=>(h.thr u hu).same fun r hr=>e1 r ((h.thr u hu).ne hr h.o (by decide) (by decide)),h.tt,h.wn,h.b1,h.b2,h.b3,h.b4⟩
 ·rw[v5 h.o]
  simp
 ·simp only[Value.ownBlock,Option.some.injEq]at hb
  subst hb
  exact e1 _ hn
 ·obtain⟨c,hc⟩:=X1 h.row hb
  exact e1 b (i4 hc h.o (by decide))
theorem R2.word(h:R2 w b0 B s ts){k:Nat}(hk:k<s.ws.length)(v:Int):R2 (w.setCell ⟨B.wb,k,none⟩ (vI v)) b0 B {s with ws:=s.ws.set k v} ts:=by
 have hn:=h.mw
 obtain⟨d,hd⟩:=h.w_ty
 have e1:∀r,r≠B.wb→(w.setCell ⟨B.wb,k,none⟩ (vI v)).heap[r]? =w.heap[r]?:=fun r hr=>I0 _ _ _ hr
 refine⟨⟨by simpa using h.wf.n1,by simpa using h.wf.n2⟩,?_,?_,K0 h.row fun b hb _=>?_,fun u hu=>(h.thr u hu).same fun r hr=>e1 r fun e=>h.wn u hu (e ▸ hr),h.tt,h.wn,h.b1,h.b2,h.b3,h.b4⟩
 ·rw[e1 _ hn.symm]
  simpa using h.o
 ·have:=d0B (k:=k) (v:=vI v) h.wds (by omega)
  simpa [List.map_set]using this
 ·obtain⟨c,hc⟩:=X1 h.row hb
  exact e1 b (i4 hc hd (by decide))
theorem R2.seen{U:World}{l:List Int}{x:Int}{v':Value}(h:R2 w b0 B s ts)(ht:ts[i]? =some t)(htv:B.tv=vL tb 0 ts.length tc)(hl:t.so=some l)(hsz:w.heap.size≤U.heap.size)(hown:U.ownsRow 0 2 1 v' (l.length+1) ((l.map fun v=>vI v)++[vI x]))
 (hold:∀r,r<w.heap.size→some r≠t.sv.ownBlock→U.heap[r]? =w.heap[r]?) (hfr:v'.ownBlock=t.sv.ownBlock∨∃g,v'.ownBlock=some g∧w.heap.size≤g):
 R2 (U.setCell ⟨tb,i*8+7,none⟩ v') b0 B s (ts.set i {t with sv:=v',so:=some (l++[x])}):=by
 have hT:=h.thr t (List.mem_of_getElem? ht)
 have hn:t.so≠none:=by simp[hl]
 have hsr:=hT.sv l hl
 have hav:∀r,t.av.ownBlock=some r→U.heap[r]? =w.heap[r]?:=fun r hr=>by
  obtain⟨c,hc⟩:=X1 hT.av hr
  refine hold r (Q3 hc) fun e=>?_
  obtain⟨d,hd⟩:=X1 hsr e.symm
  exact i4 hc hd (by decide) rfl
 have hal:∀a∈t.ans,∀r,a.row.ownBlock=some r→U.heap[r]? =w.heap[r]?:=fun a ha r hr=>by
  obtain⟨c,hc⟩:=X1 (hT.au a ha) hr
  exact hold r (Q3 hc) fun e=>hT.dj hn r e.symm a ha hr
 refine h.put (t':={t with sv:=v',so:=some (l++[x])}) ht htv (by omega) rfl hsz (fun r h1 h2=>hold r h1 fun e=>h2 (.inr (.inl ⟨hn,e.symm⟩))) ⟨K0 hT.av fun b hb _=>hav b hb,fun a ha=>K0 (hT.au a ha) fun b hb _=>hal a ha b hb,fun l2 hl2=>?_,fun _ r hr a ha h2=>?_⟩ (fun r hr=>?_) h.bs
 ·cases hl2
  simpa using hown
 ·rcases hfr with e|⟨g,e,hg⟩
  ·exact hT.dj hn r (e ▸ hr) a ha h2
  ·have hr:v'.ownBlock=some r:=hr
   rw[e]at hr
   cases hr
   obtain⟨c,hc⟩:=X1 (hT.au a ha) h2
   have:=(Q3 hc)
   omega
 ·rcases hr with hr|⟨_,hr⟩|⟨a,ha,hr⟩
  ·exact .inl (.inl hr)
  ·have hr:v'.ownBlock=some r:=hr
   rcases hfr with e|⟨g,e,hg⟩
   ·exact .inl (.inr (.inl ⟨hn,e ▸ hr⟩))
   ·rw[e]at hr
    cases hr
    exact .inr hg
  ·exact .inl (.inr (.inr ⟨a,ha,hr⟩))
theorem R2.note{U:World}{a:SA}{v':Value}(h:R2 w b0 B s ts)(ht:ts[i]? =some t)(htv:B.tv=vL tb 0 ts.length tc)(ha:a.row= .slice none 0 0∧a.an.2.2=[]∨∃l,t.so=some l∧a.row=t.sv∧a.an.2.2=l)(hsz:w.heap.size≤U.heap.size)(hown:U.ownsRow 0 44 3 v' (t.ans.length+1) (e9 t.ans++a.v.cells))
 (hold:∀r,r<w.heap.size→some r≠t.av.ownBlock→U.heap[r]? =w.heap[r]?) (hfr:v'.ownBlock=t.av.ownBlock∨∃g,v'.ownBlock=some g∧w.heap.size≤g):
 R2 (U.setCell ⟨tb,i*8+1,none⟩ v') b0 B s (ts.set i {t with av:=v',ans:=t.ans++[a],so:=none}):=by
 have hT:=h.thr t (List.mem_of_getElem? ht)
 have hal:∀(v:Value) n xs,w.ownsRow 0 2 1 v n xs→U.ownsRow 0 2 1 v n xs:=fun v n xs hv=>K0 hv fun b hb _=>by
  obtain⟨c,hc⟩:=X1 hv hb
  refine hold b (Q3 hc) fun e=>?_
  obtain⟨d,hd⟩:=X1 hT.av e.symm
  exact i4 hc hd (by decide) rfl
 have hau:SAU a U:=by
  rcases ha with⟨e1,e2⟩|⟨l,e0,e1,e2⟩
  ·unfold SAU
   rw[e1,e2]
   exact⟨rfl,.inl ⟨rfl,rfl⟩⟩
  ·unfold SAU
   rw[e1,e2]
   exact hal _ _ _ (hT.sv l e0)
 refine h.put (t':={t with av:=v',ans:=t.ans++[a],so:=none}) ht htv (by omega) rfl hsz (fun r h1 h2=>hold r h1 fun e=>h2 (.inl e.symm)) ⟨?_,fun x hx=>?_,fun l hl=>(by cases hl),fun hn=>absurd rfl hn⟩ (fun r hr=>?_) h.bs
 ·have e:e9 (t.ans++[a])=e9 t.ans++a.v.cells:=by simp[e9]
  show U.ownsRow 0 44 3 v' (t.ans++[a]).length (e9 (t.ans++[a]))
  rw[e,List.length_append]
  exact hown
 ·have hx:x∈t.ans++[a]:=hx
  rcases List.mem_append.1 hx with hx|hx
  ·exact hal _ _ _ (hT.au x hx)
  ·rw[List.mem_singleton.1 hx];exact hau
 ·rcases hr with hr|⟨hn,_⟩|⟨x,hx,hr⟩
  ·have hr:v'.ownBlock=some r:=hr
   rcases hfr with e|⟨g,e,hg⟩
   ·exact .inl (.inl (e ▸ hr))
   ·rw[e]at hr
    cases hr
    exact .inr hg
  ·exact absurd rfl hn
  ·have hx:x∈t.ans++[a]:=hx
   rcases List.mem_append.1 hx with hx|hx
   ·exact .inl (.inr (.inr ⟨x,hx,hr⟩))
   ·rw[List.mem_singleton.1 hx]at hr
    rcases ha with⟨e1,e2⟩|⟨l,e0,e1,e2⟩
    ·rw[e1]at hr;cases hr
    ·exact .inl (.inr (.inl ⟨by simp[e0],e1 ▸ hr⟩))
end
end
section
def Ld(t:TypeId)(o:Operand):Op:=.load t o
@[go_sem] theorem f0U(t:TypeId)(o:Operand):Ld t o= .load t o:=rfl
variable{w w':World}{b0:Nat}{B:R8B}{s:R1}{ts:List T3}
theorem R2.num2{i tb tc:Nat}{t:T3}(h:R2 w b0 B s (ts.set i t))(hi:i<ts.length)(htv:B.tv=vL tb 0 ts.length tc)(j:Nat)(t':T3)(v:Value)(hj:j<8)(hc:t'.cells=t.cells.set j v)(e1:t'.av=t.av)(e2:t'.ans=t.ans)(e3:t'.so=none∨t'.so=some []∧t'.sv= .slice none 0 0∨t'.so=t.so∧t'.sv=t.sv):R2 (w.setCell ⟨tb,i*8+j,none⟩ v) b0 B s (ts.set i t'):=by
 have hlen:(ts.set i t).length=ts.length:=List.length_set
 have:=h.num (i:=i) (t:=t) (tb:=tb) (tc:=tc) (by simp[List.getElem?_set,hi]) (by rw[hlen];exact htv) j t' v hj hc e1 e2 e3
 rwa [List.set_set]at this
def T3.fin(t:T3)(av':Value)(a:SA):T3:={t with av:=av',ans:=t.ans++[a],so:=none,k:=t.k+1,pc:=0}
def u0i(t:T3)(a:SA):Prop:=a.row= .slice none 0 0∧a.an.2.2=[]∨∃l,t.so=some l∧a.row=t.sv∧a.an.2.2=l
theorem L2{w:World}{a b k j:Nat}{v:Value}(h:a≠b):(w.setCell ⟨a,k,none⟩ v).cell? ⟨b,j,none⟩=w.cell? ⟨b,j,none⟩:=World.cell?_setCell_other _ _ _ _ (by intro e;injection e with e1;exact h e1)
theorem k0d{i:Nat}{t:T3}{a:SA}(h:R2 w b0 B s ts)(ht:ts[i]? =some t)(ha:u0i t a)(hl:t.ans.length<100000000)(hk:t.k<100000000):
 Calls Try.prog 107 #[vP B.mb 0,vI i,.agg #[.bool a.an.1,vI a.an.2.1,.slice a.la a.ll a.lc]] w fun e w'=>e= .returned (.tuple #[])∧(∃av',R2 w' b0 B s (ts.set i (t.fin av' a)))∧D2 b0 w w':=by
 obtain⟨i0,z0,hi,hz0,hz1,hz2,hz3⟩:=s0v
 obtain⟨x1,x2,x3⟩:∃b n r,b=a.an.1∧n=a.an.2.1∧r=a:=⟨_,_,_,rfl,rfl,rfl⟩
 have hw1:(w.alloc (.cells #[.bool a.an.1,vI a.an.2.1,.slice a.la a.ll a.lc] 44)).heap[w.heap.size]? =some (.cells #[.bool a.an.1,vI a.an.2.1,.slice a.la a.ll a.lc] 44 (0,0)):=heap_alloc_new _ _
 have hsame:∀r,r<w.heap.size→(w.alloc (.cells #[.bool a.an.1,vI a.an.2.1,.slice a.la a.ll a.lc] 44)).heap[r]? =w.heap[r]?:=fun r hr=>D0 _ _ hr
 have hsz1:(w.alloc (.cells #[.bool a.an.1,vI a.an.2.1,.slice a.la a.ll a.lc] 44)).heap.size=w.heap.size+1:=by simp
 have hwr:IntKind.i64.wrap ((t.k:Int)+1)=(t.k:Int)+1:=IntWalk.i64_in _ (by omega)
 have hilt:=(List.getElem?_eq_some_iff.1 ht).1
 have T0:Aside (R2 w b0 B s ts∧ts[i]? =some t∧u0i t a∧b0≤w.heap.size):=⟨h,ht,ha,h.bs⟩
 clear h ht ha x1 x2 x3
 go_enter Try.func107,Try.ntmps107
 go_wp2
 generalize w.alloc (.cells #[.bool a.an.1,vI a.an.2.1,.slice a.la a.ll a.lc] 44)=W at hw1 hsame hsz1 ⊢
 have hA:=T0.out.1.more hsame
 have hT:=hA.thr t (List.mem_of_getElem? T0.out.2.1)
 have htb0:∀tb,B.tv.ownBlock=some tb→tb<w.heap.size:=fun tb h=>by obtain⟨c,hc⟩:=X1 T0.out.1.row h;exact(Q3 hc)
 obtain⟨tb,tc,htv,m0,m1,m2,zm,t0,t1,t3,t4,t5,t6,t7,zt,mt,wt,htb⟩:=hA.fx T0.out.2.1
 have c0:W.cell? ⟨w.heap.size,0,none⟩=some (.bool a.an.1):=by simp[World.cell?,hw1]
 have c1:W.cell? ⟨w.heap.size,1,none⟩=some (vI a.an.2.1):=by simp[World.cell?,hw1]
 have c2:W.cell? ⟨w.heap.size,2,none⟩=some (.slice a.la a.ll a.lc):=by simp[World.cell?,hw1]
 have hrow1:=hT.av
 have hma:some B.mb≠t.av.ownBlock:=fun e=>by obtain⟨c,hc⟩:=X1 hrow1 e.symm;exact i4 hc hA.o (by decide) rfl
 have hta:some tb≠t.av.ownBlock:=fun e=>by
  obtain⟨c,hc⟩:=X1 hrow1 e.symm
  obtain⟨d,hd⟩:=X1 hA.row (r:=tb) (by rw[htv];rfl)
  exact i4 hc hd (by decide) rfl
 have htb0:=htb0 tb (by rw[htv];rfl)
 have hmlt:=hA.low_m
 have hA0:∀r,t.av.ownBlock=some r→r<w.heap.size:=fun r hr=>(T0.out.1.thr t (List.mem_of_getElem? T0.out.2.1)).low (.inl hr)
 have H:Aside (R2 W b0 B s ts∧W.heap.size=w.heap.size+1∧(∀r,r<w.heap.size→W.heap[r]? =w.heap[r]?)∧B.tv=vL tb 0 ts.length tc):=⟨hA,hsz1,hsame,htv⟩
 have p1:=(O0 t1 (.cells #[.bool a.an.1,vI a.an.2.1,.slice a.la a.ll a.lc] 44)).1
 have p2:=(O0 m2 (.cells #[.bool a.an.1,vI a.an.2.1,.slice a.la a.ll a.lc] 44)).1
 have hilt2:(i:Int)<(ts.length:Int):=by omega
 clear hA hT hsame hw1 htv m0 m1 t0 t5 t6 t7
 have hba:some w.heap.size≠t.av.ownBlock:=fun e=>by have:=(hA0 w.heap.size e.symm);omega
 have hbl:w.heap.size<W.heap.size:=by omega
 have hbt:tb≠w.heap.size:=by omega
 rw[← f0U 42 (.tmp 17)]
 go_region_held3 (fun u:World=>u.cell? ⟨B.mb,2,none⟩=some (vL tb 0 ts.length tc)∧u.cell? ⟨w.heap.size,0,none⟩=some (.bool a.an.1)∧u.cell? ⟨w.heap.size,1,none⟩=some (vI a.an.2.1)∧u.cell? ⟨w.heap.size,2,none⟩=some (.slice a.la a.ll a.lc))
  (first|exact⟨m2,c0,c1,c2⟩|exact⟨(O0 m2 _).1,(O0 c0 _).1,(O0 c1 _).1,(O0 c2 _).1⟩|exact SQ.out|exact⟨(L2 mt.symm).trans SQ.out.1,(L2 hbt).trans SQ.out.2.1,(L2 hbt).trans SQ.out.2.2.1,(L2 hbt).trans SQ.out.2.2.2⟩|go_keep)
  (first|(refine O4 rfl (.tmp 18) (.tmp 20) 42 rfl 44 i0 z0 3 40 Try.underlying42 hi hz0 hz1 hz2 hz3 (by decide) t.av t.ans.length (e9 t.ans) (by simp[Act.eval,Act.put]) ((show W.drew.ownsRow 0 44 3 _ _ _ from hrow1).alloc _) ⟨W.heap.size,0,none⟩ 1 1 a.v.cells (by simp[Act.eval,Act.put]) rfl (N4 (X:=W.drew) (l:=[.bool a.an.1,vI a.an.2.1,.slice a.la a.ll a.lc]) rfl) (by intro u hu;simp[j0K.cells,SA.v]at hu;rcases hu with rfl|rfl|rfl<;>rfl) (by unfold maxLen;omega) (by omega) ?_;intro v' w3 hown hgrow hfr;obtain⟨g,cap,rfl⟩:=j5 hown;have hk1:=M2 (W:=W.drew) hgrow (r:=tb) htb hta;have hk2:=M2 (W:=W.drew) hgrow (r:=B.mb) hmlt hma;have hk3:=M2 (W:=W.drew) hgrow (r:=w.heap.size) hbl hba;have k0:=(F1 (j:=2) hk2).1.trans m2;have k1:=(F1 (j:=i*8+3) hk1).1.trans t3;have k2:=(F1 (j:=i*8+1) hk1).1.trans t1;have k4:=(F1 (j:=i*8+4) hk1).1.trans t4;have q0:=(F1 (j:=0) hk3).1.trans c0;have q1:=(F1 (j:=1) hk3).1.trans c1;have q2:=(F1 (j:=2) hk3).1.trans c2;have SQ:Aside (w3.cell? ⟨B.mb,2,none⟩=some (vL tb 0 ts.length tc)∧w3.cell? ⟨w.heap.size,0,none⟩=some (.bool a.an.1)∧w3.cell? ⟨w.heap.size,1,none⟩=some (vI a.an.2.1)∧w3.cell? ⟨w.heap.size,2,none⟩=some (.slice a.la a.ll a.lc)):=⟨k0,q0,q1,q2⟩;have zz1:=(F1 (j:=i*8+1) hk1).2.trans (zt (i*8+1));have zz3:=(F1 (j:=i*8+3) hk1).2.trans (zt (i*8+3));have zz4:=(F1 (j:=i*8+4) hk1).2.trans (zt (i*8+4));have F:Aside ((∀r,r<W.heap.size→some r≠t.av.ownBlock→w3.heap[r]? =W.heap[r]?)∧W.heap.size≤w3.heap.size∧((Value.slice (some ⟨g,0,none⟩) (t.ans.length+1) cap).ownBlock=t.av.ownBlock∨∃g',(Value.slice (some ⟨g,0,none⟩) (t.ans.length+1) cap).ownBlock=some g'∧W.heap.size≤g')):=⟨fun r hr hn=>M2 (W:=W.drew) hgrow hr hn,Nat.le_trans (by simp[World.drew]) hgrow.size,hfr.imp id fun⟨g',h1,h2⟩=>⟨g',h1,Nat.le_trans (by simp[World.drew]) h2⟩⟩;clear hgrow hfr hk1 hk2 hk3))
 all_goals(
  go_wp2
  generalize hX:w3.setCell ⟨tb,i*8+1,none⟩ (vL g 0 (t.ans.length+1) cap)=X
  have k0:X.cell? ⟨B.mb,2,none⟩=some (vL tb 0 ts.length tc):=by rw[← hX,World.cell?_setCell_other _ _ _ _ (by intro e;injection e with e1;exact mt e1.symm)];exact k0
  have k1:X.cell? ⟨tb,i*8+3,none⟩=some (vI t.k):=by rw[← hX,World.cell?_setCell_other _ _ _ _ (by intro e;injection e with _ e1;omega)];exact k1
  have k4:X.cell? ⟨tb,i*8+4,none⟩=some (vI t.pc):=by rw[← hX,World.cell?_setCell_other _ _ _ _ (by intro e;injection e with _ e1;omega)];exact k4
  have zz3:X.frozen? ⟨tb,i*8+3,none⟩=false:=by rw[← hX,World.frozen?_setCell];exact zz3
  have zz4:X.frozen? ⟨tb,i*8+4,none⟩=false:=by rw[← hX,World.frozen?_setCell];exact zz4
  have HX:Aside (w3.setCell ⟨tb,i*8+1,none⟩ (vL g 0 (t.ans.length+1) cap)=X):=hX
  have HO:Aside (w3.ownsRow 0 44 3 (vL g 0 (t.ans.length+1) cap) (t.ans.length+1) (e9 t.ans++a.v.cells)):=hown
  clear hX hown q0 q1 q2 k2 zz1 t1 t3 m2 c0 c1 c2 p1 p2 t4
  go_region_law (fail)
  all_goals go_wp2
  all_goals(
   go_end0
   obtain⟨hA,hsz,hsame,htv⟩:=H.out
   obtain⟨f1,f2,f3⟩:=F.out
   obtain⟨hw,ht,ha,hb⟩:=T0.out
   have hN:=hA.note (a:=a) ht htv ha f2 HO.out f1 f3
   rw[HX.out]at hN
   have h2:=hN.num2 hilt htv 3 {t with av:=_,ans:=t.ans++[a],so:=none,k:=t.k+1} (vI ((t.k:Int)+1)) (by omega) rfl rfl rfl (.inl rfl)
   have h3:=h2.num2 hilt htv 4 (t.fin _ a) (vI 0) (by omega) rfl rfl rfl (.inl rfl)
   have hbt:b0≤tb:=hA.b3 tb (by rw[htv];rfl)
   have hS:D2 b0 w w3:=⟨by omega,fun r hr=>(f1 r (by omega) fun e=>by have:=hA.b4 t (List.mem_of_getElem? ht) r (.inl e.symm);omega).trans (hsame r (by omega)),fun r c y z q e0=>(f1 r (by have:=(Q3 e0);omega) fun e=>hA.no3 (List.mem_of_getElem? ht) (.inl e.symm) q ((hsame r (Q3 e0)).trans e0)).trans (hsame r (Q3 e0))⟩
   have hS2:D2 b0 w X:=HX.out ▸ hS.set (a:=⟨tb,i*8+1,none⟩) hbt _
   exact⟨rfl,⟨_,h3.heap rfl⟩,((hS2.set (a:=⟨tb,i*8+3,none⟩) hbt _).set (a:=⟨tb,i*8+4,none⟩) hbt _).heap rfl⟩))
end
section
variable{w w':World}{b0:Nat}{B:R8B}{s:R1}{ts:List T3}
def T3.again(t:T3):T3:={t with tr:=t.tr - 1,pc:=1,sv:=.slice none 0 0,so:=some []}
def noA:SA:=⟨(false,0,[]),none,0,0⟩
theorem N5{ts:List T3}{i:Nat}{t t':T3}(ht:ts[i]? =some t):(ts.set i t')[i]? =some t':=by
 have:=(List.getElem?_eq_some_iff.1 ht).1
 simp[List.getElem?_set,this]
theorem d0Y{i:Nat}{t:T3}(h:R2 w b0 B s ts)(ht:ts[i]? =some t)(htr:1≤t.tr∧t.tr≤1024)(hl:t.ans.length<100000000)(hk:t.k<100000000):
 Calls Try.prog 112 #[vP B.mb 0,vI i] w fun e w'=>e= .returned (.tuple #[])∧(if t.tr=1 then ∃av',R2 w' b0 B s (ts.set i (t.again.fin av' noA))else R2 w' b0 B s (ts.set i t.again))∧D2 b0 w w':=by
 obtain⟨tb,tc,htv,m0,m1,m2,zm,t0,t1,t3,t4,t5,t6,t7,zt,mt,wt,htb⟩:=h.fx ht
 have hilt:=(List.getElem?_eq_some_iff.1 ht).1
 have hilt2:(i:Int)<(ts.length:Int):=by omega
 have hwr:IntKind.i64.wrap (t.tr - 1)=t.tr - 1:=IntWalk.i64_in _ (by omega)
 have hbt:b0≤tb:=h.b3 tb (by rw[htv];rfl)
 have H:Aside (∀X:World,X.heap=(((w.setCell ⟨tb,i*8+5,none⟩ (vI (t.tr - 1))).setCell ⟨tb,i*8+4,none⟩ (vI 1)).setCell ⟨tb,i*8+7,none⟩ (.slice none 0 0)).heap→R2 X b0 B s (ts.set i t.again)):=fun X e=>by
  have h1:=h.num ht htv 5 {t with tr:=t.tr - 1} (vI (t.tr - 1)) (by omega) rfl rfl rfl (.inr (.inr ⟨rfl,rfl⟩))
  have h2:=h1.num2 hilt htv 4 {t with tr:=t.tr - 1,pc:=1} (vI 1) (by omega) rfl rfl rfl (.inr (.inr ⟨rfl,rfl⟩))
  have h3:=h2.num2 hilt htv 7 t.again (.slice none 0 0) (by omega) rfl rfl rfl (.inr (.inl ⟨rfl,rfl⟩))
  exact h3.heap e
 have H3:Aside (∀X:World,X.heap=(((w.setCell ⟨tb,i*8+5,none⟩ (vI (t.tr - 1))).setCell ⟨tb,i*8+4,none⟩ (vI 1)).setCell ⟨tb,i*8+7,none⟩ (.slice none 0 0)).heap→D2 b0 w X):=fun X e=>((((D2.refl b0 w).set (a:=⟨tb,i*8+5,none⟩) hbt _).set (a:=⟨tb,i*8+4,none⟩) hbt _).set (a:=⟨tb,i*8+7,none⟩) hbt _).heap e
 have H2:Aside (ts[i]? =some t∧t.ans.length<100000000∧t.k<100000000):=⟨ht,hl,hk⟩
 have z4:=zt (i*8+4)
 have z5:=zt (i*8+5)
 have z7:=zt (i*8+7)
 clear zt zm t0 t1 t3 t6 m0 m1 htv h ht hl hk hbt wt htb
 by_cases e1:t.tr=1
 ·suffices h:Calls Try.prog 112 #[vP B.mb 0,vI i] w fun e w'=>e= .returned (.tuple #[])∧(∃av',R2 w' b0 B s (ts.set i (t.again.fin av' noA)))∧D2 b0 w w' by
   exact h.mono fun e u k=>by rw[if_pos e1];exact k
  have e2:t.tr - 1=0:=by omega
  have H4:Aside (∀X:World,X.heap=(((w.setCell ⟨tb,i*8+5,none⟩ (vI 0)).setCell ⟨tb,i*8+4,none⟩ (vI 1)).setCell ⟨tb,i*8+7,none⟩ (.slice none 0 0)).heap→Calls Try.prog 107 #[vP B.mb 0,vI i,.agg #[.bool false,vI 0,.slice none 0 0]] X fun e w'=>e= .returned (.tuple #[])∧(∃av',R2 w' b0 B s (ts.set i (t.again.fin av' noA)))∧D2 b0 w w'):=fun X e=>by
   have h1:=H.out X (by rw[e2];exact e)
   have h2:=H3.out X (by rw[e2];exact e)
   have:=k0d (a:=noA) h1 (N5 H2.out.1) (.inl ⟨rfl,rfl⟩) H2.out.2.1 H2.out.2.2
   simp only[List.set_set]at this
   exact this.mono fun e u ⟨k1,k2,k3⟩=>⟨k1,k2,h2.trans k3⟩
  clear htr H H3 H2
  go_enter Try.func112,Try.ntmps112
  go_wp2
  refine wp_region_noPanic ?_
  go_region_law (fail)
  all_goals(
   refine NoPanic.normal ?_
   go_wp2_with (fail)
   go_at_call 107
   refine Calls.mono (H4.out _ ?_) ?_
   ·rfl
   rintro e u ⟨rfl,hu1,hu2⟩
   have U:Aside ((∃av',R2 u b0 B s (ts.set i (t.again.fin av' noA)))∧D2 b0 w u):=⟨hu1,hu2⟩
   clear hu1 hu2
   go_wp2
   go_end0
   exact⟨rfl,U.out⟩)
 ·suffices h:Calls Try.prog 112 #[vP B.mb 0,vI i] w fun e w'=>e= .returned (.tuple #[])∧(R2 w' b0 B s (ts.set i t.again))∧D2 b0 w w' by
   exact h.mono fun e u k=>by rw[if_neg e1];exact k
  have e2:¬t.tr - 1=0:=by omega
  clear htr
  go_enter Try.func112,Try.ntmps112
  go_wp2
  refine wp_region_noPanic ?_
  go_region_law (fail)
  all_goals(
   refine NoPanic.normal ?_
   go_wp2
   go_end0
   exact⟨rfl,H.out _ rfl,H3.out _ rfl⟩)
end
section
variable{w w':World}{b0:Nat}{B:R8B}{s:R1}{ts:List T3}
def T3.bg(t:T3)(T:Int):T3:={t with pc:=1,sv:=.slice none 0 0,so:=some [],tr:=T}
theorem Q4{u v:World}{a:Addr}(e:u.heap=v.heap):u.cell? a=v.cell? a:=by simp only[World.cell?,e]
theorem g0Q{kd a b c:Int}(h:R2 w b0 B s ts):(w.alloc (.cells #[vI kd,vI a,vI b,vI c] 47)).heap[w.heap.size]? =some (.cells #[vI kd,vI a,vI b,vI c] 47 (0,0))∧(∀r,r<w.heap.size→(w.alloc (.cells #[vI kd,vI a,vI b,vI c] 47)).heap[r]? =w.heap[r]?)∧(w.alloc (.cells #[vI kd,vI a,vI b,vI c] 47)).heap.size=w.heap.size+1∧R2 (w.alloc (.cells #[vI kd,vI a,vI b,vI c] 47)) b0 B s ts∧D2 b0 w (w.alloc (.cells #[vI kd,vI a,vI b,vI c] 47)):=by
 have hsame:∀r,r<w.heap.size→(w.alloc (.cells #[vI kd,vI a,vI b,vI c] 47)).heap[r]? =w.heap[r]?:=fun r hr=>D0 _ _ hr
 exact⟨heap_alloc_new _ _,hsame,by simp,h.more hsame,by simp,fun r hr=>hsame r (by have:=h.bs;omega),fun r c y z q e=>hsame r (Q3 e)⟩
theorem B3{P:Program}{x y:Code}{R:Act→World→Prop}{Q:Exit→Act→World→Prop}{a:Act}{w:World}(h:x.wp P (F7 R) a w)(hy:∀a w,R a w→y.wp P Q a w):(Code.seq x y).wp P Q a w:=
 wp_seq (wp_mono h fun e a w q=>by
  cases e with
  | normal=>exact hy _ _ q
  | _=>exact q.elim)
theorem r00{i:Nat}{t:T3}{kd a b c:Int}(h:R2 w b0 B s ts)(ht:ts[i]? =some t)(hkd:kd<1∨5<kd)(hl:t.ans.length<100000000)(hk:t.k<100000000):
 Calls Try.prog 104 #[vP B.mb 0,vI i,.agg #[vI kd,vI a,vI b,vI c]] w fun e w'=>e= .returned (.tuple #[])∧(∃av',R2 w' b0 B s (ts.set i (t.fin av' noA)))∧D2 b0 w w':=by
 obtain⟨hw1,hsame,hsz1,hA,hS⟩:=g0Q (kd:=kd) (a:=a) (b:=b) (c:=c) h
 have H4:Aside (∀X:World,X.heap=(w.alloc (.cells #[vI kd,vI a,vI b,vI c] 47)).heap→Calls Try.prog 107 #[vP B.mb 0,vI i,.agg #[.bool false,vI 0,.slice none 0 0]] X fun e w'=>e= .returned (.tuple #[])∧(∃av',R2 w' b0 B s (ts.set i (t.fin av' noA)))∧D2 b0 w w'):=fun X e=>
  (k0d (a:=noA) (hA.heap e) ht (.inl ⟨rfl,rfl⟩) hl hk).mono fun e2 u ⟨k1,k2,k3⟩=>⟨k1,k2,(hS.heap e).trans k3⟩
 clear h ht hl hk hA hS hsame hsz1
 by_cases h1:kd<1
 ·clear hkd
  go_enter Try.func104,Try.ntmps104
  clear hw1
  go_wp2_with (fail)
  go_at_call 107
  refine Calls.mono (H4.out _ ?_) ?_
  ·rfl
  rintro e u ⟨rfl,hu⟩
  have U:Aside ((∃av',R2 u b0 B s (ts.set i (t.fin av' noA)))∧D2 b0 w u):=hu
  clear hu
  go_wp2
  exact bodyPost_ret (v:=.tuple #[]) (by simp[results,Try.f104,go_sem]) rfl ⟨rfl,U.out⟩
 ·have h5:5<kd:=by omega
  clear hkd
  go_enter Try.func104,Try.ntmps104
  clear hw1
  go_wp2_with (fail)
  go_at_call 107
  refine Calls.mono (H4.out _ ?_) ?_
  ·rfl
  rintro e u ⟨rfl,hu⟩
  have U:Aside ((∃av',R2 u b0 B s (ts.set i (t.fin av' noA)))∧D2 b0 w u):=hu
  clear hu
  go_wp2
  exact bodyPost_ret (v:=.tuple #[]) (by simp[results,Try.f104,go_sem]) rfl ⟨rfl,U.out⟩
theorem w0G{i:Nat}{t:T3}{kd a b c:Int}(h:R2 w b0 B s ts)(ht:ts[i]? =some t)(hkd:1≤kd∧kd≤5):
 Calls Try.prog 104 #[vP B.mb 0,vI i,.agg #[vI kd,vI a,vI b,vI c]] w fun e w'=>e= .returned (.tuple #[])∧R2 w' b0 B s (ts.set i (t.bg (N2 a:Nat)))∧D2 b0 w w':=by
 obtain⟨hw1,hsame,hsz1,hA,hS⟩:=g0Q (kd:=kd) (a:=a) (b:=b) (c:=c) h
 have hilt:=(List.getElem?_eq_some_iff.1 ht).1
 have hilt2:(i:Int)<(ts.length:Int):=by omega
 have htb0:∀tb,B.tv.ownBlock=some tb→tb<w.heap.size:=fun tb h2=>by obtain⟨c,hc⟩:=X1 h.row h2;exact(Q3 hc)
 have k1:¬kd<1:=by omega
 have k2:¬5<kd:=by omega
 clear h
 go_enter Try.func104,Try.ntmps104
 refine B3 (R:=fun x u=>x=⟨#[vP B.mb 0,vI i,.agg #[vI kd,vI a,vI b,vI c],undef,undef,vP w.heap.size 0,undef,undef,undef,undef,undef,undef,undef,undef,undef,undef,undef,undef,undef,undef,undef,undef,undef,undef,undef,undef,undef,undef,undef,undef,undef,undef,undef,undef,undef,undef,undef,undef,undef,undef,undef,undef,undef,undef,undef,undef,undef,undef,undef,undef,undef,undef,undef,undef,undef,undef,undef,undef,undef,undef,undef],[]⟩∧u=w.alloc (.cells #[vI kd,vI a,vI b,vI c] 47)) ?_ ?_
 ·go_wp2
  exact⟨rfl,rfl⟩
 rintro _ W ⟨rfl,hWe⟩
 rw[← hWe]at hw1 hsame hsz1 hA hS
 clear hWe
 obtain⟨tb,tc,htv,m0,m1,m2,zm,t0,t1,t3,t4,t5,t6,t7,zt,mt,wt,htb⟩:=hA.fx ht
 have htb0:=htb0 tb (by rw[htv];rfl)
 have hbt:b0≤tb:=hA.b3 tb (by rw[htv];rfl)
 have nb:tb≠w.heap.size:=by omega
 have o0:W.cell? ⟨w.heap.size,0,none⟩=some (vI kd):=by simp only[World.cell?,hw1];rfl
 have o1:W.cell? ⟨w.heap.size,1,none⟩=some (vI a):=by simp only[World.cell?,hw1];rfl
 have H:Aside (∀X:World,X.heap=(((W.setCell ⟨tb,i*8+4,none⟩ (vI 1)).setCell ⟨tb,i*8+7,none⟩ (.slice none 0 0)).setCell ⟨tb,i*8+5,none⟩ (vI a)).heap→∀Y:World,(∃T:Int,T=(N2 a:Nat)∧((T=a∧Y.heap=X.heap)∨Y.heap=(X.setCell ⟨tb,i*8+5,none⟩ (vI T)).heap))→R2 Y b0 B s (ts.set i (t.bg (N2 a:Nat)))∧D2 b0 w Y):=fun X e Y ⟨T,hT,hY⟩=>by
  rw[← hT]
  have h1:=hA.num ht htv 4 {t with pc:=1} (vI 1) (by omega) rfl rfl rfl (.inr (.inr ⟨rfl,rfl⟩))
  have h2:=h1.num2 hilt htv 7 {t with pc:=1,sv:=.slice none 0 0,so:=some []} (.slice none 0 0) (by omega) rfl rfl rfl (.inr (.inl ⟨rfl,rfl⟩))
  have h3:=(h2.num2 hilt htv 5 (t.bg a) (vI a) (by omega) rfl rfl rfl (.inr (.inl ⟨rfl,rfl⟩))).heap e
  have s3:D2 b0 w X:=(((hS.set (a:=⟨tb,i*8+4,none⟩) hbt _).set (a:=⟨tb,i*8+7,none⟩) hbt _).set (a:=⟨tb,i*8+5,none⟩) hbt _).heap e
  rcases hY with⟨e2,e3⟩|e3
  ·rw[e2]
   exact⟨h3.heap e3,s3.heap e3⟩
  ·have h4:=(h3.num2 hilt htv 5 (t.bg T) (vI T) (by omega) rfl rfl rfl (.inr (.inl ⟨rfl,rfl⟩))).heap e3
   exact⟨h4,(s3.set (a:=⟨tb,i*8+5,none⟩) hbt _).heap e3⟩
 have S1:Aside (∀u:World,u.heap=((W.setCell ⟨tb,i*8+4,none⟩ (vI 1)).setCell ⟨tb,i*8+7,none⟩ (.slice none 0 0)).heap→u.cell? ⟨B.mb,2,none⟩=some (vL tb 0 ts.length tc)∧u.cell? ⟨w.heap.size,1,none⟩=some (vI a)):=fun u e=>by
  rw[Q4 e,Q4 e]
  exact⟨(L2 mt.symm).trans ((L2 mt.symm).trans m2),(L2 nb).trans ((L2 nb).trans o1)⟩
 have S2:Aside (∀u:World,u.heap=(((W.setCell ⟨tb,i*8+4,none⟩ (vI 1)).setCell ⟨tb,i*8+7,none⟩ (.slice none 0 0)).setCell ⟨tb,i*8+5,none⟩ (vI a)).heap→u.cell? ⟨B.mb,2,none⟩=some (vL tb 0 ts.length tc)∧u.cell? ⟨w.heap.size,1,none⟩=some (vI a)):=fun u e=>by
  rw[Q4 e,Q4 e]
  exact⟨(L2 mt.symm).trans ((L2 mt.symm).trans ((L2 mt.symm).trans m2)),(L2 nb).trans ((L2 nb).trans ((L2 nb).trans o1))⟩
 have z4:=zt (i*8+4)
 have z5:=zt (i*8+5)
 have z7:=zt (i*8+7)
 clear zt zm t0 t1 t3 t6 m0 m1 htv hA hS hsame hw1 hkd ht htb hbt hsz1
 have ha3:a<1∧N2 a=1∨1024<a∧¬a<1∧N2 a=1024∨¬a<1∧¬1024<a∧(N2 a:Int)=a:=by unfold N2;omega
 rcases ha3 with⟨a1,a2⟩|⟨a1,a3,a2⟩|⟨a1,a3,a2⟩
 ·have a3:¬1024<a:=by omega
  go_wp2
  go_region_held3 (fun u:World=>u.cell? ⟨B.mb,2,none⟩=some (vL tb 0 ts.length tc)∧u.cell? ⟨w.heap.size,1,none⟩=some (vI a))
   (first|exact S1.out _ rfl|exact S2.out _ rfl|go_keep)
   (fail)
  all_goals(
   go_wp2
   go_end0
   exact⟨rfl,H.out _ rfl _ ⟨1,by rw[a2];rfl,.inr rfl⟩⟩)
 ·go_wp2
  go_region_held3 (fun u:World=>u.cell? ⟨B.mb,2,none⟩=some (vL tb 0 ts.length tc)∧u.cell? ⟨w.heap.size,1,none⟩=some (vI a))
   (first|exact S1.out _ rfl|exact S2.out _ rfl|go_keep)
   (fail)
  all_goals(
   go_wp2
   go_end0
   exact⟨rfl,H.out _ rfl _ ⟨1024,by rw[a2];rfl,.inr rfl⟩⟩)
 ·go_wp2
  go_region_held3 (fun u:World=>u.cell? ⟨B.mb,2,none⟩=some (vL tb 0 ts.length tc)∧u.cell? ⟨w.heap.size,1,none⟩=some (vI a))
   (first|exact S1.out _ rfl|exact S2.out _ rfl|go_keep)
   (fail)
  all_goals(
   go_wp2
   go_end0
   exact⟨rfl,H.out _ rfl _ ⟨a,a2.symm,.inl ⟨rfl,rfl⟩⟩⟩)
end
section
variable{w w':World}{b0:Nat}{B:R8B}{s:R1}{ts:List T3}
def FO(w':World)(b0:Nat)(B:R8B)(s:R1)(ts:List T3)(i:Nat)(t:T3):Prop:=if t.tr=1 then ∃av',R2 w' b0 B s (ts.set i (t.again.fin av' noA))else R2 w' b0 B s (ts.set i t.again)
theorem d05{ts:List T3}{i:Nat}{t:T3}:(ts.set i t).length=ts.length:=List.length_set
theorem FO.set{i:Nat}{t t':T3}(h:FO w' b0 B s (ts.set i t') i t):FO w' b0 B s ts i t:=by
 unfold FO at h ⊢
 simpa only[List.set_set]using h
section
variable{i:Nat}{t:T3}
def tv1(t:T3)(v:Int):T3:={t with v:=v}
theorem t0z(h:R2 w b0 B s ts)(ht:ts[i]? =some t)(hv:s.ver.tmod 2=0):
 Calls Try.prog 106 #[vP B.mb 0,vI i,vI 1] w fun e w'=>e= .returned (.tuple #[])∧R2 w' b0 B s (ts.set i (tv1 t s.ver))∧D2 b0 w w':=by
 obtain⟨tb,tc,htv,m0,m1,m2,zm,t0,t1,t3,t4,t5,t6,t7,zt,mt,wt,htb⟩:=h.fx ht
 have hilt:=(List.getElem?_eq_some_iff.1 ht).1
 have hilt2:(i:Int)<(ts.length:Int):=by omega
 have hbt:b0≤tb:=h.b3 tb (by rw[htv];rfl)
 have H:Aside (∀X:World,X.heap=(w.setCell ⟨tb,i*8+6,none⟩ (vI s.ver)).heap→R2 X b0 B s (ts.set i (tv1 t s.ver))):=fun X e=>(h.num ht htv 6 (tv1 t s.ver) (vI s.ver) (by omega) rfl rfl rfl (.inr (.inr ⟨rfl,rfl⟩))).heap e
 have H3:Aside (∀X:World,X.heap=(w.setCell ⟨tb,i*8+6,none⟩ (vI s.ver)).heap→D2 b0 w X):=fun X e=>((D2.refl b0 w).set (a:=⟨tb,i*8+6,none⟩) hbt _).heap e
 have S1:Aside (∀u:World,u.heap=(w.setCell ⟨tb,i*8+6,none⟩ (vI s.ver)).heap→u.cell? ⟨B.mb,2,none⟩=some (vL tb 0 ts.length tc)∧u.cell? ⟨B.mb,0,none⟩=some (vI s.ver)):=fun u e=>by
  rw[Q4 e,Q4 e]
  exact⟨(L2 mt.symm).trans m2,(L2 mt.symm).trans m0⟩
 have z6:=zt (i*8+6)
 clear zt zm t0 t1 t3 t5 t4 t7 htv h ht hbt wt htb
 go_enter Try.func106,Try.ntmps106
 go_wp2
 go_region_held3 (fun u:World=>u.cell? ⟨B.mb,2,none⟩=some (vL tb 0 ts.length tc)∧u.cell? ⟨B.mb,0,none⟩=some (vI s.ver))
  (first|exact⟨m2,m0⟩|exact S1.out _ rfl|go_keep)
  (fail)
 all_goals(
  go_wp2
  go_end0
  exact⟨rfl,H.out _ rfl,H3.out _ rfl⟩)
theorem t0B(h:R2 w b0 B s ts)(ht:ts[i]? =some t)(hv:¬s.ver.tmod 2=0)(htr:1≤t.tr∧t.tr≤1024)(hl:t.ans.length<100000000)(hk:t.k<100000000):
 Calls Try.prog 106 #[vP B.mb 0,vI i,vI 1] w fun e w'=>e= .returned (.tuple #[])∧FO w' b0 B s ts i (tv1 t s.ver)∧D2 b0 w w':=by
 obtain⟨tb,tc,htv,m0,m1,m2,zm,t0,t1,t3,t4,t5,t6,t7,zt,mt,wt,htb⟩:=h.fx ht
 have hilt:=(List.getElem?_eq_some_iff.1 ht).1
 have hilt2:(i:Int)<(ts.length:Int):=by omega
 have hbt:b0≤tb:=h.b3 tb (by rw[htv];rfl)
 have H4:Aside (∀X:World,X.heap=(w.setCell ⟨tb,i*8+6,none⟩ (vI s.ver)).heap→Calls Try.prog 112 #[vP B.mb 0,vI i] X fun e w'=>e= .returned (.tuple #[])∧FO w' b0 B s ts i (tv1 t s.ver)∧D2 b0 w w'):=fun X e=>by
  have h1:=(h.num ht htv 6 (tv1 t s.ver) (vI s.ver) (by omega) rfl rfl rfl (.inr (.inr ⟨rfl,rfl⟩))).heap e
  have h3:D2 b0 w X:=((D2.refl b0 w).set (a:=⟨tb,i*8+6,none⟩) hbt _).heap e
  exact(d0Y h1 (N5 ht) htr hl hk).mono fun e u ⟨k1,k2,k3⟩=>⟨k1,FO.set k2,h3.trans k3⟩
 have S1:Aside (∀u:World,u.heap=(w.setCell ⟨tb,i*8+6,none⟩ (vI s.ver)).heap→u.cell? ⟨B.mb,2,none⟩=some (vL tb 0 ts.length tc)∧u.cell? ⟨B.mb,0,none⟩=some (vI s.ver)):=fun u e=>by
  rw[Q4 e,Q4 e]
  exact⟨(L2 mt.symm).trans m2,(L2 mt.symm).trans m0⟩
 have z6:=zt (i*8+6)
 clear zt zm t0 t1 t3 t5 t4 t7 htv h ht hbt wt htb htr hl hk
 go_enter Try.func106,Try.ntmps106
 go_wp2
 go_region_held3 (fun u:World=>u.cell? ⟨B.mb,2,none⟩=some (vL tb 0 ts.length tc)∧u.cell? ⟨B.mb,0,none⟩=some (vI s.ver))
  (first|exact⟨m2,m0⟩|exact S1.out _ rfl|go_keep)
  (fail)
 all_goals(
  go_wp2_with (fail)
  go_at_call 112
  refine Calls.mono (H4.out _ ?_) ?_
  ·rfl
  rintro e u ⟨rfl,hu⟩
  have U:Aside (FO u b0 B s ts i (tv1 t s.ver)∧D2 b0 w u):=hu
  clear hu
  go_wp2
  go_end0
  exact⟨rfl,U.out⟩)
theorem t0C{l:List Int}{k:Nat}{p:Int}(h:R2 w b0 B s ts)(ht:ts[i]? =some t)(hso:t.so=some l)(hll:l.length≤16)(hp:p=k+2)(hkn:k<s.ws.length):
 Calls Try.prog 106 #[vP B.mb 0,vI i,vI p] w fun e w'=>e= .returned (.tuple #[])∧(∃sv',R2 w' b0 B s (ts.set i {t with sv:=sv',so:=some (l++[s.ws.getD k 0])}))∧D2 b0 w w':=by
 obtain⟨i0,z0,hi,hz0,hz1,hz2,hz3⟩:=i8
 obtain⟨tb,tc,htv,m0,m1,m2,zm,t0,t1,t3,t4,t5,t6,t7,zt,mt,wt,htb⟩:=h.fx ht
 have hilt:=(List.getElem?_eq_some_iff.1 ht).1
 have hilt2:(i:Int)<(ts.length:Int):=by omega
 have hbt:b0≤tb:=h.b3 tb (by rw[htv];rfl)
 have hT:=h.thr t (List.mem_of_getElem? ht)
 have hrow1:=hT.sv l hso
 have hma:some B.mb≠t.sv.ownBlock:=fun e=>by obtain⟨c,hc⟩:=X1 hrow1 e.symm;exact i4 hc h.o (by decide) rfl
 have hta:some tb≠t.sv.ownBlock:=fun e=>by
  obtain⟨c,hc⟩:=X1 hrow1 e.symm
  obtain⟨d,hd⟩:=X1 h.row (r:=tb) (by rw[htv];rfl)
  exact i4 hc hd (by decide) rfl
 have hwa:some B.wb≠t.sv.ownBlock:=fun e=>h.wn t (List.mem_of_getElem? ht) (.inr (.inl ⟨by simp[hso],e.symm⟩))
 have hmlt:=h.low_m
 have hwlt:B.wb<w.heap.size:=by obtain⟨d,hd⟩:=h.w_ty;exact(Q3 hd)
 obtain⟨wk,wz⟩:=h.wcell hkn
 have hn16:=h.wf.n2
 have p1:¬p=1:=by omega
 have hwr1:IntKind.i64.wrap ((s.ws.length:Int)+1)=(s.ws.length:Int)+1:=IntWalk.i64_in _ (by omega)
 have p2:p≤(s.ws.length:Int)+1:=by omega
 have hwr2:IntKind.i64.wrap (p - 2)=(k:Int):=by rw[show p - 2=(k:Int)by omega];exact IntWalk.i64_in _ (by omega)
 have hkn2:(k:Int)<(s.ws.length:Int):=by omega
 have E:Aside (R2 w b0 B s ts∧ts[i]? =some t∧t.so=some l∧B.tv=vL tb 0 ts.length tc∧b0≤tb):=⟨h,ht,hso,htv,hbt⟩
 clear h ht hso htv hbt hp hT
 clear t0 t1 t3 t4 t5 m0
 generalize s.ws.getD k 0=x at wk ⊢
 go_enter Try.func106,Try.ntmps106
 go_wp2
 rw[← f0U 22 (.tmp 54)]
 go_region_held3 (fun u:World=>u.cell? ⟨B.mb,2,none⟩=some (vL tb 0 ts.length tc)∧u.cell? ⟨B.mb,1,none⟩=some (vL B.wb 0 s.ws.length B.wc)∧u.cell? ⟨B.wb,k,none⟩=some (vI x))
  (first|exact⟨m2,m1,wk⟩|exact⟨(O0 m2 _).1,(O0 m1 _).1,(O0 wk _).1⟩|exact SQ.out|exact⟨(L2 mt.symm).trans SQ.out.1,(L2 mt.symm).trans SQ.out.2.1,(L2 wt.symm).trans SQ.out.2.2⟩|go_keep)
  (first|(refine O4 rfl (.tmp 55) (.tmp 64) 22 rfl 2 i0 z0 1 8 Try.underlying22 hi hz0 hz1 hz2 hz3 (by decide) t.sv l.length (l.map fun v=>vI v) (by simp[Act.eval,Act.put]) ((show w.drew.ownsRow 0 2 1 _ _ _ from hrow1).alloc _) ⟨w.heap.size,0,none⟩ 1 1 [vI x] (by simp[Act.eval,Act.put]) rfl (N4 (X:=w.drew) (l:=[vI x]) rfl) (by intro u hu;simp at hu;subst hu;rfl) (by unfold maxLen;omega) (by omega) ?_;intro v' w3 hown hgrow hfr;obtain⟨g,cap,rfl⟩:=j5 hown;have hk1:=M2 (W:=w.drew) hgrow (r:=tb) htb hta;have hk2:=M2 (W:=w.drew) hgrow (r:=B.mb) hmlt hma;have hk3:=M2 (W:=w.drew) hgrow (r:=B.wb) hwlt hwa;have k0:=(F1 (j:=2) hk2).1.trans m2;have k1:=(F1 (j:=1) hk2).1.trans m1;have k2:=(F1 (j:=i*8+7) hk1).1.trans t7;have k3:=(F1 (j:=k) hk3).1.trans wk;have SQ:Aside (w3.cell? ⟨B.mb,2,none⟩=some (vL tb 0 ts.length tc)∧w3.cell? ⟨B.mb,1,none⟩=some (vL B.wb 0 s.ws.length B.wc)∧w3.cell? ⟨B.wb,k,none⟩=some (vI x)):=⟨k0,k1,k3⟩;have zz7:=(F1 (j:=i*8+7) hk1).2.trans (zt (i*8+7));have F:Aside ((∀r,r<w.heap.size→some r≠t.sv.ownBlock→w3.heap[r]? =w.heap[r]?)∧w.heap.size≤w3.heap.size∧((Value.slice (some ⟨g,0,none⟩) (l.length+1) cap).ownBlock=t.sv.ownBlock∨∃g',(Value.slice (some ⟨g,0,none⟩) (l.length+1) cap).ownBlock=some g'∧w.heap.size≤g')):=⟨fun r hr hn=>M2 (W:=w.drew) hgrow hr hn,Nat.le_trans (by simp[World.drew]) hgrow.size,hfr.imp id fun⟨g',h1,h2⟩=>⟨g',h1,Nat.le_trans (by simp[World.drew]) h2⟩⟩;clear hgrow hfr hk1 hk2 hk3))
 all_goals(
  go_wp2
  go_end0
  obtain⟨h,ht,hso,htv,hbt⟩:=E.out
  obtain⟨f1,f2,f3⟩:=F.out
  have h1:=h.seen ht htv hso f2 hown f1 f3
  have h3:D2 b0 w w3:=⟨f2,fun r hr=>f1 r (by have:=h.bs;omega) fun e=>by have:=h.b4 t (List.mem_of_getElem? ht) r (.inr (.inl ⟨by simp[hso],e.symm⟩));omega,fun r c y z q e0=>f1 r (Q3 e0) fun e=>h.no3 (List.mem_of_getElem? ht) (.inr (.inl ⟨by simp[hso],e.symm⟩)) q e0⟩
  exact⟨rfl,⟨_,h1.heap rfl⟩,(h3.set (a:=⟨tb,i*8+7,none⟩) hbt _).heap rfl⟩)
theorem t0D{l:List Int}{p:Int}(h:R2 w b0 B s ts)(ht:ts[i]? =some t)(hso:t.so=some l)(hp:(s.ws.length:Int)+1<p)(hv:s.ver=t.v)(hl:t.ans.length<100000000)(hk:t.k<100000000):
 Calls Try.prog 106 #[vP B.mb 0,vI i,vI p] w fun e w'=>e= .returned (.tuple #[])∧(∃av' a,a.an=(true,0,l)∧R2 w' b0 B s (ts.set i (t.fin av' a)))∧D2 b0 w w':=by
 obtain⟨tb,tc,htv,m0,m1,m2,zm,t0,t1,t3,t4,t5,t6,t7,zt,mt,wt,htb⟩:=h.fx ht
 have hilt:=(List.getElem?_eq_some_iff.1 ht).1
 have hilt2:(i:Int)<(ts.length:Int):=by omega
 have hbt:b0≤tb:=h.b3 tb (by rw[htv];rfl)
 have hn16:=h.wf.n2
 have p1:¬p=1:=by omega
 have hwr1:IntKind.i64.wrap ((s.ws.length:Int)+1)=(s.ws.length:Int)+1:=IntWalk.i64_in _ (by omega)
 have p2:¬p≤(s.ws.length:Int)+1:=by omega
 obtain⟨la,ll,lc,hsv⟩:=F3 ((h.thr t (List.mem_of_getElem? ht)).sv l hso)
 rw[hsv]at t7
 rw[← hv]at t6
 have H4:Aside (∀X:World,X.heap=w.heap→Calls Try.prog 107 #[vP B.mb 0,vI i,.agg #[.bool true,vI 0,.slice la ll lc]] X fun e w'=>e= .returned (.tuple #[])∧(∃av' a,a.an=(true,0,l)∧R2 w' b0 B s (ts.set i (t.fin av' a)))∧D2 b0 w w'):=fun X e=>
  (k0d (a:=⟨(true,0,l),la,ll,lc⟩) (h.heap e) ht (.inr ⟨l,hso,hsv.symm,rfl⟩) hl hk).mono fun e2 u ⟨k1,⟨av',k2⟩,k3⟩=>⟨k1,⟨av',_,rfl,k2⟩,((D2.refl b0 w).heap e).trans k3⟩
 clear zt zm t0 t1 t3 t5 t4 htv h ht hbt wt htb hl hk hso hp hv hsv
 go_enter Try.func106,Try.ntmps106
 go_wp2
 go_region_held3 (fun u:World=>u.cell? ⟨B.mb,2,none⟩=some (vL tb 0 ts.length tc)∧u.cell? ⟨B.mb,0,none⟩=some (vI s.ver)∧u.cell? ⟨tb,i*8+6,none⟩=some (vI s.ver))
  (first|exact⟨m2,m0,t6⟩|go_keep)
  (fail)
 all_goals(
  go_wp2_with (fail)
  go_at_call 107
  refine Calls.mono (H4.out _ ?_) ?_
  ·rfl
  rintro e u ⟨rfl,hu⟩
  have U:Aside ((∃av' a,a.an=(true,0,l)∧R2 u b0 B s (ts.set i (t.fin av' a)))∧D2 b0 w u):=hu
  clear hu
  go_wp2
  go_end0
  exact⟨rfl,U.out⟩)
theorem t0A{p:Int}(h:R2 w b0 B s ts)(ht:ts[i]? =some t)(hp:(s.ws.length:Int)+1<p)(hv:¬s.ver=t.v)(htr:1≤t.tr∧t.tr≤1024)(hl:t.ans.length<100000000)(hk:t.k<100000000):
 Calls Try.prog 106 #[vP B.mb 0,vI i,vI p] w fun e w'=>e= .returned (.tuple #[])∧FO w' b0 B s ts i t∧D2 b0 w w':=by
 obtain⟨tb,tc,htv,m0,m1,m2,zm,t0,t1,t3,t4,t5,t6,t7,zt,mt,wt,htb⟩:=h.fx ht
 have hilt:=(List.getElem?_eq_some_iff.1 ht).1
 have hilt2:(i:Int)<(ts.length:Int):=by omega
 have hbt:b0≤tb:=h.b3 tb (by rw[htv];rfl)
 have hn16:=h.wf.n2
 have p1:¬p=1:=by omega
 have hwr1:IntKind.i64.wrap ((s.ws.length:Int)+1)=(s.ws.length:Int)+1:=IntWalk.i64_in _ (by omega)
 have p2:¬p≤(s.ws.length:Int)+1:=by omega
 have H4:Aside (∀X:World,X.heap=w.heap→Calls Try.prog 112 #[vP B.mb 0,vI i] X fun e w'=>e= .returned (.tuple #[])∧FO w' b0 B s ts i t∧D2 b0 w w'):=fun X e=>
  (d0Y (h.heap e) ht htr hl hk).mono fun e2 u ⟨k1,k2,k3⟩=>⟨k1,k2,((D2.refl b0 w).heap e).trans k3⟩
 clear zt zm t0 t1 t3 t5 t4 htv h ht hbt wt htb hl hk hp htr
 go_enter Try.func106,Try.ntmps106
 go_wp2
 go_region_held3 (fun u:World=>u.cell? ⟨B.mb,2,none⟩=some (vL tb 0 ts.length tc)∧u.cell? ⟨B.mb,0,none⟩=some (vI s.ver)∧u.cell? ⟨tb,i*8+6,none⟩=some (vI t.v))
  (first|exact⟨m2,m0,t6⟩|go_keep)
  (fail)
 all_goals(
  go_wp2_with (fail)
  go_at_call 112
  refine Calls.mono (H4.out _ ?_) ?_
  ·rfl
  rintro e u ⟨rfl,hu⟩
  have U:Aside (FO u b0 B s ts i t∧D2 b0 w u):=hu
  clear hu
  go_wp2
  go_end0
  exact⟨rfl,U.out⟩)
end
end
section
variable{w w':World}{b0:Nat}{B:R8B}{s:R1}{ts:List T3}
theorem i0j(x:Int):IntKind.i64.wrap x=RowKit.wrap64 x:=by simp only[IntKind.wrap_i64,RowKit.wrap64]
section
variable{i:Nat}{t:T3}{kd a b c:Int}
def c0k(a b c d e:Value):Array Value:= #[a,b,c,d,undef,undef,e,undef,undef,undef,undef,undef,undef,undef,undef,undef,undef,undef,undef,undef,undef,undef,undef,undef,undef,undef,undef,undef,undef,undef,undef,undef,undef,undef,undef,undef,undef,undef,undef,undef,undef,undef,undef,undef,undef,undef,undef,undef,undef,undef,undef,undef,undef,undef,undef,undef,undef,undef,undef,undef,undef,undef,undef,undef,undef,undef,undef,undef,undef,undef,undef,undef,undef,undef,undef,undef,undef,undef,undef,undef,undef,undef,undef,undef,undef,undef,undef,undef,undef,undef,undef,undef,undef,undef,undef,undef,undef,undef,undef,undef,undef,undef,undef,undef,undef,undef,undef,undef,undef,undef,undef,undef,undef,undef,undef]
theorem r0H(h:R2 w b0 B s ts)(ht:ts[i]? =some t)(hv:s.ver.tmod 2=0):
 Calls Try.prog 105 #[vP B.mb 0,vI i,.agg #[vI kd,vI a,vI b,vI c],vI 1] w fun e w'=>e= .returned (.tuple #[])∧R2 w' b0 B s (ts.set i (tv1 t s.ver))∧D2 b0 w w':=by
 obtain⟨hw1,hsame,hsz1,hA,hS⟩:=g0Q (kd:=kd) (a:=a) (b:=b) (c:=c) h
 have hilt:=(List.getElem?_eq_some_iff.1 ht).1
 have hilt2:(i:Int)<(ts.length:Int):=by omega
 have hn16:=h.wf.n2
 have hwl0:B.wb<w.heap.size:=by obtain⟨d,hd⟩:=h.w_ty;exact(Q3 hd)
 clear h
 go_enter Try.func105,Try.ntmps105
 refine B3 (R:=fun x u=>x=⟨c0k (vP B.mb 0) (vI i) (.agg #[vI kd,vI a,vI b,vI c]) (vI 1) (vP w.heap.size 0),[]⟩∧u=w.alloc (.cells #[vI kd,vI a,vI b,vI c] 47)) ?_ ?_
 ·go_wp2
  exact⟨rfl,rfl⟩
 rintro _ W ⟨rfl,hWe⟩
 simp only[c0k]
 rw[← hWe]at hw1 hsame hsz1 hA hS
 clear hWe
 have o0:W.cell? ⟨w.heap.size,0,none⟩=some (vI kd):=by simp only[World.cell?,hw1];rfl
 have o2:W.cell? ⟨w.heap.size,2,none⟩=some (vI b):=by simp only[World.cell?,hw1];rfl
 have o3:W.cell? ⟨w.heap.size,3,none⟩=some (vI c):=by simp only[World.cell?,hw1];rfl
 obtain⟨tb,tc,htv,m0,m1,m2,zm,t0,t1,t3,t4,t5,t6,t7,zt,mt,wt,htb⟩:=hA.fx ht
 have hbt:b0≤tb:=hA.b3 tb (by rw[htv];rfl)
 have zm0:=zm 0
 have zt6:=zt (i*8+6)
 have H:Aside (∀X:World,X.heap=(W.setCell ⟨tb,i*8+6,none⟩ (vI s.ver)).heap→R2 X b0 B s (ts.set i (tv1 t s.ver))):=fun X e=>(hA.num ht htv 6 (tv1 t s.ver) (vI s.ver) (by omega) rfl rfl rfl (.inr (.inr ⟨rfl,rfl⟩))).heap e
 have H3:Aside (∀X:World,X.heap=(W.setCell ⟨tb,i*8+6,none⟩ (vI s.ver)).heap→D2 b0 w X):=fun X e=>(hS.set (a:=⟨tb,i*8+6,none⟩) hbt _).heap e
 have S1:Aside (∀u:World,u.heap=(W.setCell ⟨tb,i*8+6,none⟩ (vI s.ver)).heap→u.cell? ⟨B.mb,2,none⟩=some (vL tb 0 ts.length tc)∧u.cell? ⟨B.mb,0,none⟩=some (vI s.ver)):=fun u e=>by
  rw[Q4 e,Q4 e]
  exact⟨(L2 mt.symm).trans m2,(L2 mt.symm).trans m0⟩
 clear zt zm t0 t1 t3 t5 t4 t7 hbt wt htb hw1 hsame hsz1 hwl0
 clear hA hS ht htv o0 o2 o3
 go_wp2
 go_region_held3 (fun u:World=>u.cell? ⟨B.mb,2,none⟩=some (vL tb 0 ts.length tc)∧u.cell? ⟨B.mb,0,none⟩=some (vI s.ver))
  (first|exact⟨m2,m0⟩|exact S1.out _ rfl|go_keep)
  (fail)
 all_goals(
  go_wp2
  go_end0
  exact⟨rfl,H.out _ rfl,H3.out _ rfl⟩)
theorem r0K(h:R2 w b0 B s ts)(ht:ts[i]? =some t)(hv:¬s.ver.tmod 2=0)(htr:1≤t.tr∧t.tr≤1024)(hl:t.ans.length<100000000)(hk:t.k<100000000):
 Calls Try.prog 105 #[vP B.mb 0,vI i,.agg #[vI kd,vI a,vI b,vI c],vI 1] w fun e w'=>e= .returned (.tuple #[])∧FO w' b0 B s ts i (tv1 t s.ver)∧D2 b0 w w':=by
 obtain⟨hw1,hsame,hsz1,hA,hS⟩:=g0Q (kd:=kd) (a:=a) (b:=b) (c:=c) h
 have hilt:=(List.getElem?_eq_some_iff.1 ht).1
 have hilt2:(i:Int)<(ts.length:Int):=by omega
 have hn16:=h.wf.n2
 have hwl0:B.wb<w.heap.size:=by obtain⟨d,hd⟩:=h.w_ty;exact(Q3 hd)
 clear h
 go_enter Try.func105,Try.ntmps105
 refine B3 (R:=fun x u=>x=⟨c0k (vP B.mb 0) (vI i) (.agg #[vI kd,vI a,vI b,vI c]) (vI 1) (vP w.heap.size 0),[]⟩∧u=w.alloc (.cells #[vI kd,vI a,vI b,vI c] 47)) ?_ ?_
 ·go_wp2
  exact⟨rfl,rfl⟩
 rintro _ W ⟨rfl,hWe⟩
 simp only[c0k]
 rw[← hWe]at hw1 hsame hsz1 hA hS
 clear hWe
 have o0:W.cell? ⟨w.heap.size,0,none⟩=some (vI kd):=by simp only[World.cell?,hw1];rfl
 have o2:W.cell? ⟨w.heap.size,2,none⟩=some (vI b):=by simp only[World.cell?,hw1];rfl
 have o3:W.cell? ⟨w.heap.size,3,none⟩=some (vI c):=by simp only[World.cell?,hw1];rfl
 obtain⟨tb,tc,htv,m0,m1,m2,zm,t0,t1,t3,t4,t5,t6,t7,zt,mt,wt,htb⟩:=hA.fx ht
 have hbt:b0≤tb:=hA.b3 tb (by rw[htv];rfl)
 have zm0:=zm 0
 have zt6:=zt (i*8+6)
 have H4:Aside (∀X:World,X.heap=(W.setCell ⟨tb,i*8+6,none⟩ (vI s.ver)).heap→Calls Try.prog 112 #[vP B.mb 0,vI i] X fun e w'=>e= .returned (.tuple #[])∧FO w' b0 B s ts i (tv1 t s.ver)∧D2 b0 w w'):=fun X e=>by
  have h1:=(hA.num ht htv 6 (tv1 t s.ver) (vI s.ver) (by omega) rfl rfl rfl (.inr (.inr ⟨rfl,rfl⟩))).heap e
  have h3:D2 b0 w X:=(hS.set (a:=⟨tb,i*8+6,none⟩) hbt _).heap e
  exact(d0Y h1 (N5 ht) htr hl hk).mono fun e u ⟨k1,k2,k3⟩=>⟨k1,FO.set k2,h3.trans k3⟩
 have S1:Aside (∀u:World,u.heap=(W.setCell ⟨tb,i*8+6,none⟩ (vI s.ver)).heap→u.cell? ⟨B.mb,2,none⟩=some (vL tb 0 ts.length tc)∧u.cell? ⟨B.mb,0,none⟩=some (vI s.ver)):=fun u e=>by
  rw[Q4 e,Q4 e]
  exact⟨(L2 mt.symm).trans m2,(L2 mt.symm).trans m0⟩
 clear zt zm t0 t1 t3 t5 t4 t7 hbt wt htb hw1 hsame hsz1 hwl0
 clear hA hS ht htv o0 o2 o3 htr hl hk
 go_wp2
 go_region_held3 (fun u:World=>u.cell? ⟨B.mb,2,none⟩=some (vL tb 0 ts.length tc)∧u.cell? ⟨B.mb,0,none⟩=some (vI s.ver))
  (first|exact⟨m2,m0⟩|exact S1.out _ rfl|go_keep)
  (fail)
 all_goals(
  go_wp2_with (fail)
  go_at_call 112
  refine Calls.mono (H4.out _ ?_) ?_
  ·rfl
  rintro e u ⟨rfl,hu⟩
  have U:Aside (FO u b0 B s ts i (tv1 t s.ver)∧D2 b0 w u):=hu
  clear hu
  go_wp2
  go_end0
  exact⟨rfl,U.out⟩)
theorem r0I(h:R2 w b0 B s ts)(ht:ts[i]? =some t)(hv:¬s.ver=t.v)(htr:1≤t.tr∧t.tr≤1024)(hl:t.ans.length<100000000)(hk:t.k<100000000):
 Calls Try.prog 105 #[vP B.mb 0,vI i,.agg #[vI kd,vI a,vI b,vI c],vI 2] w fun e w'=>e= .returned (.tuple #[])∧FO w' b0 B s ts i t∧D2 b0 w w':=by
 obtain⟨hw1,hsame,hsz1,hA,hS⟩:=g0Q (kd:=kd) (a:=a) (b:=b) (c:=c) h
 have hilt:=(List.getElem?_eq_some_iff.1 ht).1
 have hilt2:(i:Int)<(ts.length:Int):=by omega
 have hn16:=h.wf.n2
 have hwl0:B.wb<w.heap.size:=by obtain⟨d,hd⟩:=h.w_ty;exact(Q3 hd)
 clear h
 go_enter Try.func105,Try.ntmps105
 refine B3 (R:=fun x u=>x=⟨c0k (vP B.mb 0) (vI i) (.agg #[vI kd,vI a,vI b,vI c]) (vI 2) (vP w.heap.size 0),[]⟩∧u=w.alloc (.cells #[vI kd,vI a,vI b,vI c] 47)) ?_ ?_
 ·go_wp2
  exact⟨rfl,rfl⟩
 rintro _ W ⟨rfl,hWe⟩
 simp only[c0k]
 rw[← hWe]at hw1 hsame hsz1 hA hS
 clear hWe
 have o0:W.cell? ⟨w.heap.size,0,none⟩=some (vI kd):=by simp only[World.cell?,hw1];rfl
 have o2:W.cell? ⟨w.heap.size,2,none⟩=some (vI b):=by simp only[World.cell?,hw1];rfl
 have o3:W.cell? ⟨w.heap.size,3,none⟩=some (vI c):=by simp only[World.cell?,hw1];rfl
 obtain⟨tb,tc,htv,m0,m1,m2,zm,t0,t1,t3,t4,t5,t6,t7,zt,mt,wt,htb⟩:=hA.fx ht
 have hbt:b0≤tb:=hA.b3 tb (by rw[htv];rfl)
 have zm0:=zm 0
 have zt6:=zt (i*8+6)
 have H4:Aside (∀X:World,X.heap=W.heap→Calls Try.prog 112 #[vP B.mb 0,vI i] X fun e w'=>e= .returned (.tuple #[])∧FO w' b0 B s ts i t∧D2 b0 w w'):=fun X e=>
  (d0Y (hA.heap e) ht htr hl hk).mono fun e2 u ⟨k1,k2,k3⟩=>⟨k1,k2,(hS.heap e).trans k3⟩
 clear zt zm t0 t1 t3 t5 t4 t7 hbt wt htb hw1 hsame hsz1 hwl0
 clear hA hS ht htv o0 o2 o3 htr hl hk
 go_wp2
 go_region_held3 (fun u:World=>u.cell? ⟨B.mb,2,none⟩=some (vL tb 0 ts.length tc)∧u.cell? ⟨B.mb,0,none⟩=some (vI s.ver)∧u.cell? ⟨tb,i*8+6,none⟩=some (vI t.v))
  (first|exact⟨m2,m0,t6⟩|go_keep)
  (fail)
 all_goals(
  go_wp2_with (fail)
  go_at_call 112
  refine Calls.mono (H4.out _ ?_) ?_
  ·rfl
  rintro e u ⟨rfl,hu⟩
  have U:Aside (FO u b0 B s ts i t∧D2 b0 w u):=hu
  clear hu
  go_wp2
  exact bodyPost_ret (v:=.tuple #[]) (by simp[results,Try.f105,go_sem]) rfl ⟨rfl,U.out⟩)
theorem r0J(h:R2 w b0 B s ts)(ht:ts[i]? =some t)(hv:s.ver=t.v):
 Calls Try.prog 105 #[vP B.mb 0,vI i,.agg #[vI kd,vI a,vI b,vI c],vI 2] w fun e w'=>e= .returned (.tuple #[])∧R2 w' b0 B {s with ver:=i6 (s.ver+1)} ts∧D2 b0 w w':=by
 obtain⟨hw1,hsame,hsz1,hA,hS⟩:=g0Q (kd:=kd) (a:=a) (b:=b) (c:=c) h
 have hilt:=(List.getElem?_eq_some_iff.1 ht).1
 have hilt2:(i:Int)<(ts.length:Int):=by omega
 have hn16:=h.wf.n2
 have hwl0:B.wb<w.heap.size:=by obtain⟨d,hd⟩:=h.w_ty;exact(Q3 hd)
 clear h
 go_enter Try.func105,Try.ntmps105
 refine B3 (R:=fun x u=>x=⟨c0k (vP B.mb 0) (vI i) (.agg #[vI kd,vI a,vI b,vI c]) (vI 2) (vP w.heap.size 0),[]⟩∧u=w.alloc (.cells #[vI kd,vI a,vI b,vI c] 47)) ?_ ?_
 ·go_wp2
  exact⟨rfl,rfl⟩
 rintro _ W ⟨rfl,hWe⟩
 simp only[c0k]
 rw[← hWe]at hw1 hsame hsz1 hA hS
 clear hWe
 have o0:W.cell? ⟨w.heap.size,0,none⟩=some (vI kd):=by simp only[World.cell?,hw1];rfl
 have o2:W.cell? ⟨w.heap.size,2,none⟩=some (vI b):=by simp only[World.cell?,hw1];rfl
 have o3:W.cell? ⟨w.heap.size,3,none⟩=some (vI c):=by simp only[World.cell?,hw1];rfl
 obtain⟨tb,tc,htv,m0,m1,m2,zm,t0,t1,t3,t4,t5,t6,t7,zt,mt,wt,htb⟩:=hA.fx ht
 have hbt:b0≤tb:=hA.b3 tb (by rw[htv];rfl)
 have zm0:=zm 0
 have zt6:=zt (i*8+6)
 have H:Aside (∀X:World,X.heap=(W.setCell ⟨B.mb,0,none⟩ (vI (RowKit.wrap64 (s.ver+1)))).heap→R2 X b0 B {s with ver:=i6 (s.ver+1)} ts):=fun X e=>(hA.ver (i6 (s.ver+1))).heap (by rw[e,i6,i0j])
 have H3:Aside (∀X:World,X.heap=(W.setCell ⟨B.mb,0,none⟩ (vI (RowKit.wrap64 (s.ver+1)))).heap→D2 b0 w X):=fun X e=>(hS.set (a:=⟨B.mb,0,none⟩) hA.b1 _).heap e
 rw[← hv]at t6
 clear zt zm t0 t1 t3 t5 t4 t7 hbt wt htb hw1 hsame hsz1 hwl0
 clear hA hS ht htv o0 o2 o3 hv
 go_wp2
 go_region_held3 (fun u:World=>u.cell? ⟨B.mb,2,none⟩=some (vL tb 0 ts.length tc)∧u.cell? ⟨B.mb,0,none⟩=some (vI s.ver)∧u.cell? ⟨tb,i*8+6,none⟩=some (vI s.ver))
  (first|exact⟨m2,m0,t6⟩|go_keep)
  (fail)
 all_goals(
  go_wp2
  go_end0
  exact⟨rfl,H.out _ rfl,H3.out _ rfl⟩)
theorem o0j{k:Nat}{p:Int}(h:R2 w b0 B s ts)(ht:ts[i]? =some t)(hp:p=k+3)(hkn:k<s.ws.length)(hkd:kd=1):
 Calls Try.prog 105 #[vP B.mb 0,vI i,.agg #[vI kd,vI a,vI b,vI c],vI p] w fun e w'=>e= .returned (.tuple #[])∧R2 w' b0 B {s with ws:=s.ws.set k (IntKind.i64.wrap (b+IntKind.i64.wrap ((k:Int)*c)))} ts∧D2 b0 w w':=by
 obtain⟨hw1,hsame,hsz1,hA,hS⟩:=g0Q (kd:=kd) (a:=a) (b:=b) (c:=c) h
 have hilt:=(List.getElem?_eq_some_iff.1 ht).1
 have hilt2:(i:Int)<(ts.length:Int):=by omega
 have hn16:=h.wf.n2
 have hwl0:B.wb<w.heap.size:=by obtain⟨d,hd⟩:=h.w_ty;exact(Q3 hd)
 clear h
 go_enter Try.func105,Try.ntmps105
 refine B3 (R:=fun x u=>x=⟨c0k (vP B.mb 0) (vI i) (.agg #[vI kd,vI a,vI b,vI c]) (vI p) (vP w.heap.size 0),[]⟩∧u=w.alloc (.cells #[vI kd,vI a,vI b,vI c] 47)) ?_ ?_
 ·go_wp2
  subst hkd
  exact⟨rfl,rfl⟩
 rintro _ W ⟨rfl,hWe⟩
 simp only[c0k]
 rw[← hWe]at hw1 hsame hsz1 hA hS
 clear hWe
 have o0:W.cell? ⟨w.heap.size,0,none⟩=some (vI kd):=by simp only[World.cell?,hw1];rfl
 have o2:W.cell? ⟨w.heap.size,2,none⟩=some (vI b):=by simp only[World.cell?,hw1];rfl
 have o3:W.cell? ⟨w.heap.size,3,none⟩=some (vI c):=by simp only[World.cell?,hw1];rfl
 obtain⟨tb,tc,htv,m0,m1,m2,zm,t0,t1,t3,t4,t5,t6,t7,zt,mt,wt,htb⟩:=hA.fx ht
 have hbt:b0≤tb:=hA.b3 tb (by rw[htv];rfl)
 have zm0:=zm 0
 have zt6:=zt (i*8+6)
 have p1:¬p=1:=by omega
 have p2:¬p=2:=by omega
 have hwr1:IntKind.i64.wrap ((s.ws.length:Int)+2)=(s.ws.length:Int)+2:=IntWalk.i64_in _ (by omega)
 have p3:p≤(s.ws.length:Int)+2:=by omega
 have hwr2:IntKind.i64.wrap (p - 3)=(k:Int):=by rw[show p - 3=(k:Int)by omega];exact IntWalk.i64_in _ (by omega)
 have hkn2:(k:Int)<(s.ws.length:Int):=by omega
 obtain⟨wk,wz⟩:=hA.wcell hkn
 have H:Aside (∀X:World,X.heap=(W.setCell ⟨B.wb,k,none⟩ (vI (RowKit.wrap64 (b+RowKit.wrap64 ((k:Int)*c))))).heap→R2 X b0 B {s with ws:=s.ws.set k (IntKind.i64.wrap (b+IntKind.i64.wrap ((k:Int)*c)))} ts):=fun X e=>(hA.word hkn _).heap (by rw[e];simp only[i0j])
 have H3:Aside (∀X:World,X.heap=(W.setCell ⟨B.wb,k,none⟩ (vI (RowKit.wrap64 (b+RowKit.wrap64 ((k:Int)*c))))).heap→D2 b0 w X):=fun X e=>(hS.set (a:=⟨B.wb,k,none⟩) hA.b2 _).heap e
 clear zt zm t0 t1 t3 t5 t4 t6 t7 hbt wt htb hw1 hsame hsz1 hwl0 m0 m2 zm0 zt6
 clear hA hS ht htv hp hkn
 generalize s.ws.getD k 0=x at*
 go_wp2
 go_end0
 exact⟨rfl,H.out _ rfl,H3.out _ rfl⟩
theorem o0k{k:Nat}{p:Int}(h:R2 w b0 B s ts)(ht:ts[i]? =some t)(hp:p=k+3)(hkn:k<s.ws.length)(hkd:kd=2):
 Calls Try.prog 105 #[vP B.mb 0,vI i,.agg #[vI kd,vI a,vI b,vI c],vI p] w fun e w'=>e= .returned (.tuple #[])∧R2 w' b0 B {s with ws:=s.ws.set k (IntKind.i64.wrap (IntKind.i64.wrap (b+IntKind.i64.wrap ((k:Int)*c))+s.ws.getD k 0))} ts∧D2 b0 w w':=by
 obtain⟨hw1,hsame,hsz1,hA,hS⟩:=g0Q (kd:=kd) (a:=a) (b:=b) (c:=c) h
 have hilt:=(List.getElem?_eq_some_iff.1 ht).1
 have hilt2:(i:Int)<(ts.length:Int):=by omega
 have hn16:=h.wf.n2
 have hwl0:B.wb<w.heap.size:=by obtain⟨d,hd⟩:=h.w_ty;exact(Q3 hd)
 clear h
 go_enter Try.func105,Try.ntmps105
 refine B3 (R:=fun x u=>x=⟨c0k (vP B.mb 0) (vI i) (.agg #[vI kd,vI a,vI b,vI c]) (vI p) (vP w.heap.size 0),[]⟩∧u=w.alloc (.cells #[vI kd,vI a,vI b,vI c] 47)) ?_ ?_
 ·go_wp2
  subst hkd
  exact⟨rfl,rfl⟩
 rintro _ W ⟨rfl,hWe⟩
 simp only[c0k]
 rw[← hWe]at hw1 hsame hsz1 hA hS
 clear hWe
 have o0:W.cell? ⟨w.heap.size,0,none⟩=some (vI kd):=by simp only[World.cell?,hw1];rfl
 have o2:W.cell? ⟨w.heap.size,2,none⟩=some (vI b):=by simp only[World.cell?,hw1];rfl
 have o3:W.cell? ⟨w.heap.size,3,none⟩=some (vI c):=by simp only[World.cell?,hw1];rfl
 obtain⟨tb,tc,htv,m0,m1,m2,zm,t0,t1,t3,t4,t5,t6,t7,zt,mt,wt,htb⟩:=hA.fx ht
 have hbt:b0≤tb:=hA.b3 tb (by rw[htv];rfl)
 have zm0:=zm 0
 have zt6:=zt (i*8+6)
 have p1:¬p=1:=by omega
 have p2:¬p=2:=by omega
 have hwr1:IntKind.i64.wrap ((s.ws.length:Int)+2)=(s.ws.length:Int)+2:=IntWalk.i64_in _ (by omega)
 have p3:p≤(s.ws.length:Int)+2:=by omega
 have hwr2:IntKind.i64.wrap (p - 3)=(k:Int):=by rw[show p - 3=(k:Int)by omega];exact IntWalk.i64_in _ (by omega)
 have hkn2:(k:Int)<(s.ws.length:Int):=by omega
 obtain⟨wk,wz⟩:=hA.wcell hkn
 have H:Aside (∀X:World,X.heap=(W.setCell ⟨B.wb,k,none⟩ (vI (RowKit.wrap64 (RowKit.wrap64 (b+RowKit.wrap64 ((k:Int)*c))+s.ws.getD k 0)))).heap→R2 X b0 B {s with ws:=s.ws.set k (IntKind.i64.wrap (IntKind.i64.wrap (b+IntKind.i64.wrap ((k:Int)*c))+s.ws.getD k 0))} ts):=fun X e=>(hA.word hkn _).heap (by rw[e];simp only[i0j])
 have H3:Aside (∀X:World,X.heap=(W.setCell ⟨B.wb,k,none⟩ (vI (RowKit.wrap64 (RowKit.wrap64 (b+RowKit.wrap64 ((k:Int)*c))+s.ws.getD k 0)))).heap→D2 b0 w X):=fun X e=>(hS.set (a:=⟨B.wb,k,none⟩) hA.b2 _).heap e
 clear zt zm t0 t1 t3 t5 t4 t6 t7 hbt wt htb hw1 hsame hsz1 hwl0 m0 m2 zm0 zt6
 clear hA hS ht htv hp hkn
 generalize s.ws.getD k 0=x at*
 go_wp2
 go_end0
 exact⟨rfl,H.out _ rfl,H3.out _ rfl⟩
theorem r0L{p:Int}(h:R2 w b0 B s ts)(ht:ts[i]? =some t)(hp:(s.ws.length:Int)+2<p)(hl:t.ans.length<100000000)(hk:t.k<100000000):
 Calls Try.prog 105 #[vP B.mb 0,vI i,.agg #[vI kd,vI a,vI b,vI c],vI p] w fun e w'=>e= .returned (.tuple #[])∧(∃av' a,a.an=(true,0,[])∧R2 w' b0 B {s with ver:=i6 (t.v+2)} (ts.set i (t.fin av' a)))∧D2 b0 w w':=by
 obtain⟨hw1,hsame,hsz1,hA,hS⟩:=g0Q (kd:=kd) (a:=a) (b:=b) (c:=c) h
 have hilt:=(List.getElem?_eq_some_iff.1 ht).1
 have hilt2:(i:Int)<(ts.length:Int):=by omega
 have hn16:=h.wf.n2
 have hwl0:B.wb<w.heap.size:=by obtain⟨d,hd⟩:=h.w_ty;exact(Q3 hd)
 clear h
 go_enter Try.func105,Try.ntmps105
 refine B3 (R:=fun x u=>x=⟨c0k (vP B.mb 0) (vI i) (.agg #[vI kd,vI a,vI b,vI c]) (vI p) (vP w.heap.size 0),[]⟩∧u=w.alloc (.cells #[vI kd,vI a,vI b,vI c] 47)) ?_ ?_
 ·go_wp2
  exact⟨rfl,rfl⟩
 rintro _ W ⟨rfl,hWe⟩
 simp only[c0k]
 rw[← hWe]at hw1 hsame hsz1 hA hS
 clear hWe
 have o0:W.cell? ⟨w.heap.size,0,none⟩=some (vI kd):=by simp only[World.cell?,hw1];rfl
 have o2:W.cell? ⟨w.heap.size,2,none⟩=some (vI b):=by simp only[World.cell?,hw1];rfl
 have o3:W.cell? ⟨w.heap.size,3,none⟩=some (vI c):=by simp only[World.cell?,hw1];rfl
 obtain⟨tb,tc,htv,m0,m1,m2,zm,t0,t1,t3,t4,t5,t6,t7,zt,mt,wt,htb⟩:=hA.fx ht
 have hbt:b0≤tb:=hA.b3 tb (by rw[htv];rfl)
 have zm0:=zm 0
 have zt6:=zt (i*8+6)
 have p1:¬p=1:=by omega
 have p2:¬p=2:=by omega
 have hwr1:IntKind.i64.wrap ((s.ws.length:Int)+2)=(s.ws.length:Int)+2:=IntWalk.i64_in _ (by omega)
 have p3:¬p≤(s.ws.length:Int)+2:=by omega
 have H4:Aside (∀X:World,X.heap=(W.setCell ⟨B.mb,0,none⟩ (vI (RowKit.wrap64 (t.v+2)))).heap→Calls Try.prog 107 #[vP B.mb 0,vI i,.agg #[.bool true,vI 0,.slice none 0 0]] X fun e w'=>e= .returned (.tuple #[])∧(∃av' a,a.an=(true,0,[])∧R2 w' b0 B {s with ver:=i6 (t.v+2)} (ts.set i (t.fin av' a)))∧D2 b0 w w'):=fun X e=>
  (k0d (a:=⟨(true,0,[]),none,0,0⟩) ((hA.ver (i6 (t.v+2))).heap (by rw[e,i6,i0j])) ht (.inl ⟨rfl,rfl⟩) hl hk).mono fun e2 u ⟨k1,⟨av',k2⟩,k3⟩=>⟨k1,⟨av',_,rfl,k2⟩,((hS.set (a:=⟨B.mb,0,none⟩) hA.b1 _).heap e).trans k3⟩
 clear zt zm t0 t1 t3 t5 t4 t7 hbt wt htb hw1 hsame hsz1 hwl0
 clear hA hS ht htv o0 o2 o3 hp hl hk
 go_wp2_with (fail)
 go_at_call 107
 refine Calls.mono (H4.out _ ?_) ?_
 ·rfl
 rintro e u ⟨rfl,hu⟩
 have U:Aside ((∃av' a,a.an=(true,0,[])∧R2 u b0 B {s with ver:=i6 (t.v+2)} (ts.set i (t.fin av' a)))∧D2 b0 w u):=hu
 clear hu
 go_wp2
 go_end0
 exact⟨rfl,U.out⟩
end
end
section
variable{w w':World}{b0:Nat}{B:R8B}{s:R1}{ts:List T3}
structure f0B(w:World)(b0:Nat)(v:Value)(k:Nat)(kd a b c:Int)(ob oo ol oc:Nat):Prop where
 sl:v=vL ob oo ol oc
 lt:k<ol
 l:ob<b0
 f0:w.cell? ⟨ob,oo+k*4,none⟩=some (vI kd)
 f1:w.cell? ⟨ob,oo+k*4+1,none⟩=some (vI a)
 f2:w.cell? ⟨ob,oo+k*4+2,none⟩=some (vI b)
 f3:w.cell? ⟨ob,oo+k*4+3,none⟩=some (vI c)
def F84(a b:Value):Array Value:= #[a,b,undef,undef,undef,undef,undef,undef,undef,undef,undef,undef,undef,undef,undef,undef,undef,undef,undef,undef,undef,undef,undef,undef,undef,undef,undef,undef,undef,undef,undef,undef,undef,undef,undef,undef,undef,undef,undef,undef,undef,undef,undef,undef,undef,undef,undef,undef,undef,undef,undef,undef,undef,undef,undef,undef,undef,undef,undef,undef,undef,undef,undef,undef,undef,undef,undef,undef,undef,undef,undef,undef,undef,undef,undef,undef,undef,undef,undef,undef,undef,undef,undef,undef,undef,undef,undef,undef,undef,undef,undef,undef,undef,undef,undef,undef,undef,undef,undef,undef,undef,undef,undef,undef,undef,undef,undef,undef,undef,undef,undef,undef,undef,undef,undef,undef,undef,undef,undef,undef,undef,undef]
def R84(w:World)(mb tl i tb tc k:Nat)(kd a b c:Int)(ob oo ol oc:Nat)(x:Act)(u:World):Prop:=x=⟨#[vP mb 0,vI i,undef,undef,vP w.heap.size 0,undef,undef,vP mb 0,vP mb 0,vP mb 2,vL tb 0 tl tc,vI i,vP tb (i*8),vP tb (i*8),vL ob oo ol oc,vP mb 0,vP mb 0,vP mb 2,vL tb 0 tl tc,vI i,vP tb (i*8),vP tb (i*8+3),vI k,vP ob (oo+k*4),.agg #[vI kd,vI a,vI b,vI c],undef,undef,undef,undef,undef,undef,undef,undef,undef,undef,undef,undef,undef,undef,undef,undef,undef,undef,undef,undef,undef,undef,undef,undef,undef,undef,undef,undef,undef,undef,undef,undef,undef,undef,undef,undef,undef,undef,undef,undef,undef,undef,undef,undef,undef,undef,undef,undef,undef,undef,undef,undef,undef,undef,undef,undef,undef,undef,undef,undef,undef,undef,undef,undef,undef,undef,undef,undef,undef,undef,undef,undef,undef,undef,undef,undef,undef,undef,undef,undef,undef,undef,undef,undef,undef,undef,undef,undef,undef,undef,undef,undef,undef,undef,undef,undef,undef],[]⟩∧(∀r,r<w.heap.size→u.heap[r]? =w.heap[r]?)∧u.heap.size=w.heap.size+1∧u.heap[w.heap.size]? =some (.cells #[vI kd,vI a,vI b,vI c] 47 (0,0))
theorem b0u{mb tl i tb tc k:Nat}{kd a b c:Int}{ob oo ol oc:Nat}(m2:w.cell? ⟨mb,2,none⟩=some (vL tb 0 tl tc))(t0:w.cell? ⟨tb,i*8,none⟩=some (vL ob oo ol oc))(t3:w.cell? ⟨tb,i*8+3,none⟩=some (vI k))
 (f0:w.cell? ⟨ob,oo+k*4,none⟩=some (vI kd)) (f1:w.cell? ⟨ob,oo+k*4+1,none⟩=some (vI a)) (f2:w.cell? ⟨ob,oo+k*4+2,none⟩=some (vI b)) (f3:w.cell? ⟨ob,oo+k*4+3,none⟩=some (vI c)) (hilt2:(i:Int)<(tl:Int)) (hok2:(k:Int)<(ol:Int)) (nb:tb≠w.heap.size) (no:ob≠w.heap.size) (nm:mb≠w.heap.size):
 (pC [true] (Try.f84.body.getD .skip)).wp Try.prog (F7 (R84 w mb tl i tb tc k kd a b c ob oo ol oc)) ⟨F84 (vP mb 0) (vI i),[]⟩ w:=by
 simp only[pC,Try.f84,Option.getD_some,F84]
 have HE:Aside (∀u:World,(u.heap=(w.alloc (.cells #[vI kd,vI a,vI b,vI c] 47)).heap)→(∀r,r<w.heap.size→u.heap[r]? =w.heap[r]?)∧u.heap.size=w.heap.size+1∧u.heap[w.heap.size]? =some (.cells #[vI kd,vI a,vI b,vI c] 47 (0,0))):=fun u e=>by
  rw[e]
  exact⟨fun r hr=>D0 _ _ hr,by simp,heap_alloc_new _ _⟩
 have p0:=(O0 m2 (.cells #[vI 0,vI 0,vI 0,vI 0] 47)).1
 have p1:=(O0 t0 (.cells #[vI 0,vI 0,vI 0,vI 0] 47)).1
 have p3:=(O0 t3 (.cells #[vI 0,vI 0,vI 0,vI 0] 47)).1
 have q0:=(O0 f0 (.cells #[vI 0,vI 0,vI 0,vI 0] 47)).1
 have q1:=(O0 f1 (.cells #[vI 0,vI 0,vI 0,vI 0] 47)).1
 have q2:=(O0 f2 (.cells #[vI 0,vI 0,vI 0,vI 0] 47)).1
 have q3:=(O0 f3 (.cells #[vI 0,vI 0,vI 0,vI 0] 47)).1
 have KA:Aside (∀u:World,u.heap=(w.alloc (.cells #[vI 0,vI 0,vI 0,vI 0] 47)).heap→u.cell? ⟨mb,2,none⟩=some (vL tb 0 tl tc)∧u.cell? ⟨tb,i*8,none⟩=some (vL ob oo ol oc)∧u.cell? ⟨tb,i*8+3,none⟩=some (vI k)∧u.cell? ⟨ob,oo+k*4,none⟩=some (vI kd)∧u.cell? ⟨ob,oo+k*4+1,none⟩=some (vI a)∧u.cell? ⟨ob,oo+k*4+2,none⟩=some (vI b)∧u.cell? ⟨ob,oo+k*4+3,none⟩=some (vI c)):=fun u e=>by
  simp only[Q4 e]
  exact⟨p0,p1,p3,q0,q1,q2,q3⟩
 go_wp2
 go_region_held3 (fun u:World=>u.cell? ⟨mb,2,none⟩=some (vL tb 0 tl tc)∧u.cell? ⟨tb,i*8,none⟩=some (vL ob oo ol oc)∧u.cell? ⟨tb,i*8+3,none⟩=some (vI k)∧u.cell? ⟨ob,oo+k*4,none⟩=some (vI kd)∧u.cell? ⟨ob,oo+k*4+1,none⟩=some (vI a)∧u.cell? ⟨ob,oo+k*4+2,none⟩=some (vI b)∧u.cell? ⟨ob,oo+k*4+3,none⟩=some (vI c))
  (first|exact⟨m2,t0,t3,f0,f1,f2,f3⟩|exact KA.out _ rfl|go_keep)
  (fail)
 all_goals exact⟨rfl,HE.out _ rfl⟩
section
variable{i:Nat}{t:T3}{kd a b c:Int}{ob oo ol oc:Nat}
theorem g0F{W:World}{tb tc:Nat}(h:R2 w b0 B s ts)(ht:ts[i]? =some t)(htv:B.tv=vL tb 0 ts.length tc)(hpc:t.pc<100)(u1:∀r,r<w.heap.size→W.heap[r]? =w.heap[r]?)(u2:W.heap.size=w.heap.size+1)(u3:W.heap[w.heap.size]? =some (.cells #[vI kd,vI a,vI b,vI c] 47 (0,0))):
 R2 W b0 B s ts∧D2 b0 w W∧z0O W B s ts.length i tb tc t∧b0≤tb∧W.cell? ⟨w.heap.size,0,none⟩=some (vI kd)∧W.cell? ⟨w.heap.size,1,none⟩=some (vI a)∧W.cell? ⟨w.heap.size,2,none⟩=some (vI b)∧W.cell? ⟨w.heap.size,3,none⟩=some (vI c)∧
  Aside (∀X:World,X.heap=(W.setCell ⟨tb,i*8+4,none⟩ (vI ((t.pc:Int)+1))).heap→R2 X b0 B s (ts.set i {t with pc:=t.pc+1})∧D2 b0 w X)∧IntKind.i64.wrap ((t.pc:Int)+1)=(t.pc:Int)+1:=by
 have hbs:=h.bs
 have hA:=h.more u1
 have hS:D2 b0 w W:=⟨by omega,fun r hr=>u1 r (by omega),fun r c y z q e=>u1 r (Q3 e)⟩
 obtain⟨tb',tc',hF⟩:=hA.fx ht
 have htv':=hF.tv
 rw[htv]at htv'
 cases htv'
 have hbt:b0≤tb:=hA.b3 tb (by rw[htv];rfl)
 have o0:W.cell? ⟨w.heap.size,0,none⟩=some (vI kd):=by simp only[World.cell?,u3];rfl
 have o1:W.cell? ⟨w.heap.size,1,none⟩=some (vI a):=by simp only[World.cell?,u3];rfl
 have o2:W.cell? ⟨w.heap.size,2,none⟩=some (vI b):=by simp only[World.cell?,u3];rfl
 have o3:W.cell? ⟨w.heap.size,3,none⟩=some (vI c):=by simp only[World.cell?,u3];rfl
 exact⟨hA,hS,hF,hbt,o0,o1,o2,o3,fun X e=>⟨(hA.num ht htv 4 {t with pc:=t.pc+1} (vI ((t.pc:Int)+1)) (by omega) rfl rfl rfl (.inr (.inr ⟨rfl,rfl⟩))).heap e,(hS.set (a:=⟨tb,i*8+4,none⟩) hbt _).heap e⟩,IntWalk.i64_in _ (by omega)⟩
theorem t05{P:World→Prop}(h:R2 w b0 B s ts)(ht:ts[i]? =some t)(ho:f0B w b0 t.op t.k kd a b c ob oo ol oc)(hpc:t.pc<100)(hkd:kd=1∨kd=2)(HC:∀X:World,R2 X b0 B s (ts.set i {t with pc:=t.pc+1})→D2 b0 w X→Calls Try.prog 105 #[vP B.mb 0,vI i,.agg #[vI kd,vI a,vI b,vI c],vI t.pc] X fun e w'=>e= .returned (.tuple #[])∧P w'):
 Calls Try.prog 84 #[vP B.mb 0,vI i] w fun e w'=>e= .returned (.tuple #[])∧P w':=by
 have hilt:=(List.getElem?_eq_some_iff.1 ht).1
 have hilt2:(i:Int)<(ts.length:Int):=by omega
 have hn16:=h.wf.n2
 have hbs:=h.bs
 have E0:Aside (R2 w b0 B s ts):=h
 obtain⟨tb,tc,htv,m0,m1,m2,zm,t0,t1,t3,t4,t5,t6,t7,zt,mt,wt,htb⟩:=h.fx ht
 obtain⟨hov,hok,hol,f0,f1,f2,f3⟩:=ho
 rw[hov]at t0
 have hok2:(t.k:Int)<(ol:Int):=by omega
 clear h
 go_enter Try.func84,Try.ntmps84
 refine B3 (b0u m2 t0 t3 f0 f1 f2 f3 hilt2 hok2 (by omega) (by omega) (by have:=E0.out.low_m;omega)) ?_
 rintro _ W ⟨rfl,u1,u2,u3⟩
 clear m0 m1 m2 zm t0 t1 t3 t4 t5 t6 t7 zt mt wt f0 f1 f2 f3
 obtain⟨hA,hS,⟨htv',m0,m1,m2,zm,t0,t1,t3,t4,t5,t6,t7,zt,mt,wt,htb'⟩,hbt,o0,o1,o2,o3,HX,hwr⟩:=g0F E0.out ht htv hpc u1 u2 u3
 clear htv'
 have zt4:=zt (i*8+4)
 have H4:Aside (∀X:World,X.heap=(W.setCell ⟨tb,i*8+4,none⟩ (vI ((t.pc:Int)+1))).heap→Calls Try.prog 105 #[vP B.mb 0,vI i,.agg #[vI kd,vI a,vI b,vI c],vI t.pc] X fun e w'=>e= .returned (.tuple #[])∧P w'):=fun X e=>HC X (HX.out X e).1 (HX.out X e).2
 clear HC HX hA hS htv htb' htb hbt ht zm zt u1 u2 u3 hov t0 t1 t3 t5 t6 t7 m0 E0 wt hok hol
 rcases hkd with rfl|rfl
 all_goals(
  go_wp2_with (fail)
  go_at_call 105
  refine Calls.mono (H4.out _ ?_) ?_
  ·rfl
  rintro e u ⟨rfl,hu⟩
  have U:Aside (P u):=hu
  clear hu
  go_wp2
  go_end0
  exact⟨rfl,U.out⟩)
theorem t04{P:World→Prop}(h:R2 w b0 B s ts)(ht:ts[i]? =some t)(ho:f0B w b0 t.op t.k 3 a b c ob oo ol oc)(hpc:t.pc<100)(HC:∀X:World,R2 X b0 B s (ts.set i {t with pc:=t.pc+1})→D2 b0 w X→Calls Try.prog 106 #[vP B.mb 0,vI i,vI t.pc] X fun e w'=>e= .returned (.tuple #[])∧P w'):
 Calls Try.prog 84 #[vP B.mb 0,vI i] w fun e w'=>e= .returned (.tuple #[])∧P w':=by
 have hilt:=(List.getElem?_eq_some_iff.1 ht).1
 have hilt2:(i:Int)<(ts.length:Int):=by omega
 have hn16:=h.wf.n2
 have hbs:=h.bs
 have E0:Aside (R2 w b0 B s ts):=h
 obtain⟨tb,tc,htv,m0,m1,m2,zm,t0,t1,t3,t4,t5,t6,t7,zt,mt,wt,htb⟩:=h.fx ht
 obtain⟨hov,hok,hol,f0,f1,f2,f3⟩:=ho
 rw[hov]at t0
 have hok2:(t.k:Int)<(ol:Int):=by omega
 clear h
 go_enter Try.func84,Try.ntmps84
 refine B3 (b0u m2 t0 t3 f0 f1 f2 f3 hilt2 hok2 (by omega) (by omega) (by have:=E0.out.low_m;omega)) ?_
 rintro _ W ⟨rfl,u1,u2,u3⟩
 clear m0 m1 m2 zm t0 t1 t3 t4 t5 t6 t7 zt mt wt f0 f1 f2 f3
 obtain⟨hA,hS,⟨htv',m0,m1,m2,zm,t0,t1,t3,t4,t5,t6,t7,zt,mt,wt,htb'⟩,hbt,o0,o1,o2,o3,HX,hwr⟩:=g0F E0.out ht htv hpc u1 u2 u3
 clear htv'
 have zt4:=zt (i*8+4)
 have H4:Aside (∀X:World,X.heap=(W.setCell ⟨tb,i*8+4,none⟩ (vI ((t.pc:Int)+1))).heap→Calls Try.prog 106 #[vP B.mb 0,vI i,vI t.pc] X fun e w'=>e= .returned (.tuple #[])∧P w'):=fun X e=>HC X (HX.out X e).1 (HX.out X e).2
 clear HC HX hA hS htv htb' htb hbt ht zm zt u1 u2 u3 hov t0 t1 t3 t5 t6 t7 m0 E0 wt hok hol
 go_wp2_with (fail)
 go_at_call 106
 refine Calls.mono (H4.out _ ?_) ?_
 ·rfl
 rintro e u ⟨rfl,hu⟩
 have U:Aside (P u):=hu
 clear hu
 go_wp2
 go_end0
 exact⟨rfl,U.out⟩
end
end
section
variable{w w':World}{b0:Nat}{B:R8B}{s:R1}{ts:List T3}
theorem callable107:O1 107:=G2 Try.func107 rfl rfl
section
variable{i:Nat}{t:T3}{kd a b c:Int}{ob oo ol oc:Nat}
theorem t03{l:List Int}{k:Nat}(h:R2 w b0 B s ts)(ht:ts[i]? =some t)(ho:f0B w b0 t.op t.k 4 a b c ob oo ol oc)(hpc:t.pc<100)(hso:t.so=some l)(hll:l.length≤16)(hp:t.pc=k+1)(hkn:k<s.ws.length)(hne:¬t.pc=s.ws.length):
 Calls Try.prog 84 #[vP B.mb 0,vI i] w fun e w'=>e= .returned (.tuple #[])∧(∃sv',R2 w' b0 B s (ts.set i {t with pc:=t.pc+1,sv:=sv',so:=some (l++[s.ws.getD k 0])}))∧D2 b0 w w':=by
 have EA:Aside (ts[i]? =some t∧t.so=some l∧k<s.ws.length∧t.pc=k+1):=⟨ht,hso,hkn,hp⟩
 have EN:Aside (¬t.pc=s.ws.length):=hne
 have hilt:=(List.getElem?_eq_some_iff.1 ht).1
 have hilt2:(i:Int)<(ts.length:Int):=by omega
 have hn16:=h.wf.n2
 have hbs:=h.bs
 have E0:Aside (R2 w b0 B s ts):=h
 obtain⟨tb,tc,htv,m0,m1,m2,zm,t0,t1,t3,t4,t5,t6,t7,zt,mt,wt,htb⟩:=h.fx ht
 obtain⟨hov,hok,hol,f0,f1,f2,f3⟩:=ho
 rw[hov]at t0
 have hok2:(t.k:Int)<(ol:Int):=by omega
 clear h
 go_enter Try.func84,Try.ntmps84
 refine B3 (b0u m2 t0 t3 f0 f1 f2 f3 hilt2 hok2 (by omega) (by omega) (by have:=E0.out.low_m;omega)) ?_
 rintro _ W ⟨rfl,u1,u2,u3⟩
 clear m0 m1 m2 zm t0 t1 t3 t4 t5 t6 t7 zt mt wt f0 f1 f2 f3
 obtain⟨hA,hS,⟨htv',m0,m1,m2,zm,t0,t1,t3,t4,t5,t6,t7,zt,mt,wt,htb'⟩,hbt,o0,o1,o2,o3,HX,hwr⟩:=g0F E0.out ht htv hpc u1 u2 u3
 clear htv'
 have zt4:=zt (i*8+4)
 obtain⟨i0,z0,hi,hz0,hz1,hz2,hz3⟩:=i8
 have hwr2:IntKind.i64.wrap ((t.pc:Int) - 1)=(k:Int):=by rw[show(t.pc:Int) - 1=(k:Int)by omega];exact IntWalk.i64_in _ (by omega)
 have hkn2:(k:Int)<(s.ws.length:Int):=by omega
 have HTV:Aside (B.tv=vL tb 0 ts.length tc):=htv
 have E1:Aside (ts[i]? =some t∧t.so=some l∧k<s.ws.length∧B.tv=vL tb 0 ts.length tc∧b0≤tb):=⟨ht,hso,hkn,htv,hbt⟩
 clear hA hS htb' htb hbt ht zm zt u1 u2 u3 hov t0 t1 t3 t5 t6 hok hol hso hkn E0 htv hp hne
 go_wp2
 generalize hX:W.setCell ⟨tb,i*8+4,none⟩ (vI ((t.pc:Int)+1))=X
 obtain⟨ht,hso,hkn,htv,hbt⟩:=E1.out
 have hX1:=(HX.out X (by rw[hX])).1
 have hX2:=(HX.out X (by rw[hX])).2
 clear HX
 have m2:X.cell? ⟨B.mb,2,none⟩=some (vL tb 0 ts.length tc):=by rw[← hX,L2 mt.symm];exact m2
 have m1:X.cell? ⟨B.mb,1,none⟩=some (vL B.wb 0 s.ws.length B.wc):=by rw[← hX,L2 mt.symm];exact m1
 have t7:X.cell? ⟨tb,i*8+7,none⟩=some t.sv:=by rw[← hX,World.cell?_setCell_other _ _ _ _ (by intro e;injection e with _ e1;omega)];exact t7
 have htb:tb<X.heap.size:=by obtain⟨c,hc⟩:=X1 hX1.row (r:=tb) (by rw[htv];rfl);exact(Q3 hc)
 have zt:∀j,X.frozen? ⟨tb,j,none⟩=false:=fun j=>by obtain⟨c,hc⟩:=X1 hX1.row (r:=tb) (by rw[htv];rfl);simp[World.frozen?,hc]
 clear o0 o1 o2 o3 hX zt4 t4 m0
 have hT:=hX1.thr {t with pc:=t.pc+1} (List.mem_of_getElem? (N5 ht))
 have hrow1:X.ownsRow 0 2 1 t.sv l.length (l.map fun v=>vI v):=hT.sv l hso
 have hma:some B.mb≠t.sv.ownBlock:=fun e=>by obtain⟨c,hc⟩:=X1 hrow1 e.symm;exact i4 hc hX1.o (by decide) rfl
 have hta:some tb≠t.sv.ownBlock:=fun e=>by
  obtain⟨c,hc⟩:=X1 hrow1 e.symm
  obtain⟨d,hd⟩:=X1 hX1.row (r:=tb) (by rw[htv];rfl)
  exact i4 hc hd (by decide) rfl
 have hwa:some B.wb≠t.sv.ownBlock:=fun e=>hX1.wn {t with pc:=t.pc+1} (List.mem_of_getElem? (N5 ht)) (.inr (.inl ⟨by simp[hso],e.symm⟩))
 have hmlt:=hX1.low_m
 have hwlt:B.wb<X.heap.size:=by obtain⟨d,hd⟩:=hX1.w_ty;exact(Q3 hd)
 obtain⟨wk,wz⟩:=hX1.wcell hkn
 have E2:Aside (R2 X b0 B s (ts.set i {t with pc:=t.pc+1})∧D2 b0 w X):=⟨hX1,hX2⟩
 clear hX1 hX2 ht hso htv hbt hT E1 hwr
 generalize hx:s.ws.getD k 0=x at wk
 have HXE:Aside (s.ws.getD k 0=x):=hx
 clear hx
 rw[← f0U 22 (.tmp 76)]
 go_region_held3 (fun u:World=>u.cell? ⟨B.mb,2,none⟩=some (vL tb 0 ts.length tc)∧u.cell? ⟨B.mb,1,none⟩=some (vL B.wb 0 s.ws.length B.wc)∧u.cell? ⟨B.wb,k,none⟩=some (vI x))
  (first|exact⟨m2,m1,wk⟩|exact⟨(O0 m2 _).1,(O0 m1 _).1,(O0 wk _).1⟩|exact SQ.out|exact⟨(L2 mt.symm).trans SQ.out.1,(L2 mt.symm).trans SQ.out.2.1,(L2 wt.symm).trans SQ.out.2.2⟩|go_keep)
  (first|(refine O4 rfl (.tmp 77) (.tmp 86) 22 rfl 2 i0 z0 1 8 Try.underlying22 hi hz0 hz1 hz2 hz3 (by decide) t.sv l.length (l.map fun v=>vI v) (by simp[Act.eval,Act.put]) ((show X.drew.ownsRow 0 2 1 _ _ _ from hrow1).alloc _) ⟨X.heap.size,0,none⟩ 1 1 [vI x] (by simp[Act.eval,Act.put]) rfl (N4 (X:=X.drew) (l:=[vI x]) rfl) (by intro u hu;simp at hu;subst hu;rfl) (by unfold maxLen;omega) (by omega) ?_;intro v' w3 hown hgrow hfr;obtain⟨g,cap,rfl⟩:=j5 hown;have hk1:=M2 (W:=X.drew) hgrow (r:=tb) htb hta;have hk2:=M2 (W:=X.drew) hgrow (r:=B.mb) hmlt hma;have hk3:=M2 (W:=X.drew) hgrow (r:=B.wb) hwlt hwa;have k0:=(F1 (j:=2) hk2).1.trans m2;have k1:=(F1 (j:=1) hk2).1.trans m1;have k2:=(F1 (j:=i*8+7) hk1).1.trans t7;have k3:=(F1 (j:=k) hk3).1.trans wk;have SQ:Aside (w3.cell? ⟨B.mb,2,none⟩=some (vL tb 0 ts.length tc)∧w3.cell? ⟨B.mb,1,none⟩=some (vL B.wb 0 s.ws.length B.wc)∧w3.cell? ⟨B.wb,k,none⟩=some (vI x)):=⟨k0,k1,k3⟩;have zz7:=(F1 (j:=i*8+7) hk1).2.trans (zt (i*8+7));have F:Aside ((∀r,r<X.heap.size→some r≠t.sv.ownBlock→w3.heap[r]? =X.heap[r]?)∧X.heap.size≤w3.heap.size∧((Value.slice (some ⟨g,0,none⟩) (l.length+1) cap).ownBlock=t.sv.ownBlock∨∃g',(Value.slice (some ⟨g,0,none⟩) (l.length+1) cap).ownBlock=some g'∧X.heap.size≤g')):=⟨fun r hr hn=>M2 (W:=X.drew) hgrow hr hn,Nat.le_trans (by simp[World.drew]) hgrow.size,hfr.imp id fun⟨g',h1,h2⟩=>⟨g',h1,Nat.le_trans (by simp[World.drew]) h2⟩⟩;clear hgrow hfr hk1 hk2 hk3))
 all_goals(
  have hne:=EN.out
  go_wp2
  go_end0
  obtain⟨ht,hso,hkn,hp⟩:=EA.out
  obtain⟨f1,f2,f3⟩:=F.out
  obtain⟨hX1,hX2⟩:=E2.out
  have htv:B.tv=vL tb 0 (ts.set i {t with pc:=t.pc+1}).length tc:=by rw[d05];exact HTV.out
  have hbt:b0≤tb:=hX1.b3 tb (by rw[htv];rfl)
  have h1:=hX1.seen (t:={t with pc:=t.pc+1}) (N5 ht) htv hso f2 hown f1 f3
  rw[List.set_set]at h1
  have h3:D2 b0 X w3:=⟨f2,fun r hr=>f1 r (by have:=hX1.bs;omega) fun e=>by have:=hX1.b4 {t with pc:=t.pc+1} (List.mem_of_getElem? (N5 ht)) r (.inr (.inl ⟨by simp[hso],e.symm⟩));omega,fun r c y z q e0=>f1 r (Q3 e0) fun e=>hX1.no3 (t:={t with pc:=t.pc+1}) (List.mem_of_getElem? (N5 ht)) (.inr (.inl ⟨by simp[hso],e.symm⟩)) q e0⟩
  have h4:=hX2.trans (h3.set (a:=⟨tb,i*8+7,none⟩) hbt (vL g 0 (l.length+1) cap))
  rw[HXE.out]
  exact⟨rfl,⟨_,h1.heap rfl⟩,h4.heap rfl⟩)
theorem t02{l:List Int}{k:Nat}(h:R2 w b0 B s ts)(ht:ts[i]? =some t)(ho:f0B w b0 t.op t.k 4 a b c ob oo ol oc)(hpc:t.pc<100)(hso:t.so=some l)(hll:l.length≤16)(hp:t.pc=k+1)(hkn:k<s.ws.length)(hne:t.pc=s.ws.length)(hl:t.ans.length<100000000)(hk:t.k<100000000):
 Calls Try.prog 84 #[vP B.mb 0,vI i] w fun e w'=>e= .returned (.tuple #[])∧(∃sv' av' an,an.an=(true,0,l++[s.ws.getD k 0])∧R2 w' b0 B s (ts.set i ({t with sv:=sv'}.fin av' an)))∧D2 b0 w w':=by
 have EA:Aside (ts[i]? =some t∧t.so=some l∧k<s.ws.length∧t.pc=k+1):=⟨ht,hso,hkn,hp⟩
 have EN:Aside (t.pc=s.ws.length):=hne
 have hilt:=(List.getElem?_eq_some_iff.1 ht).1
 have hilt2:(i:Int)<(ts.length:Int):=by omega
 have hn16:=h.wf.n2
 have hbs:=h.bs
 have E0:Aside (R2 w b0 B s ts):=h
 obtain⟨tb,tc,htv,m0,m1,m2,zm,t0,t1,t3,t4,t5,t6,t7,zt,mt,wt,htb⟩:=h.fx ht
 obtain⟨hov,hok,hol,f0,f1,f2,f3⟩:=ho
 rw[hov]at t0
 have hok2:(t.k:Int)<(ol:Int):=by omega
 clear h
 go_enter Try.func84,Try.ntmps84
 refine B3 (b0u m2 t0 t3 f0 f1 f2 f3 hilt2 hok2 (by omega) (by omega) (by have:=E0.out.low_m;omega)) ?_
 rintro _ W ⟨rfl,u1,u2,u3⟩
 clear m0 m1 m2 zm t0 t1 t3 t4 t5 t6 t7 zt mt wt f0 f1 f2 f3
 obtain⟨hA,hS,⟨htv',m0,m1,m2,zm,t0,t1,t3,t4,t5,t6,t7,zt,mt,wt,htb'⟩,hbt,o0,o1,o2,o3,HX,hwr⟩:=g0F E0.out ht htv hpc u1 u2 u3
 clear htv'
 have zt4:=zt (i*8+4)
 obtain⟨i0,z0,hi,hz0,hz1,hz2,hz3⟩:=i8
 have hwr2:IntKind.i64.wrap ((t.pc:Int) - 1)=(k:Int):=by rw[show(t.pc:Int) - 1=(k:Int)by omega];exact IntWalk.i64_in _ (by omega)
 have hkn2:(k:Int)<(s.ws.length:Int):=by omega
 have HTV:Aside (B.tv=vL tb 0 ts.length tc):=htv
 have E1:Aside (ts[i]? =some t∧t.so=some l∧k<s.ws.length∧B.tv=vL tb 0 ts.length tc∧b0≤tb):=⟨ht,hso,hkn,htv,hbt⟩
 clear hA hS htb' htb hbt ht zm zt u1 u2 u3 hov t0 t1 t3 t5 t6 hok hol hso hkn E0 htv hp hne
 go_wp2
 generalize hX:W.setCell ⟨tb,i*8+4,none⟩ (vI ((t.pc:Int)+1))=X
 obtain⟨ht,hso,hkn,htv,hbt⟩:=E1.out
 have hX1:=(HX.out X (by rw[hX])).1
 have hX2:=(HX.out X (by rw[hX])).2
 clear HX
 have m2:X.cell? ⟨B.mb,2,none⟩=some (vL tb 0 ts.length tc):=by rw[← hX,L2 mt.symm];exact m2
 have m1:X.cell? ⟨B.mb,1,none⟩=some (vL B.wb 0 s.ws.length B.wc):=by rw[← hX,L2 mt.symm];exact m1
 have t7:X.cell? ⟨tb,i*8+7,none⟩=some t.sv:=by rw[← hX,World.cell?_setCell_other _ _ _ _ (by intro e;injection e with _ e1;omega)];exact t7
 have htb:tb<X.heap.size:=by obtain⟨c,hc⟩:=X1 hX1.row (r:=tb) (by rw[htv];rfl);exact(Q3 hc)
 have zt:∀j,X.frozen? ⟨tb,j,none⟩=false:=fun j=>by obtain⟨c,hc⟩:=X1 hX1.row (r:=tb) (by rw[htv];rfl);simp[World.frozen?,hc]
 clear o0 o1 o2 o3 hX zt4 t4 m0
 have hT:=hX1.thr {t with pc:=t.pc+1} (List.mem_of_getElem? (N5 ht))
 have hrow1:X.ownsRow 0 2 1 t.sv l.length (l.map fun v=>vI v):=hT.sv l hso
 have hma:some B.mb≠t.sv.ownBlock:=fun e=>by obtain⟨c,hc⟩:=X1 hrow1 e.symm;exact i4 hc hX1.o (by decide) rfl
 have hta:some tb≠t.sv.ownBlock:=fun e=>by
  obtain⟨c,hc⟩:=X1 hrow1 e.symm
  obtain⟨d,hd⟩:=X1 hX1.row (r:=tb) (by rw[htv];rfl)
  exact i4 hc hd (by decide) rfl
 have hwa:some B.wb≠t.sv.ownBlock:=fun e=>hX1.wn {t with pc:=t.pc+1} (List.mem_of_getElem? (N5 ht)) (.inr (.inl ⟨by simp[hso],e.symm⟩))
 have hmlt:=hX1.low_m
 have hwlt:B.wb<X.heap.size:=by obtain⟨d,hd⟩:=hX1.w_ty;exact(Q3 hd)
 obtain⟨wk,wz⟩:=hX1.wcell hkn
 have E2:Aside (R2 X b0 B s (ts.set i {t with pc:=t.pc+1})∧D2 b0 w X):=⟨hX1,hX2⟩
 clear hX1 hX2 ht hso htv hbt hT E1 hwr
 generalize hx:s.ws.getD k 0=x at wk
 have HXE:Aside (s.ws.getD k 0=x):=hx
 clear hx
 rw[← f0U 22 (.tmp 76)]
 go_region_held3 (fun u:World=>u.cell? ⟨B.mb,2,none⟩=some (vL tb 0 ts.length tc)∧u.cell? ⟨B.mb,1,none⟩=some (vL B.wb 0 s.ws.length B.wc)∧u.cell? ⟨B.wb,k,none⟩=some (vI x))
  (first|exact⟨m2,m1,wk⟩|exact⟨(O0 m2 _).1,(O0 m1 _).1,(O0 wk _).1⟩|exact SQ.out|exact⟨(L2 mt.symm).trans SQ.out.1,(L2 mt.symm).trans SQ.out.2.1,(L2 wt.symm).trans SQ.out.2.2⟩|go_keep)
  (first|(refine O4 rfl (.tmp 77) (.tmp 86) 22 rfl 2 i0 z0 1 8 Try.underlying22 hi hz0 hz1 hz2 hz3 (by decide) t.sv l.length (l.map fun v=>vI v) (by simp[Act.eval,Act.put]) ((show X.drew.ownsRow 0 2 1 _ _ _ from hrow1).alloc _) ⟨X.heap.size,0,none⟩ 1 1 [vI x] (by simp[Act.eval,Act.put]) rfl (N4 (X:=X.drew) (l:=[vI x]) rfl) (by intro u hu;simp at hu;subst hu;rfl) (by unfold maxLen;omega) (by omega) ?_;intro v' w3 hown hgrow hfr;obtain⟨g,cap,rfl⟩:=j5 hown;have hk1:=M2 (W:=X.drew) hgrow (r:=tb) htb hta;have hk2:=M2 (W:=X.drew) hgrow (r:=B.mb) hmlt hma;have hk3:=M2 (W:=X.drew) hgrow (r:=B.wb) hwlt hwa;have k0:=(F1 (j:=2) hk2).1.trans m2;have k1:=(F1 (j:=1) hk2).1.trans m1;have k2:=(F1 (j:=i*8+7) hk1).1.trans t7;have k3:=(F1 (j:=k) hk3).1.trans wk;have SQ:Aside (w3.cell? ⟨B.mb,2,none⟩=some (vL tb 0 ts.length tc)∧w3.cell? ⟨B.mb,1,none⟩=some (vL B.wb 0 s.ws.length B.wc)∧w3.cell? ⟨B.wb,k,none⟩=some (vI x)):=⟨k0,k1,k3⟩;have zz7:=(F1 (j:=i*8+7) hk1).2.trans (zt (i*8+7));have F:Aside ((∀r,r<X.heap.size→some r≠t.sv.ownBlock→w3.heap[r]? =X.heap[r]?)∧X.heap.size≤w3.heap.size∧((Value.slice (some ⟨g,0,none⟩) (l.length+1) cap).ownBlock=t.sv.ownBlock∨∃g',(Value.slice (some ⟨g,0,none⟩) (l.length+1) cap).ownBlock=some g'∧X.heap.size≤g')):=⟨fun r hr hn=>M2 (W:=X.drew) hgrow hr hn,Nat.le_trans (by simp[World.drew]) hgrow.size,hfr.imp id fun⟨g',h1,h2⟩=>⟨g',h1,Nat.le_trans (by simp[World.drew]) h2⟩⟩;clear hgrow hfr hk1 hk2 hk3))
 all_goals(
  have H5:Aside (∀X':World,X'.heap=(w3.setCell ⟨tb,i*8+7,none⟩ (vL g 0 (l.length+1) cap)).heap→Calls Try.prog 107 #[vP B.mb 0,vI i,.agg #[.bool true,vI 0,vL g 0 (l.length+1) cap]] X' fun e w'=>e= .returned (.tuple #[])∧(∃sv' av' an,an.an=(true,0,l++[s.ws.getD k 0])∧R2 w' b0 B s (ts.set i ({t with sv:=sv'}.fin av' an)))∧D2 b0 w w'):=fun X' e=>by
   obtain⟨ht,hso,hkn,hp⟩:=EA.out
   obtain⟨f1,f2,f3⟩:=F.out
   obtain⟨hX1,hX2⟩:=E2.out
   have htv:B.tv=vL tb 0 (ts.set i {t with pc:=t.pc+1}).length tc:=by rw[d05];exact HTV.out
   have hbt:b0≤tb:=hX1.b3 tb (by rw[htv];rfl)
   have h1:=hX1.seen (t:={t with pc:=t.pc+1}) (N5 ht) htv hso f2 hown f1 f3
   rw[List.set_set]at h1
   have h3:D2 b0 X w3:=⟨f2,fun r hr=>f1 r (by have:=hX1.bs;omega) fun e=>by have:=hX1.b4 {t with pc:=t.pc+1} (List.mem_of_getElem? (N5 ht)) r (.inr (.inl ⟨by simp[hso],e.symm⟩));omega,fun r c y z q e0=>f1 r (Q3 e0) fun e=>hX1.no3 (t:={t with pc:=t.pc+1}) (List.mem_of_getElem? (N5 ht)) (.inr (.inl ⟨by simp[hso],e.symm⟩)) q e0⟩
   have h4:=hX2.trans (h3.set (a:=⟨tb,i*8+7,none⟩) hbt (vL g 0 (l.length+1) cap))
   rw[HXE.out]
   have h5:=k0d (a:=⟨(true,0,l++[x]),some ⟨g,0,none⟩,l.length+1,cap⟩) (h1.heap e) (N5 ht) (.inr ⟨_,rfl,rfl,rfl⟩) hl hk
   simp only[List.set_set]at h5
   exact h5.mono fun e2 u ⟨k1,⟨av',k2⟩,k3⟩=>⟨k1,⟨_,av',_,rfl,k2⟩,(h4.heap e).trans k3⟩
  have hne:=EN.out
  go_wp2_with (fail)
  go_at_call 107
  refine Calls.mono (H5.out _ ?_) ?_
  ·rfl
  rintro e u ⟨rfl,hu⟩
  have U:Aside ((∃sv' av' an,an.an=(true,0,l++[s.ws.getD k 0])∧R2 u b0 B s (ts.set i ({t with sv:=sv'}.fin av' an)))∧D2 b0 w u):=hu
  clear hu
  go_wp2
  go_end0
  exact⟨rfl,U.out⟩)
theorem r0e(h:R2 w b0 B s ts)(ht:ts[i]? =some t)(ho:f0B w b0 t.op t.k 5 a b c ob oo ol oc)(hpc:t.pc<100)(hv:a<s.ver)(hl:t.ans.length<100000000)(hk:t.k<100000000):
 Calls Try.prog 84 #[vP B.mb 0,vI i] w fun e w'=>e= .returned (.tuple #[])∧(∃av' an,an.an=(true,s.ver,[])∧R2 w' b0 B s (ts.set i (t.fin av' an)))∧D2 b0 w w':=by
 have hilt:=(List.getElem?_eq_some_iff.1 ht).1
 have hilt2:(i:Int)<(ts.length:Int):=by omega
 have hn16:=h.wf.n2
 have hbs:=h.bs
 have E0:Aside (R2 w b0 B s ts):=h
 obtain⟨tb,tc,htv,m0,m1,m2,zm,t0,t1,t3,t4,t5,t6,t7,zt,mt,wt,htb⟩:=h.fx ht
 obtain⟨hov,hok,hol,f0,f1,f2,f3⟩:=ho
 rw[hov]at t0
 have hok2:(t.k:Int)<(ol:Int):=by omega
 clear h
 go_enter Try.func84,Try.ntmps84
 refine B3 (b0u m2 t0 t3 f0 f1 f2 f3 hilt2 hok2 (by omega) (by omega) (by have:=E0.out.low_m;omega)) ?_
 rintro _ W ⟨rfl,u1,u2,u3⟩
 clear m0 m1 m2 zm t0 t1 t3 t4 t5 t6 t7 zt mt wt f0 f1 f2 f3
 obtain⟨hA,hS,⟨htv',m0,m1,m2,zm,t0,t1,t3,t4,t5,t6,t7,zt,mt,wt,htb'⟩,hbt,o0,o1,o2,o3,HX,hwr⟩:=g0F E0.out ht htv hpc u1 u2 u3
 clear htv'
 have zt4:=zt (i*8+4)
 have H5:Aside (∀X':World,X'.heap=(W.setCell ⟨tb,i*8+4,none⟩ (vI ((t.pc:Int)+1))).heap→Calls Try.prog 107 #[vP B.mb 0,vI i,.agg #[.bool true,vI s.ver,.slice none 0 0]] X' fun e w'=>e= .returned (.tuple #[])∧(∃av' an,an.an=(true,s.ver,[])∧R2 w' b0 B s (ts.set i (t.fin av' an)))∧D2 b0 w w'):=fun X' e=>by
  have h5:=k0d (a:=⟨(true,s.ver,[]),none,0,0⟩) (HX.out X' e).1 (N5 ht) (.inl ⟨rfl,rfl⟩) hl hk
  simp only[List.set_set]at h5
  exact h5.mono fun e2 u ⟨k1,⟨av',k2⟩,k3⟩=>⟨k1,⟨av',_,rfl,k2⟩,(HX.out X' e).2.trans k3⟩
 clear HX hA hS htv htb' htb hbt ht zm zt u1 u2 u3 hov t0 t1 t3 t5 t6 t7 E0 wt hok hol hl hk
 go_wp2
 go_region_law (refine g0G rfl 107 #[vP B.mb 0,vI i,.agg #[.bool true,vI s.ver,.slice none 0 0]] (.tuple #[]) (by simp[execOp,Act.eval,Act.put,resolve,invoke,Deferred.ofValue,callable107.run,hv]) (H5.out _ rfl) ?_;intro u hu;have U:Aside ((∃av' an,an.an=(true,s.ver,[])∧R2 u b0 B s (ts.set i (t.fin av' an)))∧D2 b0 w u):=hu;clear hu)
 all_goals(
  go_wp2
  go_end0
  exact⟨rfl,U.out⟩)
theorem r0d(h:R2 w b0 B s ts)(ht:ts[i]? =some t)(ho:f0B w b0 t.op t.k 5 a b c ob oo ol oc)(hpc:t.pc<100)(hv:¬a<s.ver)(hl:t.ans.length<100000000)(hk:t.k<100000000):
 Calls Try.prog 84 #[vP B.mb 0,vI i] w fun e w'=>e= .returned (.tuple #[])∧(∃av' an,an.an=(false,s.ver,[])∧R2 w' b0 B s (ts.set i (t.fin av' an)))∧D2 b0 w w':=by
 have hilt:=(List.getElem?_eq_some_iff.1 ht).1
 have hilt2:(i:Int)<(ts.length:Int):=by omega
 have hn16:=h.wf.n2
 have hbs:=h.bs
 have E0:Aside (R2 w b0 B s ts):=h
 obtain⟨tb,tc,htv,m0,m1,m2,zm,t0,t1,t3,t4,t5,t6,t7,zt,mt,wt,htb⟩:=h.fx ht
 obtain⟨hov,hok,hol,f0,f1,f2,f3⟩:=ho
 rw[hov]at t0
 have hok2:(t.k:Int)<(ol:Int):=by omega
 clear h
 go_enter Try.func84,Try.ntmps84
 refine B3 (b0u m2 t0 t3 f0 f1 f2 f3 hilt2 hok2 (by omega) (by omega) (by have:=E0.out.low_m;omega)) ?_
 rintro _ W ⟨rfl,u1,u2,u3⟩
 clear m0 m1 m2 zm t0 t1 t3 t4 t5 t6 t7 zt mt wt f0 f1 f2 f3
 obtain⟨hA,hS,⟨htv',m0,m1,m2,zm,t0,t1,t3,t4,t5,t6,t7,zt,mt,wt,htb'⟩,hbt,o0,o1,o2,o3,HX,hwr⟩:=g0F E0.out ht htv hpc u1 u2 u3
 clear htv'
 have zt4:=zt (i*8+4)
 have H5:Aside (∀X':World,X'.heap=(W.setCell ⟨tb,i*8+4,none⟩ (vI ((t.pc:Int)+1))).heap→Calls Try.prog 107 #[vP B.mb 0,vI i,.agg #[.bool false,vI s.ver,.slice none 0 0]] X' fun e w'=>e= .returned (.tuple #[])∧(∃av' an,an.an=(false,s.ver,[])∧R2 w' b0 B s (ts.set i (t.fin av' an)))∧D2 b0 w w'):=fun X' e=>by
  have h5:=k0d (a:=⟨(false,s.ver,[]),none,0,0⟩) (HX.out X' e).1 (N5 ht) (.inl ⟨rfl,rfl⟩) hl hk
  simp only[List.set_set]at h5
  exact h5.mono fun e2 u ⟨k1,⟨av',k2⟩,k3⟩=>⟨k1,⟨av',_,rfl,k2⟩,(HX.out X' e).2.trans k3⟩
 clear HX hA hS htv htb' htb hbt ht zm zt u1 u2 u3 hov t0 t1 t3 t5 t6 t7 E0 wt hok hol hl hk
 go_wp2
 go_region_law (refine g0G rfl 107 #[vP B.mb 0,vI i,.agg #[.bool false,vI s.ver,.slice none 0 0]] (.tuple #[]) (by simp[execOp,Act.eval,Act.put,resolve,invoke,Deferred.ofValue,callable107.run,hv]) (H5.out _ rfl) ?_;intro u hu;have U:Aside ((∃av' an,an.an=(false,s.ver,[])∧R2 u b0 B s (ts.set i (t.fin av' an)))∧D2 b0 w u):=hu;clear hu)
 all_goals(
  go_wp2
  go_end0
  exact⟨rfl,U.out⟩)
end
end
section
variable{w w':World}{b0:Nat}{B:R8B}{s:R1}{ts:List T3}
structure m0Y(n:Nat)(o:P3)(t:T3)(c:SCl):Prop where
 kd:(c.kd:Int)=o.kd
 kr:1≤c.kd∧c.kd≤5
 pcp:1≤t.pc
 tr:c.kd≤3→t.tr=(c.T:Int) - c.r∧c.r<c.T∧c.T≤1024
 p0:c.kd≤3→c.ph=0→t.pc=1
 p1:c.kd≤2→c.ph=1→t.pc=2
 p2:c.kd≤2→c.ph=2→t.pc=c.i+3∧c.i<n
 p3:c.kd≤2→c.ph=3→t.pc=n+3
 ph:c.kd≤2→c.ph≤3
 q1:c.kd=3→c.ph=1→t.pc=c.i+2∧c.i<n
 q2:c.kd=3→c.ph=2→t.pc=n+2
 qh:c.kd=3→c.ph≤2
 r1:c.kd=4→t.pc=c.i+1∧c.i<n
 s1:c.kd=5→t.pc=1
 v:c.kd≤3→1≤c.ph→t.v=c.v
 so:t.so=some c.out
 ol:c.out.length≤n
 oi:c.kd=3→c.ph=1→c.out.length=c.i
 oi4:c.kd=4→c.out.length=c.i
 s0:c.kd=3→c.ph=0→c.out=[]
 vs:c.kd≤2→c.vs=V2 n o.b o.c
 a:c.kd=5→c.a=o.a
structure c0n(n:Nat)(ops:List P3)(t:T3)(g:GT SPl):Prop where
 k:t.k=g.k
 kl:g.k≤ops.length
 al:g.ans.length=g.k
 ans:t.ans.map SA.an=g.ans
 call:match g.call with|none=>t.pc=0∧g.k=ops.length|some c=>∃o,ops[g.k]? =some o∧m0Y n o t c
theorem w0F{o:P3}(h:1≤o.kd∧o.kd≤5)(n0:0<s.ws.length):∃c,s.begin o=(s,.inl c)∧∀t:T3,m0Y s.ws.length o (t.bg (N2 o.a:Nat)) c:=by
 obtain⟨kd,a,b,c⟩:=o
 simp only at h
 have ht:=A5 a
 have:kd=1∨kd=2∨kd=3∨kd=4∨kd=5:=by omega
 rcases this with rfl|rfl|rfl|rfl|rfl
 all_goals
  refine⟨_,by simp only[R1.begin];rfl,fun t=>?_⟩
  constructor<;>simp[T3.bg]<;>omega
theorem r0Z{o:P3}(h:o.kd<1∨5<o.kd):s.begin o=(s,.inr (false,0,[])):=by
 unfold R1.begin
 repeat' split
 all_goals first|rfl|omega
theorem z0c(q:R1)(o:P3):(q.begin o).1=q:=by
 unfold R1.begin
 repeat' split
 all_goals rfl
theorem e0f{l:List P3}{q q':R1}{o:P3}{c:SCl}{t:GT SPl}(h:q.begin o=(q',.inl c)):r6 SPl (o::l) q t=(q',{t with call:=some c}):=by
 have h:SPl.beg q o=(q',.inl c):=h
 simp only[r6,h]
 rfl
theorem e0g{l:List P3}{q q':R1}{o:P3}{a:SPl.A}{t:GT SPl}(h:q.begin o=(q',.inr a)):r6 SPl (o::l) q t=r6 SPl l q' ⟨t.k+1,none,t.ans++[a]⟩:=by
 have h:SPl.beg q o=(q',.inr a):=h
 simp only[r6,h]
theorem e0h:∀(l:List P3) (q:R1) (t:GT SPl),(r6 SPl l q t).1=q
 | [],q,t=>rfl
 | o::l,q,t=>by
   have h:=z0c q o
   obtain⟨q',r,e⟩:∃q' r,q.begin o=(q',r):=⟨_,_,rfl⟩
   rw[e]at h
   have h:q'=q:=h
   subst h
   cases r with
   | inl c=>rw[e0f e]
   | inr a=>rw[e0g e];exact e0h l _ _
structure b0O(w:World)(b0:Nat)(v:Value)(ops:List P3):Prop where
 sl:∃oa oc,v= .slice oa ops.length oc
 c:∀(k:Nat) x,ops[k]? =some x→∃ob oo oc,f0B w b0 v k x.kd x.a x.b x.c ob oo ops.length oc
theorem f0B.stay{v:Value}{k:Nat}{kd a b c:Int}{ob oo ol oc:Nat}(h:f0B w b0 v k kd a b c ob oo ol oc)(hs:D2 b0 w w'):f0B w' b0 v k kd a b c ob oo ol oc:=by
 have e:∀j,w'.cell? ⟨ob,j,none⟩=w.cell? ⟨ob,j,none⟩:=fun j=>by simp only[World.cell?,hs.o ob h.l]
 exact⟨h.sl,h.lt,h.l,(e _).trans h.f0,(e _).trans h.f1,(e _).trans h.f2,(e _).trans h.f3⟩
theorem b0O.stay{v:Value}{ops:List P3}(h:b0O w b0 v ops)(hs:D2 b0 w w'):b0O w' b0 v ops:=
 ⟨h.sl,fun k x hx=>by obtain⟨ob,oo,oc,h1⟩:=h.c k x hx;exact⟨ob,oo,oc,h1.stay hs⟩⟩
end
end Go.Proofs.Ytlcgkpapnpdfpaa
