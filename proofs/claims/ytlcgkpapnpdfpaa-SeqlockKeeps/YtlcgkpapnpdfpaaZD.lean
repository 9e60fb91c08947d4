/-
  SeqlockKeeps, where what it reads is of bulk at most 1048576
  Part 4 of 5.
-/
import Derived.Test.YtlcgkpapnpdfpaaZC
import Derived.Deep.DrawnRows
import Derived.Deep.LoopGhost
import Derived.Deep.RegionHeld3
import Derived.Deep.RegionLaw
import Derived.Deep.RegionLawGrows
import Derived.Deep.DeepAppendRoom
import Derived.ArgAppend
import Derived.StillTailTactics
import Derived.Test.YtlcgkpapnpdfpaaRows
import Derived.ProofKit
import Derived.Carry
import Derived.Deep.Slices
import Derived.ChangeSlices
import Derived.Conc.LeavingOf
import Derived.ChangeSame
set_option linter.unusedSimpArgs false
set_option linter.unusedVariables false
set_option linter.unusedSectionVars false
set_option maxRecDepth 100000
set_option maxHeartbeats 8000000
namespace Go.Proofs.Ytlcgkpapnpdfpaa
open Go Go.Conc Go.RowKit Go.Proofs
noncomputable section
variable{w w':World}{L:l8}
open Classical in
def IW(w:World)(N:Nat→Prop):Nat→Option Obj:=fun r=>if N r then none else match w.heap[r]? with
 | some (.cells c e z)=>some (.cells c e z)
 | _=>none
theorem x0t{N:Nat→Prop}{r:Nat}(h:N r):IW w N r=none:=if_pos h
theorem p0l{N:Nat→Prop}{r:Nat}{c:Array Value}{e:TypeId}{z:Nat×Nat}(h:¬N r)(ho:w.heap[r]? =some (.cells c e z)):IW w N r=some (.cells c e z):=by
 unfold IW
 rw[if_neg h,ho]
theorem s0y{N:Nat→Prop}{r:Nat}{o:Obj}(h:IW w N r=some o):¬N r∧w.heap[r]? =some o∧∃c e z,o= .cells c e z:=by
 unfold IW at h
 split at h
 ·cases h
 ·rename_i hm
  split at h
  ·rename_i c e z ho
   cases h
   exact⟨hm,ho,c,e,z,rfl⟩
  ·cases h
theorem f0I(n j:Nat)(h:j<n):(madeCells #[Value.slice none 0 0] n)[j]? =some (.slice none 0 0):=by
 simp[madeCells,h,Nat.mod_one]
theorem e0T(n:Nat)(v:Value):(madeCells #[v] n).size=n:=by
 simp[madeCells]
def x00(s0:L.S):OX L:=⟨s0,fun _=>⟨0,none,[],.slice none 0 0⟩⟩
theorem z0z{r:Nat}:¬TR (⟨0,none,[],.slice none 0 0⟩:D9 L) r:=by
 rintro(h|⟨a,ha,_⟩|⟨c,A,ab,h,_⟩)
 ·cases h
 ·cases ha
 ·cases h
def o9(L:l8)(s0:L.S)(W:World)(n db aa av:Nat)(ib ob:Nat→Nat)(oa:Nat→Option Addr)(oc:Nat→Nat)(ops:Nat→List P3):T9:=
 ⟨n,aa,av,db,ib,ob,ops,oa,oc,IW W (fun r=>r=aa∨L.SR s0 r)⟩
theorem E6{s0:L.S}{W:World}{n db aa av:Nat}{ib ob:Nat→Nat}{oa:Nat→Option Addr}{oc:Nat→Nat}{ops:Nat→List P3}{r:Nat}{c:Array Value}{e:TypeId}{z:Nat×Nat}(h:¬(r=aa∨L.SR s0 r))(ho:W.heap[r]? =some (.cells c e z)):(o9 L s0 W n db aa av ib ob oa oc ops).I r=some (.cells c e z):=by
 exact p0l (w:=W) (N:=fun r=>r=aa∨L.SR s0 r) h ho
theorem i06{s0:L.S}{W:World}{n db aa av:Nat}{ib ob:Nat→Nat}{oa:Nat→Option Addr}{oc:Nat→Nat}{ops:Nat→List P3}{r:Nat}{o:Obj}(h:(o9 L s0 W n db aa av ib ob oa oc ops).I r=some o):¬(r=aa∨L.SR s0 r)∧W.heap[r]? =some o∧∃c e z,o= .cells c e z:=by
 exact s0y (w:=W) (N:=fun r=>r=aa∨L.SR s0 r) h
theorem l02{s0:L.S}{W:World}{n db aa av:Nat}{ib ob:Nat→Nat}{oa:Nat→Option Addr}{oc:Nat→Nat}{ops:Nat→List P3}{r:Nat}(h:r=aa∨L.SR s0 r):(o9 L s0 W n db aa av ib ob oa oc ops).I r=none:=by
 exact x0t (w:=W) (N:=fun r=>r=aa∨L.SR s0 r) h
section
variable{s0:L.S}{W w0:World}{n db aa av tb o tl:Nat}{ib ob:Nat→Nat}{oa:Nat→Option Addr}{ol oc m:Nat→Nat}{ops:Nat→List P3}{ta sa:Option Addr}{S:List Int}{l:Value}
theorem b0f{dv:Value}(hL:L.Ok)(hsu:L.SU s0 w0)(hD:DI w0 n n db aa av dv oa m oc ib ob l W){r:Nat}{c:Array Value}{e:TypeId}{z:Nat×Nat}(ho:W.heap[r]? =some (.cells c e z))(h84:e≠42)(hr:w0.heap.size≤r):¬(r=aa∨L.SR s0 r):=by
 rintro(rfl|h)
 ·rw[hD.haa]at ho
  cases ho
  exact h84 rfl
 ·have:=hL.lS _ _ _ hsu h
  omega
theorem y0h(hL:L.Ok)(hsu:L.SU s0 w0)(hI:y6 w0 (L.SR s0) n tb o tl ta oa ol oc ops S sa)(hD:DI w0 n n db aa av (.func (.func L.df) L.first L.capt) oa (fun j=>(ops j).length) oc ib ob l W):(o9 L s0 W n db aa av ib ob oa oc ops).Ok L where
 cells:=fun r o h=>(i06 h).2.2
 len:=fun i hi=>by
  have:(ops i).length=min (ol i) 65536:=hI.hlen i hi
  show(ops i).length≤65536
  omega
 inI:=⟨by
  show(o9 L s0 W n db aa av ib ob oa oc ops).I av≠none
  rw[E6 (b0f hL hsu hD hD.hav (by decide) hD.new.2.2) hD.hav];simp,fun i hi=>by
  show(o9 L s0 W n db aa av ib ob oa oc ops).I (ib i)≠none
  rw[E6 (b0f hL hsu hD (hD.hib i hi) (by decide) (hD.lo i hi).1) (hD.hib i hi)];simp⟩
 av:=fun u hu=>⟨⟨_,_,hu _ _ (E6 (b0f hL hsu hD hD.hav (by decide) hD.new.2.2) hD.hav),rfl⟩,rfl⟩
 db:=fun u hu=>⟨⟨_,_,hu _ _ (E6 (b0f hL hsu hD hD.hdb (by decide) hD.new.1) hD.hdb),rfl⟩,rfl⟩
 ib:=fun u hu i hi=>⟨⟨_,_,hu _ _ (E6 (b0f hL hsu hD (hD.hib i hi) (by decide) (hD.lo i hi).1) (hD.hib i hi)),rfl⟩,rfl⟩
 ob:=fun u hu i hi=>⟨⟨_,_,hu _ _ (E6 (b0f hL hsu hD (hD.hob i hi) (by decide) (hD.lo i hi).2) (hD.hob i hi)),rfl⟩,rfl⟩
 op:=fun u hu i hi k x hx=>by
  obtain⟨opb,oo,h1,h2,f0,f1,f2,f3,g0,g1,g2,g3⟩:=hI.hop i hi k x hx
  obtain⟨c,e,z,ho⟩:=M3 f0
  simp only at ho
  have hlt:=(Q3 ho)
  have hW:=(hD.old opb hlt).trans ho
  have hN:¬(opb=aa∨L.SR s0 opb):=by
   rintro(h|h)
   ·have:=hD.new.2.1;omega
   ·exact h2 h
  have hU:=hu _ _ (E6 hN hW)
  have e1:u.heap[opb]? =w0.heap[opb]?:=hU.trans ho.symm
  have ec:∀k,u.cell? ⟨opb,k,none⟩=w0.cell? ⟨opb,k,none⟩:=fun k=>by unfold World.cell?;simp only[e1]
  have ez:∀k,u.frozen? ⟨opb,k,none⟩=w0.frozen? ⟨opb,k,none⟩:=fun k=>by unfold World.frozen?;simp only[e1]
  exact⟨opb,oo,h1,(ec _).trans f0,(ec _).trans f1,(ec _).trans f2,(ec _).trans f3,(ez _).trans g0,(ez _).trans g1,(ez _).trans g2,(ez _).trans g3⟩
theorem p0E{g:Q1}(hL:L.Ok)(hsu:L.SU s0 w0)(hD:DI w0 n n db aa av (.func (.func L.df) L.first L.capt) oa (fun j=>(ops j).length) oc ib ob l W):OU L (o9 L s0 W n db aa av ib ob oa oc ops) g (x00 s0) W where
 fix:=fun r o h=>(i06 h).2.1
 su:=hL.sS _ _ _ hsu hD.size fun r hr=>hD.old r (hL.lS _ _ _ hsu hr)
 arr:=⟨_,hD.haa,e0T _ _,fun i hi=>f0I _ _ hi⟩
 thr:=fun i hi=>⟨World.ownsRow_nil _ _ _ _,fun a ha=>(by cases ha),rfl,Nat.zero_le _,fun a ha=>(by cases ha),fun c A ab h=>(by cases h)⟩
 ts:=fun i hi r hr=>absurd hr z0z
 sa:=fun h=>by
  have:=hL.lS _ _ _ hsu h
  have h2:=hD.new.2.1
  show False
  have h3:(o9 L s0 W n db aa av ib ob oa oc ops).aa=aa:=rfl
  omega
 jj:=fun i hi c A ab h=>(by cases h)
 tt:=fun i j hi hj hne r hr=>absurd hr z0z
 inone:=by
  rintro r (h|h|⟨i,hi,h⟩)
  ·exact l02 (.inr h)
  ·exact l02 (.inl h)
  ·exact absurd h z0z
end
end
section
variable{An:G3}{w w':World}{L:l8}
theorem y6.alloc{N:Nat→Prop}{n tb o tl:Nat}{ta:Option Addr}{oa:Nat→Option Addr}{ol oc:Nat→Nat}{ops:Nat→List P3}{S:List Int}{sa:Option Addr}(h:y6 w N n tb o tl ta oa ol oc ops S sa)(ob:Obj):y6 (w.alloc ob) N n tb o tl ta oa ol oc ops S sa:=by
 refine⟨h.hn,h.hta,fun hp=>by have:=h.htb hp;simp;omega,fun j hj=>?_,h.hlen,fun j hj k x hx=>?_,h.hsl,fun hp=>?_⟩
 ·obtain⟨h1,h2,h3⟩:=h.hth j hj
  exact⟨(O0 h1 ob).1,(O0 h1 ob).2.trans h2,h3⟩
 ·obtain⟨opb,oo,h1,h2,f0,f1,f2,f3,g0,g1,g2,g3⟩:=h.hop j hj k x hx
  exact⟨opb,oo,h1,h2,(O0 f0 ob).1,(O0 f1 ob).1,(O0 f2 ob).1,(O0 f3 ob).1,(O0 f0 ob).2.trans g0,(O0 f1 ob).2.trans g1,(O0 f2 ob).2.trans g2,(O0 f3 ob).2.trans g3⟩
 ·obtain⟨sb,so,c,e,z,h1,h2,h3,h4⟩:=h.hS hp
  exact⟨sb,so,c,e,z,h1,h2,(D0 _ _ (Q3 h3)).trans h3,h4⟩
def T9.re(p:T9)(I:Nat→Option Obj):T9:=⟨p.n,p.aa,p.av,p.db,p.ib,p.ob,p.ops,p.oa,p.oc,I⟩
theorem f0C.re{p:T9}{I:Nat→Option Obj}{st i:Nat}{t:D9 L}(h:f0C L p st i t w):f0C L (p.re I) st i t w:=⟨h.row,h.au,h.al,h.kl,h.ar,h.call⟩
theorem OU.re{p:T9}{g:Q1}{x:OX L}(h:OU L p g x w){I:Nat→Option Obj}(hI:∀r o,I r=some o→p.I r=some o):OU L (p.re I) g x w:=
 ⟨fun r o e=>h.fix r o (hI r o e),h.su,h.arr,fun i hi=>(h.thr i hi).re,h.ts,h.sa,h.jj,h.tt,fun r hr=>by
  cases e:I r with
  | none=>exact e
  | some o=>
    have:=h.inone r hr
    rw[hI r o e]at this
    cases this⟩
theorem o0w(hL:L.Ok){s0:L.S}(hsu:L.SU s0 w){n tb o tl tc sc M:Nat}{mo:Int}{ta sa:Option Addr}{oa:Nat→Option Addr}{ol oc:Nat→Nat}{ops:Nat→List P3}{S:List Int}(hI:y6 w (L.SR s0) n tb o tl ta oa ol oc ops S sa)(hM:min (max mo 0) 1048576=(M:Int)){c:Frame}{cs:List Frame}{Stop:Goroutine→World→Prop}
 (hk:∀(g:Q1) (p p':T9) (t:OX L×List Nat) (w':World) (oa':Option Addr) (oc':Nat),g.n=n→p.n=n→p.ops=ops→(U2 L p g).Ok g→d0X (U2 L p g) n M S (x00 s0) t→p'.n=n→p'.ops=ops→p'.aa=p.aa→OU L p' g t.1 w'→
   w'.ownsRow w.heap.size 3 1 (.slice oa' t.2.length oc') t.2.length (t.2.map fun i:Nat=>Value.int .i64 i)→(∀y,oa'=some y→¬OR L p' t.1 y.block)→w.heap.size≤w'.heap.size→(∀r c e z,w.heap[r]? =some (.cells c e z)→¬L.SR s0 r→w'.heap[r]? =some (.cells c e z))→(∀r c e z,w.heap[r]? =some (.cells c e z)→¬L.SR s0 r→p'.I r≠none)→
   Q4 An Try.prog Stop (G (c.finish (.agg #[vL p.aa 0 n n,.slice oa' t.2.length oc',.slice none 0 0,.bool (decide (0<L5 ((U2 L p g).liv t.1) n))])) cs) w'):
 Q4 An Try.prog Stop (G (Frame.enter Try.prog 47 #[.slice ta tl tc,.func (.func L.df) L.first L.capt,.slice sa S.length sc,vI mo] .normal) (c::cs)) w:=by
 have hw0:∀r,r<w.heap.size→(w.alloc (.cells #[.slice none 0 0,.slice none 0 0,.slice none 0 0,.bool false] 31)).heap[r]? =w.heap[r]?:=fun r hr=>D0 _ _ hr
 have hs0:(w.alloc (.cells #[.slice none 0 0,.slice none 0 0,.slice none 0 0,.bool false] 31)).heap.size=w.heap.size+1:=by simp
 have htr:S7 (w.alloc (.cells #[.slice none 0 0,.slice none 0 0,.slice none 0 0,.bool false] 31)) w.heap.size (.slice none 0 0) (.slice none 0 0) (.slice none 0 0) (.bool false):=⟨heap_alloc_new _ _⟩
 have hI0:=hI.alloc (.cells #[.slice none 0 0,.slice none 0 0,.slice none 0 0,.bool false] 31)
 refine w7 (F:=F0) (Stop:=fun a u=>∃A l ib ob db aa av,a=G (Frame.enter Try.prog 82 #[l,.slice sa S.length sc,vI mo] .normal) ((bA 47 A [.inRegion (oC n0K) [3,4,5,6,7,8,9,10],.code s0F])::c::cs)∧
  DI (w.alloc (.cells #[.slice none 0 0,.slice none 0 0,.slice none 0 0,.bool false] 31)) n n db aa av (.func (.func L.df) L.first L.capt) oa (fun j=>(ops j).length) oc ib ob l u∧G0 32 A [(8,vP w.heap.size 0),(10,vL aa 0 n n)])
  (E0P J1 (Nat.zero_le _) fun A hA=>n0P hI0.hn hI0.htb (fun j hj=>⟨(hI0.hth j hj).1,(hI0.hth j hj).2.1,(hI0.hth j hj).2.2,(hI0.hlen j hj).symm⟩) hI0.hta fun w1 l ib ob db aa av hD=>E0Q hA fun A2 hA2=>.stop fun d=>⟨A2,l,ib,ob,db,aa,av,rfl,hD.same (Nat.le_refl _) fun _ _=>rfl,hA2⟩) fun a W hS=>?_
 obtain⟨A,l,ib,ob,db,aa,av,rfl,hD,hA⟩:=hS
 generalize w.alloc (.cells #[.slice none 0 0,.slice none 0 0,.slice none 0 0,.bool false] 31)=w0 at hw0 hs0 htr hI0 hD
 have hsu0:L.SU s0 w0:=hL.sS _ _ _ hsu (by omega) fun r hr=>hw0 r (hL.lS _ _ _ hsu hr)
 have hpok:=y0h hL hsu0 hI0 hD
 have hn64:n≤64:=by have:=hI.hn;omega
 have hU1:∀g,OU L (o9 L s0 W n db aa av ib ob oa oc ops) g (x00 s0) W:=fun g=>p0E hL hsu0 hD
 have hsrlt:∀r,L.SR s0 r→r<w.heap.size:=fun r hr=>hL.lS _ _ _ hsu hr
 have hDs:=hD.size
 have hDn:=hD.new
 obtain⟨la,lc,rfl,hla⟩:∃la lc,l= .slice la n lc∧(0<n→∃lb cur,la=some ⟨lb,0,none⟩∧w0.heap.size≤lb∧W.heap[lb]? =some (.cells cur 112 (0,0))∧cur.toList.take n=(List.range n).map fun j=>c0o (ob j) db (ib j) av):=by
  rcases hD.row.2 with⟨h1,h2⟩|⟨b,cap,cur,h1,h2,h3,h4,h5,h6,h7⟩
  ·exact⟨none,0,by rw[h1,h2],fun h=>by omega⟩
  ·exact⟨_,cap,h1,fun _=>⟨b,cur,rfl,h2,h3,by simpa using h7⟩⟩
 have hnm:∀r c e z,W.heap[r]? =some (.cells c e z)→e≠42→¬L.SR s0 r→(o9 L s0 W n db aa av ib ob oa oc ops).I r=some (.cells c e z):=fun r c e z h1 h2 h3=>E6 (by
  rintro(rfl|h)
  ·rw[hD.haa]at h1
   cases h1
   exact h2 rfl
  ·exact h3 h) h1
 have hnA:∀r c e z,W.heap[r]? =some (.cells c e z)→r≠aa→¬L.SR s0 r→(o9 L s0 W n db aa av ib ob oa oc ops).I r=some (.cells c e z):=fun r c e z h1 h2 h3=>E6 (fun h=>h.elim h2 h3) h1
 have hnewS:∀r,w0.heap.size≤r→¬L.SR s0 r:=fun r hr h=>by have:=hsrlt r h;omega
 have hthr:∃lb,(0<n→la=some ⟨lb,0,none⟩)∧∀g:Q1,d0i (U2 L (o9 L s0 W n db aa av ib ob oa oc ops) g) lb 0 ((List.range n).map fun j=>.func (.func 99) #[] ((U2 L (o9 L s0 W n db aa av ib ob oa oc ops) g).cap j)):=by
  by_cases h0:0<n
  ·obtain⟨lb,cur,h1,h2,h3,h4⟩:=hla h0
   refine⟨lb,fun _=>h1,fun g=>⟨cur,112,(0,0),hnm lb _ _ _ h3 (by decide) (hnewS lb h2),fun k u hku=>⟨?_,by simp⟩⟩⟩
   have hku:((List.range n).map fun j=>c0o (ob j) db (ib j) av)[k]? =some u:=hku
   rw[← h4]at hku
   have hkn:k<n:=by
    have:=(List.getElem?_eq_some_iff.1 hku).1
    rw[List.length_take]at this
    omega
   rw[List.getElem?_take_of_lt hkn]at hku
   simpa using hku
  ·refine⟨av,fun h=>absurd h h0,fun g=>⟨_,_,_,hnm av _ _ _ hD.hav (by decide) (hnewS av hDn.2.2),fun k u hku=>?_⟩⟩
   have:n=0:=by omega
   rw[this]at hku
   simp at hku
 obtain⟨lb,hlb,hrow⟩:=hthr
 have hsch:∃sb so,(0<S.length→sa=some ⟨sb,so,none⟩)∧∀g:Q1,d0i (U2 L (o9 L s0 W n db aa av ib ob oa oc ops) g) sb so (S.map fun i:Int=>Value.int .i64 i):=by
  by_cases h0:0<S.length
  ·obtain⟨sb,so,cc,e,z,h1,h2,h3,h4⟩:=hI0.hS h0
   have hlt:=(Q3 h3)
   refine⟨sb,so,fun _=>h1,fun g=>⟨cc,e,z,hnA sb _ _ _ ((hD.old sb hlt).trans h3) (by omega) h2,h4⟩⟩
  ·refine⟨av,0,fun h=>absurd h h0,fun g=>⟨_,_,_,hnm av _ _ _ hD.hav (by decide) (hnewS av hDn.2.2),fun k u hku=>?_⟩⟩
   have:S=[]:=List.length_eq_zero_iff.1 (by omega)
   rw[this]at hku
   simp at hku
 obtain⟨sb,so,hsb,hsrow⟩:=hsch
 have htrI:(o9 L s0 W n db aa av ib ob oa oc ops).I w.heap.size=some (.cells #[.slice none 0 0,.slice none 0 0,.slice none 0 0,.bool false] 31 (0,0)):=
  hnm _ _ _ _ ((hD.old _ (by omega)).trans htr.o) (by decide) fun h=>by have:=hsrlt _ h;omega
 refine o0x (Z:=fun g=>U2 L (o9 L s0 W n db aa av ib ob oa oc ops) g) (x0:=fun g=>x00 s0) (tb:=lb) (so:=so) (sb:=sb) hn64 hM hI.hsl (fun g hg _=>p0D hL hpok hg) (fun g w2 _ h1 h2=>OU.stable hL (hU1 g) h1 fun r hr=>?_) (fun g hg j hj=>⟨rfl,rfl⟩) (fun g r hr=>OU.low (g:=g) hL (hU1 g) hr) (fun g r hr=>⟨K9 (p:=o9 L s0 W n db aa av ib ob oa oc ops) (hU1 g).fix hr,fun h=>hr ((hU1 g).inone r h)⟩) hlb (fun g _=>hrow g) hsb (fun g _=>hsrow g) ?_
 ·have hlt:r<W.heap.size:=hr.elim (OU.low hL (hU1 g)) (K9 (hU1 g).fix)
  rw[h2 r _ (Array.getElem?_eq_getElem hlt),Array.getElem?_eq_getElem hlt]
 ·intro g t u oa' oc' bv hg hrel hU hord hnR hsz
  have hU:OU L (o9 L s0 W n db aa av ib ob oa oc ops) g t.1 u:=hU
  have hT:S7 u w.heap.size (.slice none 0 0) (.slice none 0 0) (.slice none 0 0) (.bool false):=⟨hU.fix _ _ htrI⟩
  refine w7 (F:=F0) (Stop:=fun a u2=>a=G (c.finish (.agg #[vL aa 0 n n,.slice oa' t.2.length oc',.slice none 0 0,.bool (decide (0<L5 ((U2 L (o9 L s0 W n db aa av ib ob oa oc ops) g).liv t.1) n))])) cs∧∃d,u2=(trW u w.heap.size (vL aa 0 n n) (.slice oa' t.2.length oc') (.slice none 0 0) (.bool (decide (0<L5 ((U2 L (o9 L s0 W n db aa av ib ob oa oc ops) g).liv t.1) n)))).at d)
   (E0R hT (fun k h=>by obtain⟨z,hz,_⟩:=h;cases hz) hA (.stop fun d=>⟨rfl,d,rfl⟩)) fun a u2 ⟨ha,d,hu2⟩=>?_
  subst ha
  subst hu2
  have hne:∀r,r≠w.heap.size→((trW u w.heap.size (vL aa 0 n n) (.slice oa' t.2.length oc') (.slice none 0 0) (.bool (decide (0<L5 ((U2 L (o9 L s0 W n db aa av ib ob oa oc ops) g).liv t.1) n)))).at d).heap[r]? =u.heap[r]?:=fun r hr=>by
   show(trW _ _ _ _ _ _).heap[r]? =_
   unfold trW
   rw[I0 _ _ _ hr,I0 _ _ _ hr,I0 _ _ _ hr,I0 _ _ _ hr]
  have hsz2:((trW u w.heap.size (vL aa 0 n n) (.slice oa' t.2.length oc') (.slice none 0 0) (.bool (decide (0<L5 ((U2 L (o9 L s0 W n db aa av ib ob oa oc ops) g).liv t.1) n)))).at d).heap.size=u.heap.size:=by
   show(trW _ _ _ _ _ _).heap.size=_
   unfold trW
   simp
  generalize (trW u w.heap.size (vL aa 0 n n) (.slice oa' t.2.length oc') (.slice none 0 0) (.bool (decide (0<L5 ((U2 L (o9 L s0 W n db aa av ib ob oa oc ops) g).liv t.1) n)))).at d=V at hne hsz2 ⊢
  let I':Nat→Option Obj:=fun r=>if r=w.heap.size then none else(o9 L s0 W n db aa av ib ob oa oc ops).I r
  have hI':∀r o,I' r=some o→r≠w.heap.size∧(o9 L s0 W n db aa av ib ob oa oc ops).I r=some o:=fun r o h=>by
   by_cases e:r=w.heap.size
   ·simp[I',e]at h
   ·exact⟨e,by simpa [I',e]using h⟩
  have htrR:¬OR L (o9 L s0 W n db aa av ib ob oa oc ops) t.1 w.heap.size:=fun h=>by
   have:=hU.inone _ h
   rw[htrI]at this
   cases this
  have hU2:OU L ((o9 L s0 W n db aa av ib ob oa oc ops).re I') g t.1 u:=hU.re fun r o h=>(hI' r o h).2
  refine hk g (o9 L s0 W n db aa av ib ob oa oc ops) ((o9 L s0 W n db aa av ib ob oa oc ops).re I') t V oa' oc' hg rfl rfl (p0D hL hpok hg) hrel rfl rfl rfl (hU2.stable hL (by omega) fun r hr=>hne r ?_) ?_ hnR (by omega) (fun r cc e z hr hnS=>?_) fun r cc e z hr hnS=>?_
  ·rintro rfl
   rcases hr with hr|hr
   ·exact htrR hr
   ·cases e:I' w.heap.size with
    | none=>exact hr e
    | some o=>exact(hI' _ _ e).1 rfl
  ·refine j4 (by omega) (K0 hord fun b hb hbn=>hne b (by omega))
  ·have hlt:=(Q3 hr)
   rw[hne r (by omega)]
   exact hU.fix _ _ (hnA r _ _ _ ((hD.old r (by omega)).trans ((hw0 r hlt).trans hr)) (by omega) hnS)
  ·have hlt:=(Q3 hr)
   have h1:=hnA r _ _ _ ((hD.old r (by omega)).trans ((hw0 r hlt).trans hr)) (by omega) hnS
   show I' r≠none
   simp only[I']
   rw[if_neg (by omega),h1]
   simp
end
noncomputable section
variable {cs:List Frame}{main:Bool}{Stop:Goroutine→World→Prop}
variable{F:Fz}{w:World}
theorem Y9:O1 17:=G2 Try.func17 rfl rfl
theorem o0f(X:World)(x y z u x' y' z' u':Value):((((X.alloc (.cells #[x,y,z,u] 31)).setCell ⟨X.heap.size,0,none⟩ x').setCell ⟨X.heap.size,1,none⟩ y').setCell ⟨X.heap.size,2,none⟩ z').setCell ⟨X.heap.size,3,none⟩ u'=X.alloc (.cells #[x',y',z',u'] 31):=by go_simp
def f6:Code:=Try.f15.body.getD .skip
def D0g:=pC [] f6
def v0S:=pC [zt] f6
def v0U:=pC [zf] f6
def j0z:=pC [zf,zt] f6
def m0w:=pC [zf] v0U
def g0y:=pC [zf,zf,zt] f6
def j0B:=pC [zf] m0w
def j0A:=pC [zf,zf,zf,zt] f6
def q0W:=pC [zf] j0B
def v0T:=pC [zf,zf,zf,zf,zt] f6
theorem n0m(args:Array Value):Frame.enter Try.prog 15 args .normal=(Go.Conc.base 15).at {tmps:=args++Array.replicate (23 - args.size) undef,defers:=[]} [.code D0g]:=enter_at args Try.func15 rfl
theorem callable15:O1 15:=G2 Try.func15 rfl rfl
def k0T(s:Nat→Value):Array Value:= #[s 0,s 1,s 2,s 3,s 4,s 5,s 6,s 7,s 8,s 9,s 10,s 11,s 12,s 13,s 14,s 15,s 16,s 17,s 18,s 19,s 20,s 21,s 22]
theorem D00{A:Array Value}(h:A.size=23):∃s,A=k0T s:=by
 obtain⟨s,hs,_⟩:=Y4 A h
 exact⟨s,hs⟩
theorem D0c{n:Nat}(hU:P2 F n)(hn:n≤w.heap.size){mo:Int}{va ta sa:Option Addr}{vl vc tl tc sl sc:Nat}
 (h:∀A,G0 23 A [(0,.slice va vl vc),(1,.slice ta tl tc),(2,.slice sa sl sc),(3,vI mo),(8,vP w.heap.size 0)]→J0 Try.prog main F Stop (G (Frame.enter Try.prog 17 #[.slice va vl vc] .normal) ((bA 15 A [.inRegion (oC j0z) [1,2],.code m0w])::cs)) (w.alloc (.cells #[.slice none 0 0,.slice none 0 0,.slice none 0 0,.bool false] 31))):
 J0 Try.prog main F Stop (G (Frame.enter Try.prog 15 #[.slice va vl vc,.slice ta tl tc,.slice sa sl sc,vI mo] .normal) cs) w:=by
 rw[n0m]
 walk_nrm
 refine ogW v0S v0U ?_
 simp only[v0S,f6,Try.f15,zz,Nat.reduceAdd]
 refine oA hU ?_
 refine S0<|ogW j0z m0w ?_
 simp only[j0z,f6,Try.f15,zz,Nat.reduceAdd]
 refine oT ?_
 refine oc Y9 #[.slice va vl vc] ?_
 refine h _ ?_
 exact⟨rfl,rfl,rfl,rfl,rfl,rfl,trivial⟩
theorem D0d{kb rb:Nat}{mo:Int}{va ta sa:Option Addr}{vl vc tl tc sl sc:Nat}{A:Array Value}(hA:G0 23 A [(0,.slice va vl vc),(1,.slice ta tl tc),(2,.slice sa sl sc),(3,vI mo),(8,vP rb 0)])
 (h:∀A,G0 23 A [(8,vP rb 0),(9,vP kb 0)]→J0 Try.prog main F Stop (G (Frame.enter Try.prog 47 #[.slice ta tl tc,.func (.func 48) #[vP kb 0] #[],.slice sa sl sc,vI mo] .normal) ((bA 15 A [.inRegion (oC g0y) [5,6,7],.code j0B])::cs)) w):
 J0 Try.prog main F Stop (G ((bA 15 A [.inRegion (oC j0z) [1,2],.code m0w]).finish (vP kb 0)) cs) w:=by
 obtain⟨s,rfl,h0,h1,h2,h3,h8,_⟩:=Y3 k0T hA
 simp only[k0T,h0,h1,h2,h3,h8]
 clear h0 h1 h2 h3 h8
 rw[Frame.finish_at]
 simp only[j0z,f6,Try.f15,zz,Nat.reduceAdd]
 walk_nrm
 refine oT ?_
 refine S0<|ogW g0y j0B ?_
 simp only[g0y,f6,Try.f15,zz,Nat.reduceAdd]
 iterate 5 refine oT ?_
 refine oc j03 #[.slice ta tl tc,.func (.func 48) #[vP kb 0] #[],.slice sa sl sc,vI mo] ?_
 refine h _ ?_
 exact⟨rfl,rfl,rfl,trivial⟩
theorem D0e{n:Nat}(hU:P2 F n)(hn:n≤w.heap.size){kb rb:Nat}{aa oa:Option Addr}{al ac ol oz:Nat}{st:Bool}{A:Array Value}(hA:G0 23 A [(8,vP rb 0),(9,vP kb 0)])
 (h:∀A,G0 23 A [(8,vP rb 0),(10,vP w.heap.size 0)]→J0 Try.prog main F Stop (G (Frame.enter Try.prog 49 #[vP kb 0] .normal) ((bA 15 A [.inRegion (oC j0A) [1,2,3],.code q0W])::cs)) (w.alloc (.cells #[.slice aa al ac,.slice oa ol oz,.slice none 0 0,.bool st] 31))):
 J0 Try.prog main F Stop (G ((bA 15 A [.inRegion (oC g0y) [5,6,7],.code j0B]).finish (.agg #[.slice aa al ac,.slice oa ol oz,.slice none 0 0,.bool st])) cs) w:=by
 obtain⟨s,rfl,h8,h9,_⟩:=Y3 k0T hA
 simp only[k0T,h8,h9]
 clear h8 h9
 rw[Frame.finish_at]
 simp only[g0y,f6,Try.f15,zz,Nat.reduceAdd]
 walk_nrm
 refine oA hU ?_
 (refine oW fun dd K hK=>?_;go_simp;refine hK _ _ ⟨⟨⟨0,e0L (fun k=>Q2 hU (show n≤w.heap.size by omega)) _ _ _ _⟩,fun e he=>by(have hm:=mem_listed he;clear he hK;simp[go_sem,storedEv]at hm;rcases hm with rfl|rfl|rfl|rfl<;>exact U0 _ _ ((fun k=>Q2 hU (show n≤w.heap.size by omega)) _))⟩,?_⟩;clear hK K;simp only[setCell_at'];refine J0.at ?_ dd)
 have e1:=o0f w (.slice none 0 0) (.slice none 0 0) (.slice none 0 0) (.bool false) (.slice aa al ac) (.slice oa ol oz) (.slice none 0 0) (.bool st)
 rw[e1]
 clear e1
 refine S0<|ogW j0A q0W ?_
 simp only[j0A,f6,Try.f15,zz,Nat.reduceAdd]
 refine oT ?_
 refine oc j05 #[vP kb 0] ?_
 refine h _ ?_
 exact⟨rfl,rfl,rfl,trivial⟩
theorem D0f{rb tb:Nat}{aa oa:Option Addr}{al ac ol oz xl xc:Nat}{xa:Option Addr}{st:Bool}{y0 y1 y2 y3:Value}(hne:rb≠tb)(hR:S7 w rb y0 y1 y2 y3)(hT:S7 w tb (.slice aa al ac) (.slice oa ol oz) (.slice none 0 0) (.bool st))(hnr:∀k,¬held F ⟨rb,k,none⟩)(hnt:∀k,¬held F ⟨tb,k,none⟩){A:Array Value}(hA:G0 23 A [(8,vP rb 0),(10,vP tb 0)]){c:Frame}
 (h:J0 Try.prog main F Stop (G (c.finish (.agg #[.slice aa al ac,.slice oa ol oz,.slice xa xl xc,.bool st])) cs) (trW (w.setCell ⟨tb,2,none⟩ (.slice xa xl xc)) rb (.slice aa al ac) (.slice oa ol oz) (.slice xa xl xc) (.bool st))):
 J0 Try.prog main F Stop (G ((bA 15 A [.inRegion (oC j0A) [1,2,3],.code q0W]).finish (.slice xa xl xc)) (c::cs)) w:=by
 obtain⟨s,rfl,h8,h10,_⟩:=Y3 k0T hA
 simp only[k0T,h8,h10]
 clear h8 h10
 rw[Frame.finish_at]
 simp only[j0A,f6,Try.f15,zz,Nat.reduceAdd]
 walk_nrm
 refine oT ?_
 (refine oW fun dd K hK=>?_;have hc2:=(hT.at dd).c2;have hz0:=(hT.at dd).z;go_simp;refine hK _ _ ⟨⟨⟨0,E0 rfl (hnt 2) _⟩,fun e he=>by(have hm:=mem_listed he;clear he hK;simp[go_sem,storedEv,hc2,hz0]at hm;subst hm;exact U0 _ _ (hnt 2))⟩,?_⟩;clear hK K hc2 hz0;rw[setCell_at'];refine J0.at ?_ dd)
 have hT2:S7 (w.setCell ⟨tb,2,none⟩ (.slice xa xl xc)) tb (.slice aa al ac) (.slice oa ol oz) (.slice xa xl xc) (.bool st):=⟨by rw[U1 hT.o];rfl⟩
 have hR2:S7 (w.setCell ⟨tb,2,none⟩ (.slice xa xl xc)) rb y0 y1 y2 y3:=⟨(I0 _ _ _ hne).trans hR.o⟩
 generalize w.setCell ⟨tb,2,none⟩ (.slice xa xl xc)=W at hT2 hR2 h ⊢
 refine S0<|ogW v0T .ret ?_
 simp only[v0T,f6,Try.f15,zz,Nat.reduceAdd]
 (refine oW fun dd K hK=>?_;have hc0:=(hT2.at dd).c0;have hc1:=(hT2.at dd).c1;have hc2:=(hT2.at dd).c2;have hc3:=(hT2.at dd).c3;have hz0:=(hT2.at dd).z;go_simp;refine hK _ _ ⟨⟨⟨0,V3.refl _ _⟩,fun e he=>by(have hm:=mem_listed he;clear he hK;simp[go_sem,hc0,hc1,hc2,hc3,hz0]at hm;rcases hm with rfl|rfl|rfl|rfl<;>exact I1 _ _)⟩,J0.at ?_ dd⟩;clear hK K hc0 hc1 hc2 hc3 hz0)
 (refine oW fun dd K hK=>?_;have hc0:=(hR2.at dd).c0;have hc1:=(hR2.at dd).c1;have hc2:=(hR2.at dd).c2;have hc3:=(hR2.at dd).c3;have hz0:=(hR2.at dd).z;go_simp;refine hK _ _ ⟨⟨⟨0,e0L hnr _ _ _ _⟩,fun e he=>by(have hm:=mem_listed he;clear he hK;simp[go_sem,storedEv,hc0,hc1,hc2,hc3,hz0]at hm;rcases hm with rfl|rfl|rfl|rfl<;>exact U0 _ _ (hnr _))⟩,?_⟩;clear hK K hc0 hc1 hc2 hc3 hz0;simp only[setCell_at'];refine J0.at ?_ dd)
 refine S0<|ogX ?_
 have hT3:=hR2.put (.slice aa al ac) (.slice oa ol oz) (.slice xa xl xc) (.bool st)
 change J0 _ _ _ _ _ (trW W rb (.slice aa al ac) (.slice oa ol oz) (.slice xa xl xc) (.bool st))
 generalize (trW W rb (.slice aa al ac) (.slice oa ol oz) (.slice xa xl xc) (.bool st))=V at hT3 h ⊢
 have hc0:=hT3.c0
 have hc1:=hT3.c1
 have hc2:=hT3.c2
 have hc3:=hT3.c3
 have hz0:=hT3.z
 refine p4 (fn:=Try.f15) (v:=.agg #[.slice aa al ac,.slice oa ol oz,.slice xa xl xc,.bool st]) rfl rfl Try.func15 (fun d=>by simp[results,Try.f15,go_sem,hc0,hc1,hc2,hc3,hz0]) (fun d e he=>by simp[results,Try.f15,go_sem,hc0,hc1,hc2,hc3,hz0]at he;rcases he with rfl|rfl|rfl|rfl<;>exact I1 _ _) ?_
 exact h
end
section
variable{An:G3}{w w':World}
theorem y6.later2{N N':Nat→Prop}{n tb o tl:Nat}{ta:Option Addr}{oa:Nat→Option Addr}{ol oc:Nat→Nat}{ops:Nat→List P3}{S:List Int}{sa:Option Addr}(h:y6 w N n tb o tl ta oa ol oc ops S sa)(hs:w.heap.size≤w'.heap.size)(hold:∀r,r<w.heap.size→w'.heap[r]? =w.heap[r]?)(hN:∀r,N' r→w.heap.size≤r):y6 w' N' n tb o tl ta oa ol oc ops S sa:=by
 have hc:∀{a:Addr} {v:Value},w.cell? a=some v→w'.cell? a=some v∧w'.frozen? a=w.frozen? a:=fun{a v} h=>by
  obtain⟨c,e,z,ho⟩:=M3 h
  have e1:=hold _ (Q3 ho)
  exact⟨by rw[← h];unfold World.cell?;simp only[e1],by unfold World.frozen?;simp only[e1]⟩
 refine⟨h.hn,h.hta,fun hp=>by have:=h.htb hp;omega,fun j hj=>?_,h.hlen,fun j hj k x hx=>?_,h.hsl,fun hp=>?_⟩
 ·obtain⟨h1,h2,h3⟩:=h.hth j hj
  exact⟨(hc h1).1,(hc h1).2.trans h2,h3⟩
 ·obtain⟨opb,oo,h1,h2,f0,f1,f2,f3,g0,g1,g2,g3⟩:=h.hop j hj k x hx
  obtain⟨c,e,z,ho⟩:=M3 f0
  have hlt:=(Q3 ho)
  exact⟨opb,oo,h1,fun hn=>by have:=hN _ hn;simp only at hlt;omega,(hc f0).1,(hc f1).1,(hc f2).1,(hc f3).1,(hc f0).2.trans g0,(hc f1).2.trans g1,(hc f2).2.trans g2,(hc f3).2.trans g3⟩
 ·obtain⟨sb,so,c,e,z,h1,h2,h3,h4⟩:=h.hS hp
  have hlt:=(Q3 h3)
  exact⟨sb,so,c,e,z,h1,fun hn=>by have:=hN _ hn;omega,(hold _ hlt).trans h3,h4⟩
theorem T5{base n size:Nat}{e:TypeId}{v:Value}{xs:List Value}(h:w.ownsRow base e size v n xs)(hs:∀b c,w.heap[b]? =some (.cells c e (0,0))→base≤b→w'.heap[b]? =w.heap[b]?):w'.ownsRow base e size v n xs:=by
 refine⟨h.1,?_⟩
 rcases h.2 with h2|⟨b,cap,cur,rfl,h3,h4,h5⟩
 ·exact .inl h2
 ·exact .inr ⟨b,cap,cur,rfl,h3,(hs b cur h4 h3).trans h4,h5⟩
def r0S(w:World)(r:Nat):Prop:=∀c e z,w.heap[r]?≠some (.cells c e z)
structure j0P(w:World)(n:Nat)(ans:Nat→List g8)(state:List Int)(order:List Nat)(aa:Nat)(rows:Nat→Value)(av:Nat→List SA)(ov sv:Value)(w':World):Prop where
 size:w.heap.size≤w'.heap.size
 old:∀(r:Nat) (c:Array Value) (e:TypeId) (z:Nat×Nat),w.heap[r]? =some (.cells c e z)→w'.heap[r]? =some (.cells c e z)
 arr:∃c,w'.heap[aa]? =some (.cells c 42 (0,0))∧c.size=n∧∀i,i<n→c[i]? =some (rows i)
 row:∀i,i<n→(av i).map SA.an=ans i∧(av i).length≤65536∧w'.ownsRow 0 44 3 (rows i) (av i).length (((av i).map fun a=>a.v.cells).flatten)∧∀a∈av i,SAU a w'
 nwa:r0S w aa
 nwr:∀i,i<n→∀r,(rows i).ownBlock=some r→r0S w r
 nwl:∀i,i<n→∀a∈av i,∀r,a.row.ownBlock=some r→r0S w r
 dj:∀i j,i<n→j<n→i≠j→∀r,(rows i).ownBlock=some r→(rows j).ownBlock≠some r
 ord:w'.ownsRow w.heap.size 3 1 ov order.length (order.map fun i:Nat=>Value.int .i64 i)
 st:w'.ownsRow w.heap.size 2 1 sv state.length (state.map fun v=>vI v)
def n03(lb:Nat):Abs (I3 lb) SPl:=⟨SS.k,u8.c,SA.an⟩
theorem t0L(lb:Nat):(n03 lb).Ok where
 beg:=fun s i o y h=>by
  obtain⟨y1,y2⟩:=y
  have h2:=h.2.2
  cases y2<;>exact h2
 stp:=fun s c y h=>by
  obtain⟨y1,y2⟩:=y
  have h2:=h.2.2
  cases y2<;>exact h2
def ss0(vs:List Int):GS SPl:=⟨I4 vs,fun _=>⟨0,none,[]⟩⟩
theorem f0X{va:Option Addr}{vc:Nat}{vs:List Int}(hv:o5 w va vs)(hvl:vs.length<9223372036854775808)
 {n tb o tl tc sc M:Nat} {mo:Int} {ta sa:Option Addr} {oa:Nat→Option Addr} {ol oc:Nat→Nat} {ops:Nat→List P3} {S:List Int} (hI:y6 w (fun _=>False) n tb o tl ta oa ol oc ops S sa) (hM:min (max mo 0) 1048576=(M:Int)) {c:Frame} {cs:List Frame} {Stop:Goroutine→World→Prop}
 (hP:∀(s:GS SPl) order,g7 n M (s,order)→(∃k,∀f,k≤f→a0K ops n M S f (ss0 vs)=(s,order))→
   ∀aa rows av oa' oc' xa xc w',j0P w n (fun i=>(s.th i).ans) (R1.state s.q) order aa rows av (.slice oa' order.length oc') (.slice xa (R1.state s.q).length xc) w'→
    Q4 An Try.prog Stop (G (c.finish (.agg #[vL aa 0 n n,.slice oa' order.length oc',.slice xa (R1.state s.q).length xc,.bool (decide (0<L5 s.live n))])) cs) w'):
 Q4 An Try.prog Stop (G (Frame.enter Try.prog 15 #[.slice va vs.length vc,.slice ta tl tc,.slice sa S.length sc,vI mo] .normal) (c::cs)) w:=by
 have hF:∀a:Addr,¬held F0 a:=o7
 have hrow0:∀r,r<w.heap.size→(w.alloc (.cells #[.slice none 0 0,.slice none 0 0,.slice none 0 0,.bool false] 31)).heap[r]? =w.heap[r]?:=fun r hr=>D0 _ _ hr
 have hs0:(w.alloc (.cells #[.slice none 0 0,.slice none 0 0,.slice none 0 0,.bool false] 31)).heap.size=w.heap.size+1:=by simp
 have htr:S7 (w.alloc (.cells #[.slice none 0 0,.slice none 0 0,.slice none 0 0,.bool false] 31)) w.heap.size (.slice none 0 0) (.slice none 0 0) (.slice none 0 0) (.bool false):=⟨heap_alloc_new _ _⟩
 refine w7 (F:=F0) (Stop:=fun a u=>∃A,a=G (Frame.enter Try.prog 47 #[.slice ta tl tc,.func (.func 48) #[vP (w.heap.size+2) 0] #[],.slice sa S.length sc,vI mo] .normal) ((bA 15 A [.inRegion (oC g0y) [5,6,7],.code j0B])::c::cs)∧
  G0 23 A [(8,vP w.heap.size 0),(9,vP (w.heap.size+2) 0)]∧SU (w.heap.size+2) ⟨I4 vs,w.heap.size+1,0⟩ u∧w.heap.size+3≤u.heap.size∧(∀r,r<w.heap.size+1→u.heap[r]? =(w.alloc (.cells #[.slice none 0 0,.slice none 0 0,.slice none 0 0,.bool false] 31)).heap[r]?))
  (D0c J1 (Nat.zero_le _) fun A hA=>c0C (hv.same hrow0) hvl fun w1 k1 k2 k3=>by
    rw[hs0]at k1 k2 k3 ⊢
    exact D0d hA fun A2 hA2=>.stop fun d=>⟨A2,rfl,hA2,k1.same fun _ _=>rfl,k2,k3⟩) fun a W hS=>?_
 obtain⟨A,rfl,hA,hQ,hWs,hWo⟩:=hS
 have hold1:∀r,r<w.heap.size→W.heap[r]? =w.heap[r]?:=fun r hr=>(hWo r (by omega)).trans (hrow0 r hr)
 have hrb1:W.heap[w.heap.size]? =some (.cells #[.slice none 0 0,.slice none 0 0,.slice none 0 0,.bool false] 31 (0,0)):=(hWo _ (by omega)).trans htr.o
 have hNr:∀r,(I3 (w.heap.size+2)).SR ⟨I4 vs,w.heap.size+1,0⟩ r→w.heap.size+1≤r:=fun r hr=>by
  rcases hr with rfl|rfl<;>simp
 have hI1:y6 W ((I3 (w.heap.size+2)).SR ⟨I4 vs,w.heap.size+1,0⟩) n tb o tl ta oa ol oc ops S sa:=hI.later2 (by omega) hold1 fun r hr=>by have:=hNr r hr;omega
 refine o0w (L:=I3 (w.heap.size+2)) (t00 _) (s0:=⟨I4 vs,w.heap.size+1,0⟩) hQ hI1 hM ?_
 intro g p p' t u oa' oc' hg hpn hpo hOk hrel hpn' hpo' hpa hU hord hnR hsz hkeep hpI
 obtain⟨hd,hover⟩:=n0N (ab:=n03 _) (t0L _) hOk (fun j hj=>⟨rfl,rfl⟩) hrel
 rw[hpo]at hover
 have hK:=hP _ _ hd hover
 have hQU:SU (w.heap.size+2) t.1.s u:=hU.su
 have hrb2:u.heap[w.heap.size]? =some (.cells #[.slice none 0 0,.slice none 0 0,.slice none 0 0,.bool false] 31 (0,0)):=hkeep _ _ _ _ hrb1 fun h=>by have:=hNr _ h;omega
 have hcnt:L5 ((U2 (I3 (w.heap.size+2)) p g).liv t.1) n=L5 ((n03 _).x t.1).live n:=b0e fun j _=>e0S t.1 j
 rw[hcnt]
 have hnew:∀r,OR (I3 (w.heap.size+2)) p' t.1 r→r0S w r:=fun r hr c0 e0 z0 h=>by
  have hlt:=(Q3 h)
  exact hpI r c0 e0 z0 ((hold1 r hlt).trans h) (fun h2=>by have:=hNr r h2;omega) (hU.inone r hr)
 obtain⟨ca,hca,hcs,hci⟩:=hU.arr
 have hlt:=(Q3 hca)
 have hlr:=(Q3 hrb2)
 obtain⟨q,hq⟩:∃q:R1,q=((n03 (w.heap.size+2)).x t.1).q:=⟨_,rfl⟩
 obtain⟨sb,hsb⟩:∃b:Bool,b=decide (0<L5 ((n03 (w.heap.size+2)).x t.1).live n):=⟨_,rfl⟩
 rw[← hsb]at hK ⊢
 rw[← hq]at hK
 have hqs:t.1.s.k=q:=hq.symm
 have htb:=heap_alloc_new u (.cells #[vL p.aa 0 n n,.slice oa' t.2.length oc',.slice none 0 0,.bool sb] 31)
 have htl:∀r,r<u.heap.size→(u.alloc (.cells #[vL p.aa 0 n n,.slice oa' t.2.length oc',.slice none 0 0,.bool sb] 31)).heap[r]? =u.heap[r]?:=fun r hr=>D0 _ _ hr
 have hts:(u.alloc (.cells #[vL p.aa 0 n n,.slice oa' t.2.length oc',.slice none 0 0,.bool sb] 31)).heap.size=u.heap.size+1:=by simp
 refine w7 (F:=F0) (Stop:=fun a u2=>∃xa xc,a=G (c.finish (.agg #[vL p.aa 0 n n,.slice oa' t.2.length oc',.slice xa (R1.state q).length xc,.bool sb])) cs∧
  j0P w n (fun i=>(((n03 (w.heap.size+2)).x t.1).th i).ans) (R1.state q) t.2 p.aa (fun i=>(t.1.th i).row) (fun i=>(t.1.th i).ans) (.slice oa' t.2.length oc') (.slice xa (R1.state q).length xc) u2)
  (D0e J1 (Nat.zero_le _) hA fun A2 hA2=>?_) fun a u2 ⟨xa,xc,ha,hu2⟩=>?_
 ·generalize u.alloc (.cells #[vL p.aa 0 n n,.slice oa' t.2.length oc',.slice none 0 0,.bool sb] 31)=U at htb htl hts ⊢
  refine k0y (hQU.same fun r hr=>htl r (hQU.low hr)) fun w2 l' hV=>?_
  rw[hqs]at hV
  have k1:=hV.row
  obtain⟨xa,xc,rfl⟩:∃xa xc,l'= .slice xa (R1.state q).length xc:=by
   rcases k1.2 with⟨rfl,h⟩|⟨b,cap,cur,rfl,_⟩
   ·simp[R1.state]at h
   ·exact⟨_,_,rfl⟩
  have hR:S7 w2 w.heap.size (.slice none 0 0) (.slice none 0 0) (.slice none 0 0) (.bool false):=⟨(hV.old _ (by omega)).trans ((htl _ hlr).trans hrb2)⟩
  have hT:S7 w2 u.heap.size (vL p.aa 0 n n) (.slice oa' t.2.length oc') (.slice none 0 0) (.bool sb):=⟨(hV.old _ (by omega)).trans htb⟩
  refine D0f (show w.heap.size≠u.heap.size by omega) hR hT (fun k=>hF _) (fun k=>hF _) hA2 (.stop fun d=>⟨xa,xc,rfl,?_⟩)
  have hV2:=hV.size
  have hlw:∀r,r<u.heap.size→w2.heap[r]? =u.heap[r]?:=fun r hr=>(hV.old _ (by omega)).trans (htl _ hr)
  have hne2:∀r,r≠w.heap.size→r≠u.heap.size→((trW (w2.setCell ⟨u.heap.size,2,none⟩ (.slice xa (R1.state q).length xc)) w.heap.size (vL p.aa 0 n n) (.slice oa' t.2.length oc') (.slice xa (R1.state q).length xc) (.bool sb)).at d).heap[r]? =w2.heap[r]?:=fun r hr hr2=>by
   show(trW _ _ _ _ _ _).heap[r]? =_
   unfold trW
   rw[I0 _ _ _ hr,I0 _ _ _ hr,I0 _ _ _ hr,I0 _ _ _ hr,I0 _ _ _ hr2]
  have hsz3:((trW (w2.setCell ⟨u.heap.size,2,none⟩ (.slice xa (R1.state q).length xc)) w.heap.size (vL p.aa 0 n n) (.slice oa' t.2.length oc') (.slice xa (R1.state q).length xc) (.bool sb)).at d).heap.size=w2.heap.size:=by
   show(trW _ _ _ _ _ _).heap.size=_
   unfold trW;simp
  generalize (trW (w2.setCell ⟨u.heap.size,2,none⟩ (.slice xa (R1.state q).length xc)) w.heap.size (vL p.aa 0 n n) (.slice oa' t.2.length oc') (.slice xa (R1.state q).length xc) (.bool sb)).at d=V at hne2 hsz3 ⊢
  have hty:∀(b:Nat) (c:Array Value) (e:TypeId) (z:Nat×Nat),u.heap[b]? =some (.cells c e z)→e≠31→V.heap[b]? =u.heap[b]?:=fun b cc e z hb he=>by
   have hbl:=(Q3 hb)
   rw[hne2 b (fun h=>by rw[h,hrb2]at hb;cases hb;exact he rfl) (by omega),hlw b hbl]
  have hth:∀i,i<n→f0C (I3 (w.heap.size+2)) p' (g.st i) i (t.1.th i) u:=fun i hi=>hU.thr i (by rw[hpn'];exact hi)
  refine⟨by omega,fun r cc e z hr=>?_,⟨ca,?_,?_,fun i hi=>?_⟩,fun i hi=>⟨rfl,?_,?_,fun a ha=>?_⟩,?_,fun i hi r hr=>?_,fun i hi a ha r hr=>?_,fun i j hi hj hne r h1 h2=>?_,?_,?_⟩
  ·have hlt:=(Q3 hr)
   rw[hne2 r (by omega) (by omega),hlw r (by omega)]
   exact hkeep _ _ _ _ ((hold1 r hlt).trans hr) fun h=>by have:=hNr _ h;omega
  ·rw[hty _ _ _ _ (hpa ▸ hca) (by decide)]
   exact hpa ▸ hca
  ·rw[hcs,hpn']
  ·exact hci i (by rw[hpn'];exact hi)
  ·have ht:=hth i hi
   have h1:=ht.al
   have h2:=ht.kl
   rw[hpo',hI.hlen i hi]at h2
   exact Nat.le_trans (Nat.le_of_eq h1) (Nat.le_trans h2 (by omega))
  ·have hr:u.ownsRow 0 44 3 (t.1.th i).row (t.1.th i).ans.length (((t.1.th i).ans.map fun a=>a.v.cells).flatten):=(hth i hi).row
   exact T5 hr fun b cc hb _=>hty b cc _ _ hb (by decide)
  ·have h1:SAU a u:=(hth i hi).au a ha
   exact T5 h1 fun b cc hb _=>hty b cc _ _ hb (by decide)
  ·exact hnew _ (.inr (.inl hpa.symm))
  ·exact hnew _ (.inr (.inr ⟨i,by rw[hpn'];exact hi,.inl hr⟩))
  ·exact hnew _ (.inr (.inr ⟨i,by rw[hpn'];exact hi,.inr (.inl ⟨a,ha,hr⟩)⟩))
  ·exact hU.tt i j (by rw[hpn'];exact hi) (by rw[hpn'];exact hj) hne r (.inl h1) (.inl h2)
  ·exact j4 (by omega) (T5 hord fun b cc hb _=>hty b cc _ _ hb (by decide))
  ·have e2:V.ownsRow 0 2 1 (.slice xa (R1.state q).length xc) (R1.state q).length ((R1.state q).map fun v=>vI v):=by
    refine K0 k1 fun b hb _=>?_
    have:=hV.new b hb
    exact hne2 b (by omega) (by omega)
   refine⟨e2.1,?_⟩
   rcases e2.2 with h|⟨b,cap,cur,h1,h2,h3⟩
   ·exact .inl h
   ·refine .inr ⟨b,cap,cur,h1,?_,h3⟩
    have:=hV.new b (by rw[h1];rfl)
    omega
 ·subst ha
  exact hK _ _ _ _ _ _ _ _ hu2
end
section
variable{w w':World}
theorem f0F{m:Pl}{ops:Nat→List P3}{n M:Nat}:∀(f:Nat) (s:GS m×List Nat),g7 n M (Z3 ops n M f s)→∀e,f≤e→Z3 ops n M e s=Z3 ops n M f s:=by
 intro f
 induction f with
 | zero=>
   intro s h e _
   exact y7 h e
 | succ f ih=>
   intro s h e he
   by_cases hd:g7 n M s
   ·rw[y7 hd,y7 hd]
   ·obtain⟨e,rfl⟩:∃k,e=k+1:=⟨e - 1,by omega⟩
    simp only[Z3,if_neg hd]at h ⊢
    exact ih _ h e (by omega)
structure a0F(e:TypeId)(w wr:World)(ov:Value)(xs:List Int):Prop where
 row:wr.ownsRow 0 e 1 ov xs.length (xs.map fun v=>vI v)
 size:w.heap.size≤wr.heap.size
 old:∀r,r<w.heap.size→wr.heap[r]? =w.heap[r]?
 new:∀g,ov.ownBlock=some g→w.heap.size≤g
theorem a0F.nil(e:TypeId)(w:World):a0F e w w (.slice none 0 0) []:=⟨⟨rfl,.inl ⟨rfl,rfl⟩⟩,Nat.le_refl _,fun _ _=>rfl,fun g h=>by cases h⟩
theorem a0F.more{e:TypeId}{w u w1:World}{ov:Value}{xs ys:List Int}(h:a0F e w u ov xs){v':Value}(hown:w1.ownsRow 0 e 1 v' (xs.length+ys.length) ((xs.map fun v=>vI v)++ys.map fun v=>vI v))(hg:u.grownBy w1 ov.ownBlock)(hf:v'.ownBlock=ov.ownBlock∨∃g,v'.ownBlock=some g∧u.heap.size≤g):a0F e w w1 v' (xs++ys):=by
 refine⟨by simpa using hown,by have:=h.size;have:=hg.size;omega,fun r hr=>?_,fun g hgv=>?_⟩
 ·have hsz:=h.size
  refine(hg.block r (by omega) fun e=>?_).trans (h.old r hr)
  have:=h.new r e.symm
  omega
 ·rcases hf with e|⟨g',e,h2⟩
  ·exact h.new g (e ▸ hgv)
  ·rw[e]at hgv
   cases hgv
   have:=h.size
   omega
theorem a0F.alloc{e:TypeId}{w u:World}{ov:Value}{xs:List Int}(h:a0F e w u ov xs)(o:Obj):a0F e w (u.alloc o) ov xs:=
 ⟨h.row.alloc o,by have:=h.size;simp;omega,fun r hr=>(D0 _ _ (Nat.lt_of_lt_of_le hr h.size)).trans (h.old r hr),h.new⟩
end
section
variable{w w':World}
theorem h0S{aa ab:Option Addr}{ca cb:Nat}{xs:List Int}(hl:xs.length<100000000)(hA:B5 w aa (xs.map fun v=>vI v))(hB:B5 w ab (xs.map fun v=>vI v)):
 Y6 Try.prog Try.f22 #[.slice aa xs.length ca,.slice ab xs.length cb] w fun x w'=>x= .bool true∧w'.heap=w.heap:=by
 have E:Aside (B5 w aa (xs.map fun v=>vI v)∧B5 w ab (xs.map fun v=>vI v)):=⟨hA,hB⟩
 clear hA hB
 refine I8 rfl ?_
 simp only[Try.ntmps22,List.size_toArray,List.length_cons,List.length_nil,Nat.reduceAdd,Nat.reduceSub,Array.replicate_succ,Array.replicate_zero,List.push_toArray,List.append_toArray,List.nil_append,List.cons_append]
 go_wp2
 go_loopg [5] xs.length (fun g i wr=>∃k:Nat,k≤xs.length∧i=vI k∧g=xs.length - k∧wr.heap=w.heap)
 case atStart=>exact⟨0,Nat.zero_le _,rfl,rfl,rfl⟩
 case round=>
  obtain⟨k,hk,rfl,rfl,hw⟩:=hrel
  rcases Nat.lt_or_ge k xs.length with hlt|hge
  ·obtain⟨b1,o1,rfl,h1⟩:=(E.out.1.heap hw).c k (vI xs[k]) (by simp[hlt])
   obtain⟨b2,o2,rfl,h2⟩:=(E.out.2.heap hw).c k (vI xs[k]) (by simp[hlt])
   have hwr:IntKind.i64.wrap ((k:Int)+1)=(k:Int)+1:=IntWalk.i64_in _ (by omega)
   go_wp2
   go_quiet (fail)
   go_wp2
   go_roundg (xs.length - (k+1))
   case measure=>omega
   case rel=>exact⟨k+1,hlt,rfl,rfl,hw⟩
  ·have:k=xs.length:=by omega
   subst this
   go_wp2
   go_ret
   exact⟨_,rfl,rfl,hw⟩
theorem y05{aa ab:Option Addr}{ca cb:Nat}{xs:List Int}(hl:xs.length<100000000)(hA:B5 w aa (xs.map fun v=>vI v))(hB:B5 w ab (xs.map fun v=>vI v)):
 Calls Try.prog 22 #[.slice aa xs.length ca,.slice ab xs.length cb] w fun x w'=>x= .returned (.bool true)∧w'.heap=w.heap:=
 ((h0S hl hA hB).calls Try.func22 rfl).mono (by rintro e u ⟨v,rfl,rfl,h⟩;exact⟨rfl,h⟩)
theorem e0B:Z5 Try.prog (fun f=>[22].contains f) true:=a0b (x:=[]) (fun f h=>by cases h) (by kernel_rfl)
theorem callable22:O1 22:=G2 Try.func22 rfl rfl
theorem k0w{aa ab:Option Addr}{ca cb:Nat}{xs:List Int}(hl:xs.length<100000000)(hA:B5 w aa (xs.map fun v=>vI v))(hB:B5 w ab (xs.map fun v=>vI v)){c:Frame}{cs:List Frame}{main:Bool}{Stop:Goroutine→World→Prop}
 (K:∀w1,w1.heap=w.heap→J0 Try.prog main F0 Stop (G (c.finish (.bool true)) cs) w1):
 J0 Try.prog main F0 Stop (G (Frame.enter Try.prog 22 #[.slice aa xs.length ca,.slice ab xs.length cb] .normal) (c::cs)) w:=by
 refine N7 e0B F6 Try.func22 rfl (by kernel_rfl) (R:=fun x w'=>x= .bool true∧w'.heap=w.heap) (fun τ e=>h0S (w:=retape w τ e) hl (hA.heap rfl) (hB.heap rfl)) fun v w' τ e hR hg=>?_
 obtain⟨rfl,h⟩:=hR
 exact K w' h
end
noncomputable section
variable {cs:List Frame}{main:Bool}{Stop:Goroutine→World→Prop}
variable{F:Fz}{w:World}
theorem i0i(X:World)(x y z u x' y' z' u':Value):((((X.alloc (.cells #[x,y,z,u] 31)).setCell ⟨X.heap.size,0,none⟩ x').setCell ⟨X.heap.size,1,none⟩ y').setCell ⟨X.heap.size,2,none⟩ z').setCell ⟨X.heap.size,3,none⟩ u'=X.alloc (.cells #[x',y',z',u'] 31):=by go_simp
theorem C0N(k a b c:Int):Try.prog.built 47 [(0,vI k),(1,vI a),(2,vI b),(3,vI c)]=some #[vI k,vI a,vI b,vI c]:=by kernel_rfl
theorem C0M(k a:Int):Try.prog.built 47 [(0,vI k),(1,vI a)]=some #[vI k,vI a,vI 0,vI 0]:=by kernel_rfl
theorem C0L(k:Int):Try.prog.built 47 [(0,vI k)]=some #[vI k,vI 0,vI 0,vI 0]:=by kernel_rfl
@[go_sem] theorem C0G(k a b c:Int)(w:World):(Instr.build 47 #[(0,vI k),(1,vI a),(2,vI b),(3,vI c)]).run Try.prog w= .ok (.agg #[vI k,vI a,vI b,vI c]) w:=run_build w _ _ _ (C0N k a b c)
@[go_sem] theorem D0R(k a b c:Int)(w:World)(es:Array Event):(Instr.build 47 #[(0,vI k),(1,vI a),(2,vI b),(3,vI c)]).events Try.prog w es=es:=l6 w es _ _ _ _ Try.underlying47 (C0N k a b c)
@[go_sem] theorem C0F(k a:Int)(w:World):(Instr.build 47 #[(0,vI k),(1,vI a)]).run Try.prog w= .ok (.agg #[vI k,vI a,vI 0,vI 0]) w:=run_build w _ _ _ (C0M k a)
@[go_sem] theorem D0Q(k a:Int)(w:World)(es:Array Event):(Instr.build 47 #[(0,vI k),(1,vI a)]).events Try.prog w es=es:=l6 w es _ _ _ _ Try.underlying47 (C0M k a)
@[go_sem] theorem C0E(k:Int)(w:World):(Instr.build 47 #[(0,vI k)]).run Try.prog w= .ok (.agg #[vI k,vI 0,vI 0,vI 0]) w:=run_build w _ _ _ (C0L k)
@[go_sem] theorem D0P(k:Int)(w:World)(es:Array Event):(Instr.build 47 #[(0,vI k)]).events Try.prog w es=es:=l6 w es _ _ _ _ Try.underlying47 (C0L k)
def N3:Code:=Try.f13.body.getD .skip
def C03:=pC [] N3
def v0B:=pC [zt] N3
def v0D:=pC [zf] N3
def v0C:=pC [zf,zt] N3
def v0E:=pC [zf] v0D
def g0t:=pC [zf,zf,zt] N3
def j0s:=pC [zf] v0E
def g0u:=pC [zf,zf,zf,zt] N3
def g0v:=pC [zf] j0s
def q0S:=pC [zt] g0v
def sfxr4:=pC [zf,zf,zf,zf,zt,zt] N3
def f0i:=pC [zf] q0S
def F0n:=pC [zt] f0i
def j0t:=pC [zf] g0v
def j0q:=pC [zf,zf,zf,zf,zf,zt] N3
def j0u:=pC [zf] j0t
def v0F:=pC [zt] j0u
def d0K:=pC [zf,zf,zf,zf,zf,zf,zt,zt] N3
def b0p:=pC [zf] v0F
def F0b:=pC [zt] b0p
def c06:=pC [zf] j0u
def j0r:=pC [zf,zf,zf,zf,zf,zf,zf,zt] N3
def k0S:=pC [zf] c06
def a00:=pC [zf,zf,zf,zf,zf,zf,zf,zf,zt] N3
theorem n0h(args:Array Value):Frame.enter Try.prog 13 args .normal=(Go.Conc.base 13).at {tmps:=args++Array.replicate (124 - args.size) undef,defers:=[]} [.code C03]:=enter_at args Try.func13 rfl
theorem j01:O1 13:=G2 Try.func13 rfl rfl
def U9(s:Nat→Value):Array Value:= #[s 0,s 1,s 2,s 3,s 4,s 5,s 6,s 7,s 8,s 9,s 10,s 11,s 12,s 13,s 14,s 15,s 16,s 17,s 18,s 19,s 20,s 21,s 22,s 23,s 24,s 25,s 26,s 27,s 28,s 29,s 30,s 31,s 32,s 33,s 34,s 35,s 36,s 37,s 38,s 39,s 40,s 41,s 42,s 43,s 44,s 45,s 46,s 47,s 48,s 49,s 50,s 51,s 52,s 53,s 54,s 55,s 56,s 57,s 58,s 59,s 60,s 61,s 62,s 63,s 64,s 65,s 66,s 67,s 68,s 69,s 70,s 71,s 72,s 73,s 74,s 75,s 76,s 77,s 78,s 79,s 80,s 81,s 82,s 83,s 84,s 85,s 86,s 87,s 88,s 89,s 90,s 91,s 92,s 93,s 94,s 95,s 96,s 97,s 98,s 99,s 100,s 101,s 102,s 103,s 104,s 105,s 106,s 107,s 108,s 109,s 110,s 111,s 112,s 113,s 114,s 115,s 116,s 117,s 118,s 119,s 120,s 121,s 122,s 123]
theorem t0Y{A:Array Value}(h:A.size=124):∃s,A=U9 s:=by
 obtain⟨s,hs,_⟩:=Y4 A h
 exact⟨s,hs⟩
def g02(w:World):World:=(((((w.alloc (.cells #[vI 1,vI 1,vI 10,vI 1] 47)).alloc (.cells #[vI 1,vI 2] 2)).alloc (.cells #[vI 3,vI 1,vI 0,vI 0] 47)).alloc (.cells #[vL w.heap.size 0 1 1,vL (w.heap.size+2) 0 1 1] 34)).alloc (.cells #[vI 1,vI 1,vI 0,vI 0,vI 0,vI 0,vI 0,vI 1,vI 1] 3))
theorem E0z{n:Nat}(hU:P2 F n)(hn:n≤w.heap.size)
 (h:∀A,G0 124 A [(1,vL w.heap.size 0 1 1)]→J0 Try.prog main F Stop (G (Frame.enter Try.prog 15 #[vL (w.heap.size+1) 0 2 2,vL (w.heap.size+3) 0 2 2,vL (w.heap.size+4) 0 9 9,vI 99] .normal) ((bA 13 A [.inRegion (oC g0t) [6,7,8],.code j0s])::cs)) (g02 w)):
 J0 Try.prog main F Stop (G (Frame.enter Try.prog 13 #[] .normal) cs) w:=by
 rw[n0h]
 walk_nrm
 refine ogW v0B v0D ?_
 simp only[v0B,N3,Try.f13,zz,Nat.reduceAdd]
 refine oT ?_
 refine S0<|ogW v0C v0E ?_
 simp only[v0C,N3,Try.f13,zz,Nat.reduceAdd]
 refine oT ?_
 refine oA hU ?_
 refine oT ?_
 refine S0<|ogW g0t j0s ?_
 simp only[g0t,N3,Try.f13,zz,Nat.reduceAdd]
 refine oA hU ?_
 iterate 2 refine oT ?_
 iterate 3 refine oA hU ?_
 refine oc callable15 #[vL (w.heap.size+1) 0 2 2,vL (w.heap.size+3) 0 2 2,vL (w.heap.size+4) 0 9 9,vI 99] ?_
 refine h _ ?_
 exact⟨rfl,rfl,trivial⟩
def i0L(w:World)(b0:Nat)(aa oa xa:Option Addr)(al ac ol oz xl xc:Nat)(st:Bool):World:=(((((w.alloc (.cells #[.slice aa al ac,.slice oa ol oz,.slice xa xl xc,.bool st] 31)).alloc (.cells #[vI 1,vI 2] 2)).alloc (.cells #[vI 4,vI 0,vI 0,vI 0] 47)).alloc (.cells #[vL b0 0 1 1,vL (w.heap.size+2) 0 1 1] 34)).alloc (.cells #[vI 1,vI 0,vI 0,vI 0,vI 0,vI 0,vI 1] 3))
theorem E0A{n:Nat}(hU:P2 F n)(hn:n≤w.heap.size){aa oa xa:Option Addr}{al ac ol oz xl xc:Nat}{st:Bool}{b0:Nat}{A:Array Value}(hA:G0 124 A [(1,vL b0 0 1 1)])
 (h:∀A,G0 124 A [(1,vL b0 0 1 1),(2,vP w.heap.size 0)]→J0 Try.prog main F Stop (G (Frame.enter Try.prog 15 #[vL (w.heap.size+1) 0 2 2,vL (w.heap.size+3) 0 2 2,vL (w.heap.size+4) 0 7 7,vI 99] .normal) ((bA 13 A [.inRegion (oC g0u) [6,7,8],.code g0v])::cs)) (i0L w b0 aa oa xa al ac ol oz xl xc st)):
 J0 Try.prog main F Stop (G ((bA 13 A [.inRegion (oC g0t) [6,7,8],.code j0s]).finish (.agg #[.slice aa al ac,.slice oa ol oz,.slice xa xl xc,.bool st])) cs) w:=by
 obtain⟨s,rfl,h1,_⟩:=Y3 U9 hA
 simp only[U9,h1]
 clear h1
 rw[Frame.finish_at]
 simp only[g0t,N3,Try.f13,zz,Nat.reduceAdd]
 walk_nrm
 refine oA hU ?_
 (refine oW fun dd K hK=>?_;go_simp;refine hK _ _ ⟨⟨⟨0,e0L (fun k=>Q2 hU (show n≤w.heap.size by omega)) _ _ _ _⟩,fun e he=>by(have hm:=mem_listed he;clear he hK;simp[go_sem,storedEv]at hm;rcases hm with rfl|rfl|rfl|rfl<;>exact U0 _ _ ((fun k=>Q2 hU (show n≤w.heap.size by omega)) _))⟩,?_⟩;clear hK K;simp only[setCell_at'];refine J0.at ?_ dd)
 have e1:=i0i w (.slice none 0 0) (.slice none 0 0) (.slice none 0 0) (.bool false) (.slice aa al ac) (.slice oa ol oz) (.slice xa xl xc) (.bool st)
 rw[e1]
 clear e1
 refine S0<|ogW g0u g0v ?_
 simp only[g0u,N3,Try.f13,zz,Nat.reduceAdd]
 refine oA hU ?_
 iterate 2 refine oT ?_
 iterate 3 refine oA hU ?_
 refine oc callable15 #[vL (w.heap.size+1) 0 2 2,vL (w.heap.size+3) 0 2 2,vL (w.heap.size+4) 0 7 7,vI 99] ?_
 refine h _ ?_
 exact⟨rfl,rfl,rfl,trivial⟩
theorem E0B{n:Nat}(hU:P2 F n)(hn:n≤w.heap.size){aa oa xa:Option Addr}{al ac ol oz xl xc:Nat}{st:Bool}{b0 t1:Nat}{A:Array Value}(hA:G0 124 A [(1,vL b0 0 1 1),(2,vP t1 0)])
 (h:∀A,G0 124 A [(2,vP t1 0),(3,vP w.heap.size 0)]→J0 Try.prog main F Stop (G (bA 13 A [.code sfxr4,.code f0i,.code j0t]) cs) (w.alloc (.cells #[.slice aa al ac,.slice oa ol oz,.slice xa xl xc,.bool st] 31))):
 J0 Try.prog main F Stop (G ((bA 13 A [.inRegion (oC g0u) [6,7,8],.code g0v]).finish (.agg #[.slice aa al ac,.slice oa ol oz,.slice xa xl xc,.bool st])) cs) w:=by
 obtain⟨s,rfl,h1,h2,_⟩:=Y3 U9 hA
 simp only[U9,h1,h2]
 clear h1 h2
 rw[Frame.finish_at]
 simp only[g0u,N3,Try.f13,zz,Nat.reduceAdd]
 walk_nrm
 refine oA hU ?_
 (refine oW fun dd K hK=>?_;go_simp;refine hK _ _ ⟨⟨⟨0,e0L (fun k=>Q2 hU (show n≤w.heap.size by omega)) _ _ _ _⟩,fun e he=>by(have hm:=mem_listed he;clear he hK;simp[go_sem,storedEv]at hm;rcases hm with rfl|rfl|rfl|rfl<;>exact U0 _ _ ((fun k=>Q2 hU (show n≤w.heap.size by omega)) _))⟩,?_⟩;clear hK K;simp only[setCell_at'];refine J0.at ?_ dd)
 have e1:=i0i w (.slice none 0 0) (.slice none 0 0) (.slice none 0 0) (.bool false) (.slice aa al ac) (.slice oa ol oz) (.slice xa xl xc) (.bool st)
 rw[e1]
 clear e1
 refine S0<|ogV q0S j0t<|ogV sfxr4 f0i ?_
 refine h _ ?_
 exact⟨rfl,rfl,rfl,trivial⟩
theorem E0C{n:Nat}(hU:P2 F n)(hn:n≤w.heap.size){A:Array Value}(hA:G0 124 A [(89,.bool false)])
 (h:∀A,A.size=124→J0 Try.prog main F Stop (G (Frame.enter Try.prog 17 #[vL w.heap.size 0 2 2] .normal) ((bA 13 A [.inRegion (oC j0q) [1,2],.code j0u])::cs)) (w.alloc (.cells #[vI 1,vI 2] 2))):
 J0 Try.prog main F Stop (G (bA 13 A [.code f0i,.code j0t]) cs) w:=by
 obtain⟨s,rfl,h89,_⟩:=Y3 U9 hA
 simp only[U9,h89]
 clear h89
 refine ogGn .skip<|ogK<|ogW j0q j0u ?_
 simp only[j0q,N3,Try.f13,zz,Nat.reduceAdd]
 refine oA hU ?_
 refine oc Y9 #[vL w.heap.size 0 2 2] ?_
 exact h _ rfl
theorem E0D{n:Nat}(hU:P2 F n)(hn:n≤w.heap.size){lb:Nat}{A:Array Value}(hsz:A.size=124)
 (h:∀A,G0 124 A [(4,vP lb 0),(94,.bool false)]→J0 Try.prog main F Stop (G (Frame.enter Try.prog 24 #[vP lb 0,.nilIface,vI 1,vL w.heap.size 0 2 2] .normal) ((bA 13 A [.inRegion (oC d0K) [5,6,7,8,9,10,11,12,13],.code b0p,.code c06])::cs)) (w.alloc (.cells #[vI 5,vI 6] 2))):
 J0 Try.prog main F Stop (G ((bA 13 A [.inRegion (oC j0q) [1,2],.code j0u]).finish (vP lb 0)) cs) w:=by
 obtain⟨s,rfl⟩:=t0Y hsz
 clear hsz
 simp only[U9]
 rw[Frame.finish_at]
 simp only[j0q,N3,Try.f13,zz,Nat.reduceAdd]
 walk_nrm
 refine oT ?_
 refine S0<|ogV v0F c06<|ogW d0K b0p ?_
 simp only[d0K,N3,Try.f13,zz,Nat.reduceAdd]
 iterate 4 refine oT ?_
 refine oA hU ?_
 refine oc b0a #[vP lb 0,.nilIface,vI 1,vL w.heap.size 0 2 2] ?_
 refine h _ ?_
 exact⟨rfl,rfl,rfl,trivial⟩
theorem E0E{n:Nat}(hU:P2 F n)(hn:n≤w.heap.size){lb:Nat}{A:Array Value}(hA:G0 124 A [(4,vP lb 0),(94,.bool false)])
 (h:∀A,G0 124 A [(4,vP lb 0),(100,.bool false)]→J0 Try.prog main F Stop (G (Frame.enter Try.prog 25 #[vP lb 0,.nilIface,vI 1,vL w.heap.size 0 1 1] .normal) ((bA 13 A [.inRegion (oC d0K) [11,12,13],.code b0p,.code c06])::cs)) (w.alloc (.cells #[vI 1] 2))):
 J0 Try.prog main F Stop (G ((bA 13 A [.inRegion (oC d0K) [5,6,7,8,9,10,11,12,13],.code b0p,.code c06]).finish (.bool true)) cs) w:=by
 obtain⟨s,rfl,h4,h94,_⟩:=Y3 U9 hA
 simp only[U9,h4,h94]
 clear h4 h94
 rw[Frame.finish_at]
 simp only[d0K,N3,Try.f13,zz,Nat.reduceAdd]
 walk_nrm
 iterate 4 refine oT ?_
 refine oA hU ?_
 refine oc b0i #[vP lb 0,.nilIface,vI 1,vL w.heap.size 0 1 1] ?_
 refine h _ ?_
 exact⟨rfl,rfl,rfl,trivial⟩
theorem E0F{lb:Nat}{A:Array Value}(hA:G0 124 A [(4,vP lb 0),(100,.bool false)])
 (h:∀A,G0 124 A [(4,vP lb 0)]→J0 Try.prog main F Stop (G (Frame.enter Try.prog 26 #[vP lb 0,.nilIface,vI 1] .normal) ((bA 13 A [.inRegion (oC j0r) [1,2,3,4,5,6],.code k0S])::cs)) w):
 J0 Try.prog main F Stop (G ((bA 13 A [.inRegion (oC d0K) [11,12,13],.code b0p,.code c06]).finish (.bool true)) cs) w:=by
 obtain⟨s,rfl,h4,h100,_⟩:=Y3 U9 hA
 simp only[U9,h4,h100]
 clear h4 h100
 rw[Frame.finish_at]
 simp only[d0K,N3,Try.f13,zz,Nat.reduceAdd]
 walk_nrm
 iterate 2 refine oT ?_
 refine S0<|ogGn .skip<|ogK<|ogW j0r k0S ?_
 simp only[j0r,N3,Try.f13,zz,Nat.reduceAdd]
 refine oT ?_
 refine oc b0T #[vP lb 0,.nilIface,vI 1] ?_
 refine h _ ?_
 exact⟨rfl,rfl,trivial⟩
theorem E0G{n:Nat}(hU:P2 F n)(hn:n≤w.heap.size){lb:Nat}{va:Option Addr}{vl vc:Nat}{A:Array Value}(hA:G0 124 A [(4,vP lb 0)])
 (h:∀A,G0 124 A [(4,vP lb 0),(112,.bool true)]→J0 Try.prog main F Stop (G (Frame.enter Try.prog 22 #[.slice va vl vc,vL w.heap.size 0 2 2] .normal) ((bA 13 A [.inRegion (oC a00) [4,5,6,7,8,9,10,11,12,13],.code .ret])::cs)) (w.alloc (.cells #[vI 6,vI 6] 2))):
 J0 Try.prog main F Stop (G ((bA 13 A [.inRegion (oC j0r) [1,2,3,4,5,6],.code k0S]).finish (.tuple #[.slice va vl vc,.bool true])) cs) w:=by
 obtain⟨s,rfl,h4,_⟩:=Y3 U9 hA
 simp only[U9,h4]
 clear h4
 rw[Frame.finish_at]
 simp only[j0r,N3,Try.f13,zz,Nat.reduceAdd]
 walk_nrm
 iterate 5 refine oT ?_
 refine S0<|ogW a00 .ret ?_
 simp only[a00,N3,Try.f13,zz,Nat.reduceAdd]
 iterate 3 refine oT ?_
 refine oA hU ?_
 refine oc callable22 #[.slice va vl vc,vL w.heap.size 0 2 2] ?_
 refine h _ ?_
 exact⟨rfl,rfl,rfl,trivial⟩
theorem E0H{lb:Nat}{A:Array Value}(hA:G0 124 A [(4,vP lb 0),(112,.bool true)])
 (h:∀A,G0 124 A [(117,.bool true)]→J0 Try.prog main F Stop (G (Frame.enter Try.prog 19 #[vP lb 0] .normal) ((bA 13 A [.inRegion (oC a00) [8,9,10,11,12,13],.code .ret])::cs)) w):
 J0 Try.prog main F Stop (G ((bA 13 A [.inRegion (oC a00) [4,5,6,7,8,9,10,11,12,13],.code .ret]).finish (.bool true)) cs) w:=by
 obtain⟨s,rfl,h4,h112,_⟩:=Y3 U9 hA
 simp only[U9,h4,h112]
 clear h4 h112
 rw[Frame.finish_at]
 simp only[a00,N3,Try.f13,zz,Nat.reduceAdd]
 walk_nrm
 iterate 3 refine oT ?_
 refine oc a0Z #[vP lb 0] ?_
 refine h _ ?_
 exact⟨rfl,rfl,trivial⟩
theorem E0I{A:Array Value}(hA:G0 124 A [(117,.bool true)]){c:Frame}
 (h:J0 Try.prog main F Stop (G (c.finish (.bool true)) cs) w):
 J0 Try.prog main F Stop (G ((bA 13 A [.inRegion (oC a00) [8,9,10,11,12,13],.code .ret]).finish (vI 4)) (c::cs)) w:=by
 obtain⟨s,rfl,h117,_⟩:=Y3 U9 hA
 simp only[U9,h117]
 clear h117
 rw[Frame.finish_at]
 simp only[a00,N3,Try.f13,zz,Nat.reduceAdd]
 walk_nrm
 iterate 5 refine oT ?_
 refine S0<|ogX ?_
 refine Q0 rfl (fun d=>stepG_leave (fn:=Try.f13) (v:=.bool true) rfl rfl Try.func13 (by simp[results,Try.f13]) (by simp[results,Try.f13,go_sem])) ?_
 exact h
end
noncomputable section
variable{F:Fz}{w w':World}{kb st:Nat}
def B0n(ph:Nat):List Item:=match ph with
 | 1=>[.inRegion (oC B0o) [1],.code p0v,.inBlock 1,.inLoop i0P,.inBlock 0]
 | 2=>[.inRegion (oC B0p) [1],.code p0w,.inBlock 1,.inLoop i0P,.inBlock 0]
 | _=>[.inRegion (oC B0q) [1],.code x0z,.inBlock 1,.inLoop i0P,.inBlock 0]
def A06(ph:Nat):List Item:=match ph with
 | 1=>[.inRegion (oC A07) [1],.code p0m,.inBlock 1,.inLoop i0O,.inBlock 0]
 | 2=>[.inRegion (oC A08) [1],.code p0n,.inBlock 1,.inLoop i0O,.inBlock 0]
 | _=>[.inRegion (oC A09) [1],.code B0a,.inBlock 1,.inLoop i0O,.inBlock 0]
def B0j(ph:Nat):List Item:=match ph with
 | 1=>[.inRegion (oC B0k) [5,6,7,8,9,10],.code p0t]
 | 2=>[.inRegion (oC B0l) [1],.code p0u]
 | _=>[.inRegion (oC B0m) [6],.code x0y]
def B0f(ph:Nat):List Item:=match ph with
 | 1=>[.inRegion (oC B0g) [5,6,7,8,9,10],.code p0r]
 | 2=>[.inRegion (oC B0h) [1],.code p0s]
 | _=>[.inRegion (oC B0i) [6],.code x0x]
def B0b(ph:Nat):List Item:=match ph with
 | 1=>[.inRegion (oC B0c) [1],.code p0q]
 | 2=>[.inRegion (oC B0d) [1],.code k0l,.inBlock 1,.inLoop l0G,.inBlock 0,.code p0p]
 | _=>[.inRegion (oC B0e) [1],.code x0w,.inBlock 1,.inLoop l0G,.inBlock 0,.code p0p]
def A03(ph:Nat):List Item:=match ph with
 | _=>[.inRegion (oC A04) [1],.code A05]
def A0Y(ph:Nat):List Item:=match ph with
 | 1=>[.inRegion (oC A0Z) [4,5,6],.code .ret,.inBlock 0,.code g04]
 | 2=>[.inRegion (oC A00) [2,3,4,5,6,7],.code A02,.inBlock 0,.code g04]
 | 3=>[.inRegion (oC A01) [2,3,4,5,6,7],.code x0v,.inBlock 0,.code g04]
 | _=>[.inRegion (oC x0u) [2,3,4],.code .ret,.inBlock 0,.code g04]
structure KC where
 c:KCl
 A:Array Value
 A1:Array Value
 A2:Array Value
 ab:Nat
def KC.tk(c:KC)(ph:Nat):Frame:=(Go.Conc.base 78).at ⟨c.A,[]⟩ (B0n ph)
def KC.gv(c:KC)(ph:Nat):Frame:=(Go.Conc.base 80).at ⟨c.A,[]⟩ (A06 ph)
def KC.pu(c:KC)(ph:Nat):Frame:=(Go.Conc.base 45).at ⟨c.A1,[]⟩ (B0j ph)
def KC.po(c:KC)(ph:Nat):Frame:=(Go.Conc.base 43).at ⟨c.A1,[]⟩ (B0f ph)
def KC.pe(c:KC)(ph:Nat):Frame:=(Go.Conc.base 44).at ⟨c.A1,[]⟩ (B0b ph)
def KC.em(c:KC):Frame:=(Go.Conc.base 46).at ⟨c.A1,[]⟩ (A03 1)
def KC.do(c:KC)(ph:Nat):Frame:=(Go.Conc.base 64).at ⟨c.A2,[]⟩ (A0Y ph)
def KC.fr(c:KC):List Frame:=match c.c.pc with
 | 10=>[c.tk 1,c.pu 1,c.do 1]
 | 11=>[c.tk 2,c.pu 1,c.do 1]
 | 12=>[c.tk 3,c.pu 1,c.do 1]
 | 13=>[c.pu 2,c.do 1]
 | 14=>[c.gv 1,c.pu 3,c.do 1]
 | 15=>[c.gv 2,c.pu 3,c.do 1]
 | 16=>[c.gv 3,c.pu 3,c.do 1]
 | 20=>[c.tk 1,c.po 1,c.do 2]
 | 21=>[c.tk 2,c.po 1,c.do 2]
 | 22=>[c.tk 3,c.po 1,c.do 2]
 | 23=>[c.po 2,c.do 2]
 | 24=>[c.gv 1,c.po 3,c.do 2]
 | 25=>[c.gv 2,c.po 3,c.do 2]
 | 26=>[c.gv 3,c.po 3,c.do 2]
 | 30=>[c.pe 1,c.do 3]
 | 31=>[c.pe 2,c.do 3]
 | 32=>[c.pe 3,c.do 3]
 | _=>[c.em,c.do 4]
def a0w(kb:Nat):Value:=vP kb 0
def w01(kb st hx:Nat):List (Nat×Value):=[(0,a0w kb),(1,Z0 st),(2,vP kb hx)]
def w02(kb st hx:Nat)(c:KCl):List (Nat×Value):=[(0,a0w kb),(1,Z0 st),(2,vP kb hx),(8,.int .u64 (pk (c.n0,c.n1))),(9,vI c.n0)]
def w03(kb st hx:Nat)(c:KCl):List (Nat×Value):=[(0,a0w kb),(1,Z0 st),(2,vP kb hx),(8,.int .u64 (pk (c.n0,c.n1))),(9,vI c.n0),(10,vI c.n2)]
def w0Z(kb st hx:Nat)(c:KCl):List (Nat×Value):=[(0,a0w kb),(1,Z0 st),(2,vP kb hx),(3,vI c.n4)]
def n0f(kb st hx:Nat)(c:KCl):List (Nat×Value):=[(0,a0w kb),(1,Z0 st),(2,vP kb hx),(3,vI c.n4),(8,.int .u64 (pk (c.n0,c.n1)))]
def t0l(kb st:Nat)(c:KCl):List (Nat×Value):=[(0,a0w kb),(1,Z0 st),(2,vI c.a)]
def n0E(kb st:Nat)(c:KCl):List (Nat×Value):=[(0,a0w kb),(1,Z0 st),(2,vI c.a),(7,vI c.n4)]
def j0Z(kb st:Nat):List (Nat×Value):=[(0,a0w kb),(1,Z0 st)]
def y0y(kb st:Nat)(c:KCl):List (Nat×Value):=[(0,a0w kb),(1,Z0 st),(6,vI c.n4)]
def t0k(kb st:Nat)(c:KCl):List (Nat×Value):=[(0,a0w kb),(1,Z0 st),(6,vI c.n4),(8,vI c.n3)]
def y0w(kb st:Nat)(c:KCl):List (Nat×Value):=[(0,a0w kb),(1,Z0 st),(6,.int .u64 (pk (c.n0,c.n1)))]
def y0x(kb st:Nat)(c:KCl):List (Nat×Value):=[(0,a0w kb),(1,Z0 st),(6,.int .u64 (pk (c.n0,c.n1))),(7,vI c.n3)]
def KSl(kb st:Nat)(c:KC):Prop:=match c.c.pc with
 | 10=>G0 37 c.A (w01 kb st 1)∧G0 40 c.A1 (t0l kb st c.c)
 | 11=>G0 37 c.A (w02 kb st 1 c.c)∧G0 40 c.A1 (t0l kb st c.c)
 | 12=>G0 37 c.A (w03 kb st 1 c.c)∧G0 40 c.A1 (t0l kb st c.c)
 | 13=>G0 40 c.A1 (n0E kb st c.c)
 | 14=>G0 32 c.A (w0Z kb st 0 c.c)∧G0 40 c.A1 (n0E kb st c.c)
 | 15=>G0 32 c.A (n0f kb st 0 c.c)∧G0 40 c.A1 (n0E kb st c.c)
 | 16=>G0 32 c.A (n0f kb st 0 c.c)∧G0 40 c.A1 (n0E kb st c.c)
 | 20=>G0 37 c.A (w01 kb st 0)∧G0 40 c.A1 (j0Z kb st)
 | 21=>G0 37 c.A (w02 kb st 0 c.c)∧G0 40 c.A1 (j0Z kb st)
 | 22=>G0 37 c.A (w03 kb st 0 c.c)∧G0 40 c.A1 (j0Z kb st)
 | 23=>G0 40 c.A1 (y0y kb st c.c)
 | 24=>G0 32 c.A (w0Z kb st 1 c.c)∧G0 40 c.A1 (t0k kb st c.c)
 | 25=>G0 32 c.A (n0f kb st 1 c.c)∧G0 40 c.A1 (t0k kb st c.c)
 | 26=>G0 32 c.A (n0f kb st 1 c.c)∧G0 40 c.A1 (t0k kb st c.c)
 | 30=>G0 42 c.A1 (j0Z kb st)
 | 31=>G0 42 c.A1 (y0w kb st c.c)
 | 32=>G0 42 c.A1 (y0x kb st c.c)
 | _=>G0 15 c.A1 (j0Z kb st)
structure KV(m:Nat)(c:KCl):Prop where
 pc:c.pc∈[10,11,12,13,14,15,16,20,21,22,23,24,25,26,30,31,32,40]
 n0: -1≤c.n0∧c.n0<m
 n1:0≤c.n1∧c.n1<2147483648
 n2: -1≤c.n2∧c.n2<m
 n4:0≤c.n4∧c.n4<m
 pos:c.pc∈[11,12,21,22,31,32]→0≤c.n0
structure KJ(kb st m:Nat)(c:KC):Prop where
 v:KV m c.c
 s:KSl kb st c
 a:G0 52 c.A2 [(8,vP c.ab 0)]
end
section
variable{F:Fz}{w w':World}{kb st:Nat}
section
variable{s:KS}{n0 n1 n2 n3 n4 a:Int}{A A1 A2:Array Value}{ab:Nat}
end
section
variable{s:KS}{a b0 c0:Int}{i:Nat}
end
end
section
variable{w w':World}{kb:Nat}
structure z0Q(sv:Value)(main:Bool)(sb:Nat)(X:Nat→World→Prop):Prop where
 tick:∀(m:Nat) (w:World) (c:Frame) (cs:List Frame) (Stop:Goroutine→World→Prop),X m w→m<4611686018427387904→(∀w',X (m+1) w'→w'.heap.size=w.heap.size→(∀r,r≠sb→w'.heap[r]? =w.heap[r]?)→J0 Try.prog main F0 Stop (G (c.finish (.tuple #[])) cs) w')→
  J0 Try.prog main F0 Stop (G (Frame.enter Try.prog 79 #[sv] .normal) (c::cs)) w
 keep:∀(m:Nat) (w w':World),X m w→w'.heap[sb]? =w.heap[sb]?→X m w'
structure AlK(kb sb:Nat)(X:Nat→World→Prop)(w0:World)(s0 s:KS)(m:Nat)(w:World):Prop where
 u:KU kb s w
 nb:s.nb=s0.nb
 x:X m w
 sz:w.heap.size=w0.heap.size
 o:∀r,r≠sb→¬KR kb s0 r→w.heap[r]? =w0.heap[r]?
section
variable{sv:Value}{main:Bool}{sb m:Nat}{X:Nat→World→Prop}{w0:World}{s0 s s':KS}
theorem AlK.tick(h:AlK kb sb X w0 s0 s m w)(hsb:¬KR kb s0 sb)(hx:X (m+1) w')(hs:w'.heap.size=w.heap.size)(ho:∀r,r≠sb→w'.heap[r]? =w.heap[r]?):AlK kb sb X w0 s0 s (m+1) w':=
 ⟨h.u.same fun r hr=>ho r fun e=>hsb (by subst e;rcases hr with hr|hr;exact .inl hr;exact .inr (hr.trans h.nb)),h.nb,hx,hs.trans h.sz,fun r hr hk=>(ho r hr).trans (h.o r hr hk)⟩
theorem AlK.set(S:z0Q sv main sb X)(h:AlK kb sb X w0 s0 s m w)(hsb:¬KR kb s0 sb){ad:Addr}{v:Value}(hu:KU kb s' (w.setCell ad v))(hn:s'.nb=s0.nb)(ha:ad.block=kb∨ad.block=s.nb):AlK kb sb X w0 s0 s' m (w.setCell ad v):=by
 have hk:KR kb s0 ad.block:=by
  rcases ha with h1|h1
  ·exact .inl h1
  ·exact .inr (h1.trans h.nb)
 exact⟨hu,hn,S.keep m _ _ h.x (I0 _ _ _ fun e=>hsb (by rw[e];exact hk)),by rw[World.size_setCell];exact h.sz,fun r hr hkr=>(I0 _ _ _ fun e=>hkr (by rw[e];exact hk)).trans (h.o r hr hkr)⟩
end
end
section
variable{F:Fz}{w:World}
@[go_sem] theorem E0L(w:World):(binOp .neq 105 .nilIface .nilIface).run Try.prog w= .ok (.bool false) w:=by kernel_rfl
@[go_sem] theorem D0U(w:World)(es:Array Event):(binOp .neq 105 .nilIface .nilIface).events Try.prog w es=es:=by kernel_rfl
end
section
variable{F:Fz}{w:World}
end
section
variable{w:World}
end
section
variable{An:G3}{w w':World}
theorem h0h{base n size:Nat}{e:TypeId}{v:Value}{xs:List Value}(h:w.ownsRow base e size v n xs)(hs:∀b c,w.heap[b]? =some (.cells c e (0,0))→base≤b→w'.heap[b]? =w.heap[b]?):w'.ownsRow base e size v n xs:=by
 refine⟨h.1,?_⟩
 rcases h.2 with h2|⟨b,cap,cur,rfl,h3,h4,h5⟩
 ·exact .inl h2
 ·exact .inr ⟨b,cap,cur,rfl,h3,(hs b cur h4 h3).trans h4,h5⟩
structure o0q(w:World)(n:Nat)(ans:Nat→List (Bool×Int))(state:List Int)(order:List Nat)(aa:Nat)(ov sv:Value)(w':World):Prop where
 size:w.heap.size≤w'.heap.size
 old:∀(r:Nat) (c:Array Value) (e:TypeId) (z:Nat×Nat),w.heap[r]? =some (.cells c e z)→w'.heap[r]? =some (.cells c e z)
 arr:∃c,w'.heap[aa]? =some (.cells c 42 (0,0))∧c.size=n∧∀i,i<n→∃v,c[i]? =some v∧(ans i).length≤65536∧w'.ownsRow 0 44 3 v (ans i).length (z0V (ans i))
 ord:w'.ownsRow w.heap.size 3 1 ov order.length (order.map fun i:Nat=>Value.int .i64 i)
 st:w'.ownsRow w.heap.size 2 1 sv state.length (state.map fun v=>vI v)
def KSt.state(s:KSt):List Int:=[s.hd.1,s.hd.2,s.fr.1,s.fr.2]++s.vals
end
section
variable{F:Fz}{w:World}
theorem bOp(k a b c:Int):Try.prog.built 47 [(0,vI k)]=some #[vI k,vI 0,vI 0,vI 0]:=by kernel_rfl
theorem z0X(k a:Int):Try.prog.built 47 [(0,vI k),(1,vI a)]=some #[vI k,vI a,vI 0,vI 0]:=by kernel_rfl
@[go_sem] theorem D0V(k:Int)(w:World):(Instr.build 47 #[(0,vI k)]).run Try.prog w= .ok (.agg #[vI k,vI 0,vI 0,vI 0]) w:=run_build w _ _ _ (bOp k 0 0 0)
@[go_sem] theorem E0q(k:Int)(w:World)(es:Array Event):(Instr.build 47 #[(0,vI k)]).events Try.prog w es=es:=l6 w es _ _ _ _ Try.underlying47 (bOp k 0 0 0)
@[go_sem] theorem C0D(k a:Int)(w:World):(Instr.build 47 #[(0,vI k),(1,vI a)]).run Try.prog w= .ok (.agg #[vI k,vI a,vI 0,vI 0]) w:=run_build w _ _ _ (z0X k a)
@[go_sem] theorem D0O(k a:Int)(w:World)(es:Array Event):(Instr.build 47 #[(0,vI k),(1,vI a)]).events Try.prog w es=es:=l6 w es _ _ _ _ Try.underlying47 (z0X k a)
end
section
variable{w w' w0:World}
end
section
variable{An:G3}{w w' w0:World}
theorem o0q.other{w1 u:World}{n:Nat}{ans:Nat→List (Bool×Int)}{state:List Int}{order:List Nat}{aa rb:Nat}{ov sv:Value}(h:o0q w1 n ans state order aa ov sv w')(hs:w.heap.size≤w1.heap.size)(hold:∀r,r<w.heap.size→w1.heap[r]? =w.heap[r]?)(hu:u.heap.size=w'.heap.size)(hne:∀r,r≠rb→u.heap[r]? =w'.heap[r]?)(hr:∃c z,w'.heap[rb]? =some (.cells c 31 z))(hrb:w.heap.size≤rb):o0q w n ans state order aa ov sv u:=by
 obtain⟨cr,zr,hr⟩:=hr
 have ty:∀(b:Nat) (c:Array Value) (e:TypeId) (z:Nat×Nat),w'.heap[b]? =some (.cells c e z)→e≠31→u.heap[b]? =w'.heap[b]?:=fun b c e z hb he=>hne b fun e2=>by
  rw[e2,hr]at hb
  cases hb
  exact he rfl
 obtain⟨c,a1,a2,a3⟩:=h.arr
 refine⟨by have:=h.size;omega,fun r cc e z hr2=>?_,⟨c,(ty _ _ _ _ a1 (by decide)).trans a1,a2,fun i hi=>?_⟩,?_,?_⟩
 ·have hlt:=(Q3 hr2)
  rw[hne r (by omega)]
  exact h.old r cc e z ((hold r hlt).trans hr2)
 ·obtain⟨v,v1,v2,v3⟩:=a3 i hi
  exact⟨v,v1,v2,h0h v3 fun b cc hb _=>ty b cc _ _ hb (by decide)⟩
 ·exact j4 hs (h0h h.ord fun b cc hb _=>ty b cc _ _ hb (by decide))
 ·exact j4 hs (h0h h.st fun b cc hb _=>ty b cc _ _ hb (by decide))
end
section
variable{w w':World}
theorem B5.drewN{w:World}{a:Option Addr}{xs:List Value}(h:B5 w a xs)(k:Nat):B5 (w.drewN k) a xs:=h.heap rfl
end
section
variable{F:Fz}{w:World}
theorem B5.same{a:Option Addr}{xs:List Value}{w w':World}(h:B5 w a xs)(he:∀b o,a=some ⟨b,o,none⟩→w'.heap[b]? =w.heap[b]?):B5 w' a xs:=
 ⟨fun k x hx=>by
  obtain⟨b,o,h1,h2⟩:=h.c k x hx
  exact⟨b,o,h1,by simpa only[World.cell?,he b o h1]using h2⟩⟩
theorem B5.alloc{a:Option Addr}{xs:List Value}{w:World}(h:B5 w a xs)(o:Obj):B5 (w.alloc o) a xs:=
 ⟨fun k x hx=>by
  obtain⟨b,o1,h1,h2⟩:=h.c k x hx
  exact⟨b,o1,h1,(O0 h2 o).1⟩⟩
theorem j0i(w:World)(xs:List Value)(e:TypeId):B5 (w.alloc (.cells xs.toArray e)) (some ⟨w.heap.size,0,none⟩) xs:=
 ⟨fun k x hx=>⟨_,_,rfl,by
  have:=heap_alloc_new w (.cells xs.toArray e)
  simp only[World.cell?,this,Nat.zero_add]
  simpa using hx⟩⟩
variable{An:G3}
end
section
variable{An:G3}{w w' w0:World}
def x0l:Nat→List P3:=fun i=>if i=0 then[⟨1,1,10,1⟩]else if i=1 then[⟨3,1,0,0⟩]else[]
def x0m:Nat→List P3:=fun i=>if i=0 then[⟨1,1,10,1⟩]else if i=1 then[⟨4,0,0,0⟩]else[]
def fxS1:List Int:=[1,1,0,0,0,0,0,1,1]
def fxS2:List Int:=[1,0,0,0,0,0,1]
def g00:GS SPl×List Nat:=a0K x0l 2 99 fxS1 10 (ss0 [1,2])
def g01:GS SPl×List Nat:=a0K x0m 2 99 fxS2 10 (ss0 [1,2])
theorem n0y:g7 2 99 g00:=by decide +kernel
theorem n0z:g7 2 99 g01:=by decide +kernel
theorem s0p:R1.state g00.1.q=[2,10,11]:=by decide +kernel
theorem s0q:R1.state g01.1.q=[2,10,11]:=by decide +kernel
def E0x:List g8:=(g00.1.th 1).ans
def E0y:List g8:=(g01.1.th 1).ans
theorem o07:E0x=[(false,0,[])]:=by decide +kernel
theorem o08:E0y=[(true,0,[1,11])]:=by decide +kernel
theorem i0N{m:Pl}{ops:Nat→List P3}{n M:Nat}{S:List Int}{s:GS m}{f0:Nat}(hd:g7 n M (a0K ops n M S f0 s))(t:GS m×List Nat)(h:∃k,∀f,k≤f→a0K ops n M S f s=t):t=a0K ops n M S f0 s:=by
 obtain⟨k,hk⟩:=h
 rw[← hk (max k f0) (by omega)]
 exact f0F f0 _ hd _ (by omega)
theorem V1{X:World}{k:Nat}{c:Array Value}{e:TypeId}(h:X.heap[k]? =some (.cells c e (0,0))){j:Nat}{v:Value}(hv:c[j]? =some v):X.cell? ⟨k,j,none⟩=some v∧X.frozen? ⟨k,j,none⟩=false:=⟨by simp only[World.cell?,h];simpa using hv,by simp[World.frozen?,h]⟩
theorem u0Q{u:World}{b0 b1 bt bs:Nat}{k1 a1 x1 y1 k2 a2 x2 y2:Int}{S:List Int}(h0:u.heap[b0]? =some (.cells #[vI k1,vI a1,vI x1,vI y1] 47 (0,0)))(h1:u.heap[b1]? =some (.cells #[vI k2,vI a2,vI x2,vI y2] 47 (0,0)))(ht:u.heap[bt]? =some (.cells #[vL b0 0 1 1,vL b1 0 1 1] 34 (0,0)))(hs:u.heap[bs]? =some (.cells (S.map fun i:Int=>Value.int .i64 i).toArray 3 (0,0)))(hl:S.length<100):
 y6 u (fun _=>False) 2 bt 0 2 (some ⟨bt,0,none⟩) (fun i=>some ⟨if i=0 then b0 else b1,0,none⟩) (fun _=>1) (fun _=>1) (fun i=>if i=0 then[⟨k1,a1,x1,y1⟩]else if i=1 then[⟨k2,a2,x2,y2⟩]else[]) S (some ⟨bs,0,none⟩):=by
 refine⟨rfl,fun _=>rfl,fun _=>(Q3 ht),fun j hj=>?_,fun j hj=>?_,fun j hj k x hx=>?_,by omega,fun _=>⟨_,_,_,_,_,rfl,id,hs,fun k v hv=>⟨by rw[Nat.zero_add];simpa using hv,by simp⟩⟩⟩
 ·have:j=0∨j=1:=by omega
  rcases this with rfl|rfl
  ·exact⟨(V1 ht rfl).1,(V1 (j:=0) ht rfl).2,Nat.le_refl _⟩
  ·exact⟨(V1 ht rfl).1,(V1 (j:=1) ht rfl).2,Nat.le_refl _⟩
 ·have:j=0∨j=1:=by omega
  rcases this with rfl|rfl<;>rfl
 ·have:j=0∨j=1:=by omega
  rcases this with rfl|rfl
  ·have hk:k=0:=by
    have:=(List.getElem?_eq_some_iff.1 hx).1
    simp at this
    omega
   subst hk
   obtain rfl:(⟨k1,a1,x1,y1⟩:P3)=x:=by simpa using hx
   exact⟨_,_,rfl,id,(V1 h0 rfl).1,(V1 h0 rfl).1,(V1 h0 rfl).1,(V1 h0 rfl).1,(V1 (j:=0) h0 rfl).2,(V1 (j:=1) h0 rfl).2,(V1 (j:=2) h0 rfl).2,(V1 (j:=3) h0 rfl).2⟩
  ·have hk:k=0:=by
    have:=(List.getElem?_eq_some_iff.1 hx).1
    simp at this
    omega
   subst hk
   obtain rfl:(⟨k2,a2,x2,y2⟩:P3)=x:=by simpa using hx
   exact⟨_,_,rfl,id,(V1 h1 rfl).1,(V1 h1 rfl).1,(V1 h1 rfl).1,(V1 h1 rfl).1,(V1 (j:=0) h1 rfl).2,(V1 (j:=1) h1 rfl).2,(V1 (j:=2) h1 rfl).2,(V1 (j:=3) h1 rfl).2⟩
theorem k0k{u:World}{vb:Nat}{vs:List Int}(h:u.heap[vb]? =some (.cells (vs.map fun i:Int=>Value.int .i64 i).toArray 2 (0,0))):o5 u (some ⟨vb,0,none⟩) vs:=fun i x hx=>⟨vb,0,rfl,by
 rw[Nat.zero_add]
 exact(V1 h (by simp[hx])).1⟩
structure FxT(u:World)(T:Nat)(ok:Bool)(l:List Int):Prop where
 t:∃aa xa xc g cap la lc,u.cell? ⟨T,0,none⟩=some (vL aa 0 2 2)∧u.cell? ⟨T,2,none⟩=some (vL xa 0 3 xc)∧u.cell? ⟨aa,1,none⟩=some (vL g 0 1 cap)∧u.cell? ⟨g,0,none⟩=some (.bool ok)∧u.cell? ⟨g,2,none⟩=some (.slice la l.length lc)∧B5 u la (l.map fun v=>vI v)∧u.cell? ⟨xa,0,none⟩=some (vI 2)∧u.cell? ⟨xa,2,none⟩=some (vI 11)
theorem FxT.same{u u':World}{T:Nat}{ok:Bool}{l:List Int}(h:FxT u T ok l)(hs:∀(r:Nat) (c:Array Value) (e:TypeId) (z:Nat×Nat),u.heap[r]? =some (.cells c e z)→u'.heap[r]? =some (.cells c e z)):FxT u' T ok l:=by
 obtain⟨aa,xa,xc,g,cap,la,lc,h1,h2,h3,h4,h5,h6,h7,h8⟩:=h.t
 have hc:∀{a:Addr} {v:Value},u.cell? a=some v→u'.cell? a=some v:=fun{a v} h=>by
  obtain⟨c,e,z,ho⟩:=M3 h
  have:=hs _ _ _ _ ho
  rw[← h];unfold World.cell?;simp only[this,ho]
 refine⟨aa,xa,xc,g,cap,la,lc,hc h1,hc h2,hc h3,hc h4,hc h5,⟨fun k x hx=>?_⟩,hc h7,hc h8⟩
 obtain⟨b,o,e1,e2⟩:=h6.c k x hx
 exact⟨b,o,e1,hc e2⟩
theorem p0a{u u':World}{ans:Nat→List g8}{order:List Nat}{aa:Nat}{rows:Nat→Value}{av:Nat→List SA}{oa xa:Option Addr}{oc xc:Nat}{st:Bool}{ok:Bool}{n1:Int}{l:List Int}(h:j0P w 2 ans [2,10,11] order aa rows av (.slice oa order.length oc) (.slice xa ([2,10,11]:List Int).length xc) u)(ha:ans 1=[(ok,n1,l)])
 (hT:u'.heap=(u.alloc (.cells #[vL aa 0 2 2,.slice oa order.length oc,.slice xa ([2,10,11]:List Int).length xc,.bool st] 31)).heap):FxT u' u.heap.size ok l:=by
 have hn:u'.heap[u.heap.size]? =some (.cells #[vL aa 0 2 2,.slice oa order.length oc,.slice xa ([2,10,11]:List Int).length xc,.bool st] 31 (0,0)):=by rw[hT];exact heap_alloc_new _ _
 have ho:∀r,r<u.heap.size→u'.heap[r]? =u.heap[r]?:=fun r hr=>by rw[hT];exact D0 _ _ hr
 have hc:∀{a:Addr} {v:Value},u.cell? a=some v→u'.cell? a=some v:=fun{a v} h=>by
  obtain⟨c,e,z,hb⟩:=M3 h
  rw[← h];unfold World.cell?;simp only[ho _ (Q3 hb)]
 obtain⟨c,a1,a2,a3⟩:=h.arr
 obtain⟨r1,r2,r3,r4⟩:=h.row 1 (by decide)
 rw[ha]at r1
 obtain⟨sa,hsa⟩:∃sa,av 1=[sa]:=by
  cases hq:av 1 with
  | nil=>rw[hq]at r1;cases r1
  | cons x t=>
    cases t with
    | nil=>exact⟨x,rfl⟩
    | cons y t=>rw[hq]at r1;simp at r1
 rw[hsa]at r1 r3 r4
 have r1:sa.an=(ok,n1,l):=by simpa using r1
 obtain⟨an,la,ll,lc⟩:=sa
 simp only at r1
 subst r1
 have r3:u.ownsRow 0 44 3 (rows 1) (0+1) (SA.v ⟨(ok,n1,l),la,ll,lc⟩).cells:=by simpa using r3
 obtain⟨g,cap,hg⟩:=j5 r3
 have hcells:(SA.v ⟨(ok,n1,l),la,ll,lc⟩).cells=[.bool ok,vI n1,.slice la ll lc]:=rfl
 rw[hcells]at r3
 obtain⟨b,cp,e1,g0⟩:=M5 (k:=0) r3 rfl
 obtain⟨b2,cp2,e2,g2⟩:=M5 (k:=2) r3 rfl
 rw[hg]at e1 e2
 cases e1
 cases e2
 have hl:SAU ⟨(ok,n1,l),la,ll,lc⟩ u:=r4 _ (by simp)
 have hl2:u.ownsRow 0 2 1 (.slice la ll lc) l.length (l.map fun v=>vI v):=hl
 have hll:ll=l.length:=by
  rcases hl2.2 with⟨e,e2⟩|⟨_,_,_,e,_⟩
  ·cases e
   omega
  ·cases e
   rfl
 have hst:=h.st
 obtain⟨bx,cx,ex,x0⟩:=M5 (k:=0) hst rfl
 obtain⟨bx2,cx2,ex2,x2⟩:=M5 (k:=2) hst rfl
 cases ex
 cases ex2
 refine⟨aa,bx,xc,g,cap,la,lc,(V1 hn rfl).1,(V1 hn rfl).1,hc ?_,hc g0.c,hc (hll ▸ g2.c),?_,hc x0.c,hc x2.c⟩
 ·have:=a3 1 (by decide)
  rw[hg]at this
  exact(V1 a1 this).1
 ·refine⟨fun k x hx=>?_⟩
  obtain⟨b,cp,e,hk⟩:=M5 hl2 hx
  cases e
  exact⟨b,0,rfl,by rw[Nat.zero_add];exact hc hk.c⟩
theorem A0W{T1 T2:Nat}{b1:Bool}{l1:List Int}(h1:FxT w T1 false l1)(h2:FxT w T2 b1 [1,11]){A:Array Value}(hA:G0 124 A [(2,.pointer (some ⟨T1,0,none⟩)),(3,.pointer (some ⟨T2,0,none⟩))]):
 sfxr4.wp Try.prog (F7 fun a u=>a.defers=[]∧(a.tmps.size=124∧a.tmps.getD 89 undef= .bool false∧w.heap.size≤u.heap.size∧∀r,r<w.heap.size→u.heap[r]? =w.heap[r]?)) ⟨A,[]⟩ w:=by
 obtain⟨s,rfl,h02,h03,_⟩:=Y3 U9 hA
 obtain⟨aa,xa,xc,g,cap,la,lc,c1,c2,c3,c4,c5,c6,c7,c8⟩:=h1.t
 obtain⟨aa2,xa2,xc2,g2,cap2,la2,lc2,d1,d2,d3,d4,d5,d6,d7,d8⟩:=h2.t
 have C:Aside (Calls Try.prog 22 #[.slice la2 2 lc2,.slice (some ⟨w.heap.size,0,none⟩) 2 2] (w.alloc (.cells #[.int .i64 1,.int .i64 11] 2)) fun x w'=>x= .returned (.bool true)∧w'.heap=(w.alloc (.cells #[.int .i64 1,.int .i64 11] 2)).heap):=
  y05 (xs:=[1,11]) (by decide) (d6.alloc _) (j0i w ([1,11].map fun v=>.int .i64 v) 2)
 clear h1 h2 c5 c6 d4 d6 d7 d8 d2
 simp only[sfxr4,N3,pC,Try.f13,Option.getD_some,U9,h02,h03,List.append_eq,List.append,List.cons_append,List.nil_append]
 clear h02 h03
 go_wp2_with (go_at_call 22;refine C.out.mono ?_;rintro e w1 ⟨rfl,hw1⟩;have W1:Aside (w1.heap=(w.alloc (.cells #[.int .i64 1,.int .i64 11] 2)).heap):=hw1;clear hw1)
 refine⟨rfl,rfl,rfl,?_,fun r hr=>?_⟩
 ·rw[W1.out];simp
 ·rw[W1.out];exact D0 _ _ hr
end
section
variable{An:G3}{w w' w0:World}
def C9(w w':World):Prop:=w.heap.size≤w'.heap.size∧∀(r:Nat) (c:Array Value) (e:TypeId) (z:Nat×Nat),w.heap[r]? =some (.cells c e z)→w'.heap[r]? =some (.cells c e z)
theorem C9.refl(w:World):C9 w w:=⟨Nat.le_refl _,fun _ _ _ _ h=>h⟩
theorem C9.trans{a b c:World}(h1:C9 a b)(h2:C9 b c):C9 a c:=⟨Nat.le_trans h1.1 h2.1,fun r x e z h=>h2.2 r x e z (h1.2 r x e z h)⟩
theorem C9.of(h1:w.heap.size≤w'.heap.size)(h2:∀r,r<w.heap.size→w'.heap[r]? =w.heap[r]?):C9 w w':=⟨h1,fun r c e z h=>(h2 r (Q3 h)).trans h⟩
theorem r0C(X:World)(vs:List Int):VS (X.alloc (.cells (vs.map fun i:Int=>Value.int .i64 i).toArray 2)) (some ⟨X.heap.size,0,none⟩) vs:=fun _=>⟨_,rfl,fun i hi=>(V1 (heap_alloc_new _ _) (by simp[List.getD_eq_getElem?_getD,hi])).1⟩
theorem m0S{lb:Nat}{s:SS}{X:World}(h:SU lb s X):e0e lb none s (some ⟨X.heap.size,0,none⟩):=fun y hy=>by
 cases hy
 have h1:=h.low (r:=lb) (.inl rfl)
 have h2:=h.low (r:=s.wb) (.inr rfl)
 exact⟨by simp only;omega,by simp only;omega,by simp⟩
theorem J7.alloc{lb m:Nat}{main:Bool}{s:SS}{X:World}(h:J7 lb none (fun _ _=>True) w0 s m X)(o:Obj):J7 lb none (fun _ _=>True) w0 s m (X.alloc o):=
 h.grow (e0W main) (by simp) (fun r hr=>D0 _ _ (Nat.lt_of_lt_of_le hr h.sz)) (fun r hr=>D0 _ _ (h.u.low hr)) (fun b hb=>by cases hb)
theorem J7.heap{lb m:Nat}{main:Bool}{s:SS}{X Y:World}(h:J7 lb none (fun _ _=>True) w0 s m X)(e:Y.heap=X.heap):J7 lb none (fun _ _=>True) w0 s m Y:=
 h.grow (e0W main) (by rw[e];exact Nat.le_refl _) (fun r hr=>by rw[e]) (fun r hr=>by rw[e]) (fun b hb=>by cases hb)
theorem o09{A:Array Value}(hA:G0 124 A [(89,.bool false)]){c:Frame}{cs:List Frame}{main:Bool}{Stop:Goroutine→World→Prop}
 (K:∀w',w.heap.size≤w'.heap.size→(∀r,r<w.heap.size→w'.heap[r]? =w.heap[r]?)→J0 Try.prog main F0 Stop (G (c.finish (.bool true)) cs) w'):
 J0 Try.prog main F0 Stop (G (bA 13 A [.code f0i,.code j0t]) (c::cs)) w:=by
 refine E0C J1 (Nat.zero_le _) hA fun A hA=>?_
 have hs0:(w.alloc (.cells #[vI 1,vI 2] 2)).heap.size=w.heap.size+1:=by simp
 have ho0:∀r,r<w.heap.size→(w.alloc (.cells #[vI 1,vI 2] 2)).heap[r]? =w.heap[r]?:=fun r hr=>D0 _ _ hr
 have hv0:o5 (w.alloc (.cells #[vI 1,vI 2] 2)) (some ⟨w.heap.size,0,none⟩) [1,2]:=k0k (heap_alloc_new _ _)
 generalize w.alloc (.cells #[vI 1,vI 2] 2)=W0 at hs0 ho0 hv0 ⊢
 refine c0C (xs:=[1,2]) hv0 (by decide) fun W1 hU hs1 ho1=>?_
 have hk1:∀r,r<w.heap.size→W1.heap[r]? =w.heap[r]?:=fun r hr=>(ho1 r (by omega)).trans (ho0 r hr)
 have a1:J7 (W0.heap.size+1) none (fun _ _=>True) W1 ⟨I4 [1,2],W0.heap.size,0⟩ 0 W1:=⟨hU,trivial,Nat.le_refl _,fun _ _ _ _ _=>rfl⟩
 refine E0D J1 (Nat.zero_le _) hA fun A hA=>?_
 refine b0G (e0W main) (a1.alloc (main:=main) _) (fun _ h=>by cases h) rfl (by decide) (vs:=[5,6]) (r0C W1 [5,6]) (m0S hU) fun W2 a2=>?_
 refine E0E J1 (Nat.zero_le _) hA fun A hA=>?_
 refine b0H (e0W main) (a2.alloc (main:=main) _) (fun _ h=>by cases h) (show((I4 [1,2]).wrote 1 [5,6]).ver.tmod 2=0 by decide) (show 0+(I4 [1,2]).ws.length+3+32<4611686018427387904 by decide) (vs:=[1]) (r0C W2 [1]) (m0S a2.u) fun W3 a3=>?_
 refine E0F hA fun A hA=>?_
 refine d0A (e0W main) a3 (fun _ h=>by cases h) (fun _ h=>by cases h) (show(((I4 [1,2]).wrote 1 [5,6]).wrote 2 [1]).ver.tmod 2=0 by decide) (show 0+(I4 [1,2]).ws.length+3+((I4 [1,2]).wrote 1 [5,6]).ws.length+3+64<4611686018427387904 by decide) fun W4 ov a4 hr hs4 ho4=>?_
 have e6:(((I4 [1,2]).wrote 1 [5,6]).wrote 2 [1]).ws=[6,6]:=by decide
 have hrow:=hr.row
 simp only[e6]at hrow
 obtain⟨la,ll,lc,hov⟩:=F3 hrow
 subst hov
 have hll:ll=2:=by
  rcases hrow.2 with⟨_,h⟩|⟨_,_,_,e,_⟩
  ·simp at h
  ·cases e;rfl
 subst hll
 refine E0G J1 (Nat.zero_le _) hA fun A hA=>?_
 refine k0w (xs:=[6,6]) (by decide) ((c0E hrow).alloc _) (j0i W4 ([6,6].map fun v=>vI v) 2) fun W5 e5=>?_
 have a5:=(a4.alloc (main:=main) (.cells #[vI 6,vI 6] 2)).heap (main:=main) e5
 refine E0H hA fun A hA=>?_
 refine b0k (v:=4) a5.u.v.c fun W6 e7=>?_
 have a6:=a5.heap (main:=main) e7
 refine E0I hA (K W6 ?_ fun r hr=>?_)
 ·have:=a6.sz
  omega
 ·rw[a6.o r (by omega) (by simp) (by omega) (by simp only;omega)]
  exact hk1 r hr
theorem m00{c:Frame}{cs:List Frame}{Stop:Goroutine→World→Prop}(K:∀w',C9 w w'→Q4 An Try.prog Stop (G (c.finish (.bool true)) cs) w'):
 Q4 An Try.prog Stop (G (Frame.enter Try.prog 13 #[] .normal) (c::cs)) w:=by
 refine w7 (F:=F0) (Stop:=fun a u=>∃A,G0 124 A [(1,vL w.heap.size 0 1 1)]∧u.heap=(g02 w).heap∧a=G (Frame.enter Try.prog 15 #[vL (w.heap.size+1) 0 2 2,vL (w.heap.size+3) 0 2 2,vL (w.heap.size+4) 0 9 9,vI 99] .normal) ((bA 13 A [.inRegion (oC g0t) [6,7,8],.code j0s])::c::cs))
  (E0z J1 (Nat.zero_le _) fun A hA=>.stop fun d=>⟨A,hA,rfl,rfl⟩) fun a u ⟨A,hA,hu,ha⟩=>?_
 subst ha
 have k1:C9 w u:=by
  refine .of (by rw[hu];simp[g02];omega) fun r hr=>?_
  rw[hu]
  simp only[g02]
  rw[D0 _ _ (by simp;omega),D0 _ _ (by simp;omega),D0 _ _ (by simp;omega),D0 _ _ (by simp;omega),D0 _ _ hr]
 have b0:u.heap[w.heap.size]? =some (.cells #[vI 1,vI 1,vI 10,vI 1] 47 (0,0)):=by
  rw[hu]
  simp only[g02]
  rw[D0 _ _ (by simp;try omega),D0 _ _ (by simp;try omega),D0 _ _ (by simp;try omega),D0 _ _ (by simp)]
  exact heap_alloc_new _ _
 have b1:u.heap[w.heap.size+1]? =some (.cells #[vI 1,vI 2] 2 (0,0)):=by
  rw[hu]
  simp only[g02]
  rw[D0 _ _ (by simp;try omega),D0 _ _ (by simp;try omega),D0 _ _ (by simp)]
  exact R5 (by simp) _
 have b2:u.heap[w.heap.size+2]? =some (.cells #[vI 3,vI 1,vI 0,vI 0] 47 (0,0)):=by
  rw[hu]
  simp only[g02]
  rw[D0 _ _ (by simp;try omega),D0 _ _ (by simp)]
  exact R5 (by simp) _
 have b3:u.heap[w.heap.size+3]? =some (.cells #[vL w.heap.size 0 1 1,vL (w.heap.size+2) 0 1 1] 34 (0,0)):=by
  rw[hu]
  simp only[g02]
  rw[D0 _ _ (by simp)]
  exact R5 (by simp) _
 have b4:u.heap[w.heap.size+4]? =some (.cells (fxS1.map fun i:Int=>Value.int .i64 i).toArray 3 (0,0)):=by
  rw[hu]
  simp only[g02]
  exact R5 (by simp) _
 clear hu
 refine f0X (va:=some ⟨w.heap.size+1,0,none⟩) (vs:=[1,2]) (S:=fxS1) (k0k b1) (by decide) (u0Q b0 b2 b3 b4 (by decide)) (M:=99) rfl fun s order hd hk aa rows av oa' oc' xa xc u1 hP=>?_
 obtain⟨rfl,rfl⟩:s=g00.1∧order=g00.2:=by
  have:=i0N n0y (s,order) hk
  exact⟨congrArg Prod.fst this,congrArg Prod.snd this⟩
 have hst:=s0p
 generalize g00.2=order at hP ⊢
 generalize decide (0<L5 g00.1.live 2)=lv
 have ha1:(fun i=>((g00.1.th i).ans:List g8)) 1=[(false,0,[])]:=o07
 generalize (fun i=>((g00.1.th i).ans:List g8))=an1 at hP ha1
 rw[hst]at hP ⊢
 have k2:C9 u u1:=⟨hP.size,hP.old⟩
 have b0:=k2.2 _ _ _ _ b0
 clear hk hd b1 b2 b3 b4
 refine w7 (F:=F0) (Stop:=fun a v=>∃A,G0 124 A [(1,vL w.heap.size 0 1 1),(2,vP u1.heap.size 0)]∧v.heap=(i0L u1 w.heap.size (some ⟨aa,0,none⟩) oa' xa 2 2 order.length oc' ([2,10,11]:List Int).length xc lv).heap∧a=G (Frame.enter Try.prog 15 #[vL (u1.heap.size+1) 0 2 2,vL (u1.heap.size+3) 0 2 2,vL (u1.heap.size+4) 0 7 7,vI 99] .normal) ((bA 13 A [.inRegion (oC g0u) [6,7,8],.code g0v])::c::cs))
  (E0A J1 (Nat.zero_le _) hA fun A hA=>.stop fun d=>⟨A,hA,rfl,rfl⟩) fun a v ⟨A,hA,hv,ha⟩=>?_
 subst ha
 have hW:∀r,r<u1.heap.size+1→v.heap[r]? =(u1.alloc (.cells #[vL aa 0 2 2,.slice oa' order.length oc',.slice xa ([2,10,11]:List Int).length xc,.bool lv] 31)).heap[r]?:=fun r hr=>by
  rw[hv]
  simp only[i0L]
  rw[D0 _ _ (by simp;omega),D0 _ _ (by simp;omega),D0 _ _ (by simp;omega),D0 _ _ (by simp;omega)]
 have hvs:v.heap.size=u1.heap.size+5:=by rw[hv];simp[i0L]
 have k3:C9 u1 v:=.of (by omega) fun r hr=>(hW r (by omega)).trans (D0 _ _ hr)
 have t1:=p0a hP ha1 (u':=u1.alloc (.cells #[vL aa 0 2 2,.slice oa' order.length oc',.slice xa ([2,10,11]:List Int).length xc,.bool lv] 31)) rfl
 have t2:FxT v u1.heap.size false []:=t1.same fun r cc e z h=>(hW r (by have:=(Q3 h);simpa using this)).trans h
 have b0:=k3.2 _ _ _ _ b0
 have b1:v.heap[u1.heap.size+1]? =some (.cells #[vI 1,vI 2] 2 (0,0)):=by
  rw[hv]
  simp only[i0L]
  rw[D0 _ _ (by simp;try omega),D0 _ _ (by simp;try omega),D0 _ _ (by simp)]
  exact R5 (by simp) _
 have b2:v.heap[u1.heap.size+2]? =some (.cells #[vI 4,vI 0,vI 0,vI 0] 47 (0,0)):=by
  rw[hv]
  simp only[i0L]
  rw[D0 _ _ (by simp;try omega),D0 _ _ (by simp)]
  exact R5 (by simp) _
 have b3:v.heap[u1.heap.size+3]? =some (.cells #[vL w.heap.size 0 1 1,vL (u1.heap.size+2) 0 1 1] 34 (0,0)):=by
  rw[hv]
  simp only[i0L]
  rw[D0 _ _ (by simp)]
  exact R5 (by simp) _
 have b4:v.heap[u1.heap.size+4]? =some (.cells (fxS2.map fun i:Int=>Value.int .i64 i).toArray 3 (0,0)):=by
  rw[hv]
  simp only[i0L]
  exact R5 (by simp) _
 clear hv hW
 refine f0X (va:=some ⟨u1.heap.size+1,0,none⟩) (vs:=[1,2]) (S:=fxS2) (k0k b1) (by decide) (u0Q b0 b2 b3 b4 (by decide)) (M:=99) rfl fun s order2 hd hk aa2 rows2 av2 oa2 oc2 xa2 xc2 v1 hP2=>?_
 obtain⟨rfl,rfl⟩:s=g01.1∧order2=g01.2:=by
  have:=i0N n0z (s,order2) hk
  exact⟨congrArg Prod.fst this,congrArg Prod.snd this⟩
 have hst:=s0q
 generalize g01.2=order2 at hP2 ⊢
 generalize decide (0<L5 g01.1.live 2)=lv2
 have ha2:(fun i=>((g01.1.th i).ans:List g8)) 1=[(true,0,[1,11])]:=o08
 generalize (fun i=>((g01.1.th i).ans:List g8))=an2 at hP2 ha2
 rw[hst]at hP2 ⊢
 have k4:C9 v v1:=⟨hP2.size,hP2.old⟩
 clear hk hd b0 b1 b2 b3 b4
 refine w7 (F:=F0) (Stop:=fun a u2=>a=G (c.finish (.bool true)) cs∧v1.heap.size≤u2.heap.size∧∀r,r<v1.heap.size→u2.heap[r]? =v1.heap[r]?)
  (E0B J1 (Nat.zero_le _) hA fun A hA=>?_) fun a u2 ⟨ha,hs2,ho2⟩=>?_
 ·have q1:=p0a hP2 ha2 (u':=v1.alloc (.cells #[vL aa2 0 2 2,.slice oa2 order2.length oc2,.slice xa2 ([2,10,11]:List Int).length xc2,.bool lv2] 31)) rfl
  have ho:∀r,r<v1.heap.size→(v1.alloc (.cells #[vL aa2 0 2 2,.slice oa2 order2.length oc2,.slice xa2 ([2,10,11]:List Int).length xc2,.bool lv2] 31)).heap[r]? =v1.heap[r]?:=fun r hr=>D0 _ _ hr
  have hz:(v1.alloc (.cells #[vL aa2 0 2 2,.slice oa2 order2.length oc2,.slice xa2 ([2,10,11]:List Int).length xc2,.bool lv2] 31)).heap.size=v1.heap.size+1:=by simp
  generalize v1.alloc (.cells #[vL aa2 0 2 2,.slice oa2 order2.length oc2,.slice xa2 ([2,10,11]:List Int).length xc2,.bool lv2] 31)=V at q1 ho hz ⊢
  have q2:FxT V u1.heap.size false []:=(t2.same k4.2).same fun r cc e z h=>(ho r (Q3 h)).trans h
  refine n0R e0B F6 (by kernel_rfl) (R:=fun A u=>A.size=124∧A.getD 89 undef= .bool false∧V.heap.size≤u.heap.size∧∀r,r<V.heap.size→u.heap[r]? =V.heap[r]?) (by decide) (fun τ e=>A0W (w:=retape V τ e) (q2.same fun _ _ _ _ h=>h) (q1.same fun _ _ _ _ h=>h) hA) fun A2 w2 τ e hR hg=>?_
  obtain⟨r1,r2,r3,r4⟩:=hR
  refine o09 ⟨r1,r2,trivial⟩ fun w3 hs3 ho3=>.stop fun d=>⟨rfl,?_,fun r hr=>?_⟩
  ·have r3:V.heap.size≤w2.heap.size:=r3
   show _≤w3.heap.size
   have hs3:w2.heap.size≤w3.heap.size:=hs3
   omega
  ·have r3:V.heap.size≤w2.heap.size:=r3
   have r4:w2.heap[r]? =V.heap[r]?:=r4 r (by omega)
   have h3:w3.heap[r]? =w2.heap[r]?:=ho3 r (by show r<w2.heap.size;omega)
   exact h3.trans (r4.trans (ho r hr))
 ·subst ha
  exact K u2 (k1.trans (k2.trans (k3.trans (k4.trans (.of hs2 ho2)))))
end
section
variable{w w':World}
theorem p08{base n size:Nat}{e:TypeId}{v:Value}{xs:List Value}(h:w.ownsRow base e size v n xs)(hk:∀b c,v.ownBlock=some b→w.heap[b]? =some (.cells c e (0,0))→w'.heap[b]? =w.heap[b]?):w'.ownsRow base e size v n xs:=by
 refine⟨h.1,?_⟩
 rcases h.2 with h2|⟨b,cap,cur,rfl,h3,h4,h5⟩
 ·exact .inl h2
 ·exact .inr ⟨b,cap,cur,rfl,h3,(hk b cur rfl h4).trans h4,h5⟩
structure g0K(w:World)(x:Value)(m size:Nat)(news:List Value):Prop where
 h:(x= .slice none 0 0∧m=0∧news=[])∨∃a c,x= .slice (some a) m c∧news.length=m*size∧∀j u,news[j]? =some u→w.cell? (a.add j)=some u
 o:∀u∈news,u.oneCell'=true
theorem k0u{base n m size g cap:Nat}{e:TypeId}{xs ys:List Value}(h:w.ownsRow base e size (vL g 0 (n+m) cap) (n+m) (xs++ys))(hl:xs.length=n*size):w.ownsRow base e size (vL g 0 n cap) n xs:=by
 rcases h.2 with⟨h1,h2⟩|⟨b,cap',cur,h1,h2,h3,h4,h5,h6,h7⟩
 ·cases h1
 ·cases h1
  refine⟨hl,.inr ⟨g,cap,cur,rfl,h2,h3,by omega,h5,h6,?_⟩⟩
  have:(cur.toList.take ((n+m)*size)).take (n*size)=xs:=by
   rw[h7,← hl]
   exact List.take_left
  rw[List.take_take,Nat.min_eq_left (Nat.mul_le_mul_right _ (by omega))]at this
  exact this
theorem f0d{P:Program}{w:World}(t ty e:TypeId)(i:TypeInfo)(z:Value)(size bytes:Nat)(ht:P.underlying t=some (.slice e))(hi:P.info? e=some i)(hz:i.zero=some z)
 (hsize:i.size=size) (hby:i.bytes=bytes) (hzs:z.cells.size=size) (hsz:0<size)
 (v:Value) (n:Nat) (xs:List Value) (hown:w.ownsRow 0 e size v n xs) (x:Value) (m:Nat) (news:List Value) (hs:g0K w x m size news) (h63:n+m≤maxLen) (hbytes:(n+m)*bytes≤140737488355328):
 ∃v' w',(Builtin.append_ #[t,t] ty #[v,x]).run P w= .ok v' w'∧w'.ownsRow 0 e size v' (n+m) (xs++news)∧w.grownBy w' v.ownBlock∧(v'.ownBlock=v.ownBlock∨∃g,v'.ownBlock=some g∧w.heap.size≤g)∧w'.ownsRow 0 e size v n xs:=by
 rcases hs.h with⟨rfl,rfl,rfl⟩|⟨a,c,rfl,hl,hnews⟩
 ·refine⟨v,w,run_append_owned_none (P:=P) w 0 t ty e i size ht hi v n xs hown,by simpa using hown,⟨rfl,rfl,rfl,Nat.le_refl _,fun _ _ _=>rfl⟩,.inl rfl,hown⟩
 ·rcases hown.2 with⟨rfl,rfl⟩|⟨g,cap,cur,rfl,h2,h3,h4,h5,h6,h7⟩
  ·obtain⟨v',w',r1,r2,r3,r4⟩:=G6 (P:=P) (w:=w) t ty e i z size bytes ht hi hz hsize hby hzs hsz _ 0 xs hown a m c news hl hnews hs.o h63 hbytes
   exact⟨v',w',r1,r2,r3,r4,⟨hown.1,.inl ⟨rfl,rfl⟩⟩⟩
  ·by_cases hroom:n+m≤cap
   ·obtain⟨w',hr,r1,r2⟩:=run_append_own_spare (P:=P) w 0 t ty e i size ht hi hsize g n cap xs hown a m c news hl hnews hs.o hroom
    exact⟨_,w',hr,r1,r2,.inl rfl,k0u r1 hown.1⟩
   ·obtain⟨v',w',hrun,r1,r2⟩:=run_append_arg_grows (P:=P) w t ty e i z size bytes ht hi hz hsize hby hzs hsz ⟨g,0,none⟩ n cap xs hown.1 (c0Z hown) a m c news hl hnews (by omega) h63 hbytes
    refine⟨v',w',hrun,j4 (Nat.zero_le _) r1,⟨r2.os,r2.tape,r2.output,r2.size,fun k hk _=>r2.block k hk (by simp)⟩,?_,p08 hown fun b c hb hc=>r2.block b (Q3 hc) (by simp)⟩
    rcases r1.2 with⟨rfl,h0⟩|⟨g',cap',cur',rfl,h2,_⟩
    ·omega
    ·exact .inr ⟨g',rfl,h2⟩
theorem S2{base n size:Nat}{e:TypeId}{v:Value}{xs:List Value}(h:w.ownsRow base e size v n xs):∃a c,v= .slice a n c:=by
 rcases h.2 with⟨rfl,rfl⟩|⟨g,cap,cur,rfl,_⟩
 ·exact⟨_,_,rfl⟩
 ·exact⟨_,_,rfl⟩
end
section
variable{w w' u u':World}
theorem n0e:∃i z,Try.prog.info? 47=some i∧i.zero=some z∧i.size=4∧i.bytes=32∧z.cells.size=4:=g03 (by kernel_rfl)
theorem m0X:∃i z,Try.prog.info? 34=some i∧i.zero=some z∧i.size=1∧i.bytes=24∧z.cells.size=1:=g03 (by kernel_rfl)
def S1(w w':World):Prop:=w.heap.size≤w'.heap.size∧∀r,r<w.heap.size→w'.heap[r]? =w.heap[r]?
theorem s04{P:Program}{x y:Code}{R:Act→World→Prop}{Q:Exit→Act→World→Prop}{a:Act}{w:World}(h:x.wp P (F7 R) a w)(hy:∀a w,R a w→y.wp P Q a w):(Code.seq x y).wp P Q a w:=
 wp_seq (wp_mono h fun e a w q=>by
  cases e with
  | normal=>exact hy _ _ q
  | _=>exact q.elim)
theorem Y0{P:Program}{c:Code}{R R':Act→World→Prop}{a:Act}{w:World}(h:c.wp P (F7 R) a w)(hh:∀a u,R a u→R' a u):c.wp P (F7 R') a w:=wp_mono h fun e a u q=>by
 cases e with
 | normal=>exact hh _ _ q
 | _=>exact q.elim
theorem E3{P:Program}{c:Code}{id:Nat}{R:Act→World→Prop}{a:Act}{w:World}(h:c.wp P (F7 R) a w):(Code.block id c).wp P (F7 R) a w:=
 wp_block (wp_mono h fun e a w q=>by
  cases e with
  | normal=>exact q
  | _=>exact q.elim)
theorem S1.refl(w:World):S1 w w:=⟨Nat.le_refl _,fun _ _=>rfl⟩
theorem S1.trans{a b c:World}(h:S1 a b)(k:S1 b c):S1 a c:=⟨Nat.le_trans h.1 k.1,fun r hr=>(k.2 r (Nat.lt_of_lt_of_le hr h.1)).trans (h.2 r hr)⟩
theorem S1.heap(e:w'.heap=w.heap):S1 w w':=⟨by rw[e];exact Nat.le_refl _,fun r _=>by rw[e]⟩
theorem S1.alloc(w:World)(o:Obj):S1 w (w.alloc o):=⟨by simp,fun r hr=>D0 _ _ hr⟩
theorem S1.grown(h:w.grownBy w' none):S1 w w':=⟨h.size,fun r hr=>h.block r hr (by simp)⟩
theorem S1.cell(h:S1 w w'){a:Addr}{v:Value}(hc:w.cell? a=some v):w'.cell? a=some v:=by
 obtain⟨c,e,q,hb⟩:=M3 hc
 have e1:=h.2 _ (Q3 hb)
 rw[← hc];unfold World.cell?;simp only[e1]
theorem o3{P:Program}{x y:Code}{R S:Act→World→Prop}{a:Act}{w:World}(h:x.wp P (F7 R) a w)(hy:∀A u,R ⟨A,[]⟩ u→y.wp P (F7 S) ⟨A,[]⟩ u)(hR:∀a u,R a u→a.defers=[]:=by intro a u h;exact h.1):(Code.seq x y).wp P (F7 S) a w:=
 s04 h fun a u q=>by
  obtain⟨A,d⟩:=a
  have e:=hR _ _ q
  simp only at e
  subst e
  exact hy A u q
theorem L2{a:Act}(h:a.defers=[]):a=⟨a.tmps,[]⟩:=by
 obtain⟨A,d⟩:=a
 simp only at h
 rw[h]
theorem O4{w:World}{e:TypeId}{sz n:Nat}{v:Value}{xs:List Value}{g:Nat}(h:w.ownsRow 0 e sz v n xs)(hg:v.ownBlock=some g):∃c,w.heap[g]? =some (.cells c e (0,0)):=by
 rcases h.2 with⟨rfl,_⟩|⟨b,cap,cur,rfl,_,h3,_⟩
 ·cases hg
 ·cases hg
  exact⟨_,h3⟩
def opC(l:List P3):List Value:=l.flatMap fun x=>[vI x.kd,vI x.a,vI x.b,vI x.c]
theorem a0x:∀(l:List P3) (k:Nat) (x:P3),l[k]? =some x→(opC l)[k*4]? =some (vI x.kd)∧(opC l)[k*4+1]? =some (vI x.a)∧(opC l)[k*4+2]? =some (vI x.b)∧(opC l)[k*4+3]? =some (vI x.c)
 | [],k,x,h=>by simp at h
 | o::l,0,x,h=>by
   simp at h
   subst h
   exact⟨rfl,rfl,rfl,rfl⟩
 | o::l,k+1,x,h=>by
   have:=a0x l k x (by simpa using h)
   have e:∀c,(opC (o::l))[(k+1)*4+c]? =(opC l)[k*4+c]?:=fun c=>by
    show([_,_,_,_]++opC l)[(k+1)*4+c]? =_
    rw[List.getElem?_append_right (by simp;omega)]
    simp only[List.length_cons,List.length_nil]
    rw[show(k+1)*4+c - 4=k*4+c by omega]
   have e0:=e 0
   rw[Nat.add_zero,Nat.add_zero]at e0
   rw[e0,e 1,e 2,e 3]
   exact this
structure d07(w u:World)(rv:Value)(l:List P3):Prop where
 row:u.ownsRow 0 47 4 rv l.length (opC l)
 k:S1 w u
 new:∀g,rv.ownBlock=some g→w.heap.size≤g
theorem d07.start(w:World):d07 w w (.slice none 0 0) []:=⟨⟨rfl,.inl ⟨rfl,rfl⟩⟩,S1.refl w,fun g h=>by cases h⟩
theorem d07.heap{rv:Value}{l:List P3}(h:d07 w u rv l)(e:u'.heap=u.heap):d07 w u' rv l:=
 ⟨K0 h.row fun b _ _=>by rw[e],h.k.trans (S1.heap e),h.new⟩
structure w5(w u:World)(j:Nat)(ov:Value)(rv:Nat→Value)(L:Nat→List P3):Prop where
 row:u.ownsRow 0 34 1 ov j ((List.range j).map rv)
 k:S1 w u
 new:∀g,ov.ownBlock=some g→w.heap.size≤g
 rs:∀i,i<j→u.ownsRow 0 47 4 (rv i) (L i).length (opC (L i))∧∀g,(rv i).ownBlock=some g→w.heap.size≤g∧ov.ownBlock≠some g
theorem w5.heap{j:Nat}{ov:Value}{rv:Nat→Value}{L:Nat→List P3}(h:w5 w u j ov rv L)(e:u'.heap=u.heap):w5 w u' j ov rv L:=
 ⟨K0 h.row fun b _ _=>by rw[e],h.k.trans (S1.heap e),h.new,fun i hi=>⟨K0 (h.rs i hi).1 fun b _ _=>by rw[e],(h.rs i hi).2⟩⟩
theorem w5.start(w:World)(rv:Nat→Value)(L:Nat→List P3):w5 w w 0 (.slice none 0 0) rv L:=⟨⟨rfl,.inl ⟨rfl,rfl⟩⟩,S1.refl w,fun g h=>(by cases h),fun i hi=>(by omega)⟩
theorem O3{e:TypeId}{sz n:Nat}{v:Value}{xs:List Value}{g:Nat}(h:u.ownsRow 0 e sz v n xs)(hg:v.ownBlock=some g):g<u.heap.size:=by
 obtain⟨c,hc⟩:=O4 h hg
 exact(Q3 hc)
theorem w5.keep{j:Nat}{ov:Value}{rv:Nat→Value}{L:Nat→List P3}(h:w5 w u j ov rv L)(k:S1 u u'):w5 w u' j ov rv L:=
 ⟨K0 h.row fun b hb _=>k.2 b (O3 h.row hb),h.k.trans k,h.new,fun i hi=>⟨K0 (h.rs i hi).1 fun b hb _=>k.2 b (O3 (h.rs i hi).1 hb),(h.rs i hi).2⟩⟩
theorem w5.snoc{j:Nat}{ov x v':Value}{rv:Nat→Value}{L:Nat→List P3}{l:List P3}{u1:World}(h:w5 w u1 j ov rv L)(hx:d07 u1 u x l)
 (r1:u'.ownsRow 0 34 1 v' (j+1) ((List.range j).map rv++[x])) (r2:u.heap.size≤u'.heap.size) (r3:∀r,r<u.heap.size→some r≠ov.ownBlock→u'.heap[r]? =u.heap[r]?) (r4:v'.ownBlock=ov.ownBlock∨∃g,v'.ownBlock=some g∧u.heap.size≤g):
 w5 w u' (j+1) v' (fun i=>if i=j then x else rv i) (fun i=>if i=j then l else L i):=by
 have hk:=h.keep hx.k
 have e0:∀i,i<j→(if i=j then x else rv i)=rv i:=fun i hi=>if_neg (by omega)
 have hw:w.heap.size≤u.heap.size:=hk.k.1
 refine⟨?_,⟨Nat.le_trans hw r2,fun r hr=>(r3 r (Nat.lt_of_lt_of_le hr hw) fun e=>?_).trans (hk.k.2 r hr)⟩,fun g hg=>?_,fun i hi=>?_⟩
 ·have e:(List.range (j+1)).map (fun i=>if i=j then x else rv i)=(List.range j).map rv++[x]:=by
   rw[List.range_succ,List.map_append,List.map_cons,List.map_nil,if_pos rfl]
   congr 1
   exact List.map_congr_left fun i hi=>e0 i (List.mem_range.1 hi)
  rw[e]
  exact r1
 ·have:=h.new r e.symm
  omega
 ·rcases r4 with e|⟨g',e,h5⟩
  ·exact h.new g (by rw[← e];exact hg)
  ·rw[e]at hg
   cases hg
   omega
 ·by_cases e:i=j
  ·subst e
   simp only[if_true]
   refine⟨K0 hx.row fun b hb _=>r3 b (O3 hx.row hb) fun e=>?_,fun g hg=>⟨Nat.le_trans h.k.1 (hx.new g hg),fun e=>?_⟩⟩
   ·have h1:=hx.new b hb
    have h2:=O3 h.row e.symm
    omega
   ·have h1:=hx.new g hg
    have h3:=O3 hx.row hg
    rcases r4 with e4|⟨g',e4,h5⟩
    ·rw[e4]at e
     have h2:=O3 h.row e
     omega
    ·rw[e4]at e
     cases e
     omega
  ·simp only[if_neg e]
   obtain⟨q1,q2⟩:=hk.rs i (by omega)
   refine⟨K0 q1 fun b hb _=>r3 b (O3 q1 hb) fun e=>(q2 b hb).2 e.symm,fun g hg=>⟨(q2 g hg).1,fun e=>?_⟩⟩
   rcases r4 with e4|⟨g',e4,h5⟩
   ·rw[e4]at e
    exact(q2 g hg).2 e
   ·rw[e4]at e
    cases e
    have:=O3 q1 hg
    omega
end
noncomputable section
variable{F:Fz}{w:World}
def o0:Code:=Try.f7.body.getD .skip
def y0u:=pC [] o0
def t0b:=pC [zt] o0
def l0w:=pC [zf] o0
def t0c:=pC [zt] l0w
def c0k:=pC [zf,zt,zt] o0
def b0C:=pC [zf] t0c
def y0B:=pC [zt] b0C
def e0v:=pC [zf] l0w
def skpr3:=pC [zf,zf,zt] o0
def i0y:=pC [zf] e0v
def skpr4:=pC [zf,zf,zf,zt] o0
def t0d:=pC [zf] i0y
def skpr5:=pC [zf,zf,zf,zf,zt] o0
def l09:=pC [zf] t0d
def skps8:=pC [zt] l09
def skpr6:=pC [zf,zf,zf,zf,zf,zt,zt] o0
def k0C:=pC [zf] skps8
def l0v:=pC [zt] k0C
def c0R:=pC [zt] l0v
def g0T:=pC [zt] c0R
def skpr7:=pC [zf,zf,zf,zf,zf,zt,zf,zt,zt,zt,zt] o0
def l0s:=pC [zf] g0T
def g0U:=pC [zf] c0R
def s08:=pC [zt] g0U
def skpr9:=pC [zf,zf,zf,zf,zf,zt,zf,zt,zt,zf,zt,zt] o0
def skpr8:=pC [zf,zf,zf,zf,zf,zt,zf,zt,zt,zf,zf] o0
def l05:=pC [zf] l09
def l7:=pC [zf,zf,zf,zf,zf,zf,zt] o0
def O5:=pC [zf] l05
def b0I:=pC [zf,zf,zf,zf,zf,zf,zf,zt] o0
def n7:=pC [zf] O5
def h0g:=pC [zt] n7
def skpr12:=pC [zf,zf,zf,zf,zf,zf,zf,zf,zt,zt] o0
def k0F:=pC [zf] h0g
def f03:=pC [zt] k0F
def c0S:=pC [zt] f03
def h0k:=pC [zt] c0S
def skpr13:=pC [zf,zf,zf,zf,zf,zf,zf,zf,zt,zf,zt,zt,zt,zt] o0
def l0t:=pC [zf] h0k
def l06:=pC [zf] c0S
def k0H:=pC [zt] l06
def h0l:=pC [zt] k0H
def skpr15:=pC [zf,zf,zf,zf,zf,zf,zf,zf,zt,zf,zt,zt,zf,zt,zt,zt] o0
def k0L:=pC [zf] h0l
def g0i:=pC [zt] k0L
def c00:=pC [zt] g0i
def h0m:=pC [zt] c00
def skpr16:=pC [zf,zf,zf,zf,zf,zf,zf,zf,zt,zf,zt,zt,zf,zt,zt,zf,zt,zt,zt,zt] o0
def l0u:=pC [zf] h0m
def l07:=pC [zf] c00
def k0M:=pC [zt] l07
def h0n:=pC [zt] k0M
def h0o:=pC [zt] h0n
def c0O:=pC [zf,zf,zf,zf,zf,zf,zf,zf,zt,zf,zt,zt,zf,zt,zt,zf,zt,zt,zf,zt,zt,zt,zt] o0
def h0U:=pC [zf] h0o
def y0z:=pC [zt] h0U
def skpr20:=pC [zf,zf,zf,zf,zf,zf,zf,zf,zt,zf,zt,zt,zf,zt,zt,zf,zt,zt,zf,zt,zt,zf] o0
def skpr17:=pC [zf,zf,zf,zf,zf,zf,zf,zf,zt,zf,zt,zt,zf,zt,zt,zf,zt,zt,zf,zf] o0
def skpr14:=pC [zf,zf,zf,zf,zf,zf,zf,zf,zt,zf,zt,zt,zf,zf] o0
def h0p:=pC [zf] n7
def skps30:=pC [zt] h0p
def skpr21:=pC [zf,zf,zf,zf,zf,zf,zf,zf,zf,zt,zt] o0
def k0N:=pC [zf] skps30
def g0j:=pC [zt] k0N
def c01:=pC [zt] g0j
def h0q:=pC [zt] c01
def skpr22:=pC [zf,zf,zf,zf,zf,zf,zf,zf,zf,zt,zf,zt,zt,zt,zt] o0
def h0V:=pC [zf] h0q
def h0r:=pC [zf] c01
def s09:=pC [zt] h0r
def skpr24:=pC [zf,zf,zf,zf,zf,zf,zf,zf,zf,zt,zf,zt,zt,zf,zt,zt] o0
def skpr23:=pC [zf,zf,zf,zf,zf,zf,zf,zf,zf,zt,zf,zt,zt,zf,zf] o0
def h0s:=pC [zf] h0p
def skps36:=pC [zt] h0s
def skpr25:=pC [zf,zf,zf,zf,zf,zf,zf,zf,zf,zf,zt,zt] o0
def k0O:=pC [zf] skps36
def g0o:=pC [zt] k0O
def d0l:=pC [zt] g0o
def h0t:=pC [zt] d0l
def skpr26:=pC [zf,zf,zf,zf,zf,zf,zf,zf,zf,zf,zt,zf,zt,zt,zt,zt] o0
def h0W:=pC [zf] h0t
def h0u:=pC [zf] d0l
def t0a:=pC [zt] h0u
def skpr28:=pC [zf,zf,zf,zf,zf,zf,zf,zf,zf,zf,zt,zf,zt,zt,zf,zt,zt] o0
def skpr27:=pC [zf,zf,zf,zf,zf,zf,zf,zf,zf,zf,zt,zf,zt,zt,zf,zf] o0
def h0v:=pC [zf] h0s
def skps42:=pC [zt] h0v
def skpr29:=pC [zf,zf,zf,zf,zf,zf,zf,zf,zf,zf,zf,zt,zt] o0
def f0a:=pC [zf] skps42
def g0q:=pC [zt] f0a
def d0m:=pC [zt] g0q
def h0w:=pC [zt] d0m
def skpr30:=pC [zf,zf,zf,zf,zf,zf,zf,zf,zf,zf,zf,zt,zf,zt,zt,zt,zt] o0
def h0X:=pC [zf] h0w
def h0x:=pC [zf] d0m
def skpb11:=pC [zt] h0x
def d0n:=pC [zt] skpb11
def skps48:=pC [zt] d0n
def skpr32:=pC [zf,zf,zf,zf,zf,zf,zf,zf,zf,zf,zf,zt,zf,zt,zt,zf,zt,zt,zt,zt] o0
def f0e:=pC [zf] skps48
def g0r:=pC [zt] f0e
def d0C:=pC [zt] g0r
def h0y:=pC [zt] d0C
def skpr33:=pC [zf,zf,zf,zf,zf,zf,zf,zf,zf,zf,zf,zt,zf,zt,zt,zf,zt,zt,zt,zf,zt,zt,zt,zt] o0
def h0Y:=pC [zf] h0y
def h0z:=pC [zf] d0C
def f0q:=pC [zt] h0z
def skps53:=pC [zt] f0q
def skps54:=pC [zt] skps53
def skpr35:=pC [zf,zf,zf,zf,zf,zf,zf,zf,zf,zf,zf,zt,zf,zt,zt,zf,zt,zt,zt,zf,zt,zt,zf,zt,zt,zt,zt] o0
def f0P:=pC [zf] skps54
def g0F:=pC [zt] f0P
def d0G:=pC [zt] g0F
def h0A:=pC [zt] d0G
def skpr36:=pC [zf,zf,zf,zf,zf,zf,zf,zf,zf,zf,zf,zt,zf,zt,zt,zf,zt,zt,zt,zf,zt,zt,zf,zt,zt,zt,zf,zt,zt,zt,zt] o0
def h06:=pC [zf] h0A
def h0B:=pC [zf] d0G
def k0D:=pC [zt] h0B
def skpr38:=pC [zf,zf,zf,zf,zf,zf,zf,zf,zf,zf,zf,zt,zf,zt,zt,zf,zt,zt,zt,zf,zt,zt,zf,zt,zt,zt,zf,zt,zt,zf,zt,zt] o0
def skpr37:=pC [zf,zf,zf,zf,zf,zf,zf,zf,zf,zf,zf,zt,zf,zt,zt,zf,zt,zt,zt,zf,zt,zt,zf,zt,zt,zt,zf,zt,zt,zf,zf] o0
def h0C:=pC [zf] skps53
def skpr39:=pC [zf,zf,zf,zf,zf,zf,zf,zf,zf,zf,zf,zt,zf,zt,zt,zf,zt,zt,zt,zf,zt,zt,zf,zt,zt,zf,zt] o0
def l08:=pC [zf] h0C
def skpr40:=pC [zf,zf,zf,zf,zf,zf,zf,zf,zf,zf,zf,zt,zf,zt,zt,zf,zt,zt,zt,zf,zt,zt,zf,zt,zt,zf,zf,zt] o0
def skpr41:=pC [zf,zf,zf,zf,zf,zf,zf,zf,zf,zf,zf,zt,zf,zt,zt,zf,zt,zt,zt,zf,zt,zt,zf,zt,zt,zf,zf,zf] o0
def skpr34:=pC [zf,zf,zf,zf,zf,zf,zf,zf,zf,zf,zf,zt,zf,zt,zt,zf,zt,zt,zt,zf,zt,zt,zf,zf] o0
def h0D:=pC [zf] d0n
def skpr42:=pC [zf,zf,zf,zf,zf,zf,zf,zf,zf,zf,zf,zt,zf,zt,zt,zf,zt,zt,zf,zt] o0
def skps62:=pC [zf] h0D
def skpr43:=pC [zf,zf,zf,zf,zf,zf,zf,zf,zf,zf,zf,zt,zf,zt,zt,zf,zt,zt,zf,zf,zt] o0
def f0Z:=pC [zf] skps62
def g0Q:=pC [zt] f0Z
def d0H:=pC [zt] g0Q
def h0E:=pC [zt] d0H
def skpr44:=pC [zf,zf,zf,zf,zf,zf,zf,zf,zf,zf,zf,zt,zf,zt,zt,zf,zt,zt,zf,zf,zf,zt,zt,zt,zt] o0
def i0j:=pC [zf] h0E
def h0F:=pC [zf] d0H
def k0E:=pC [zt] h0F
def skpr46:=pC [zf,zf,zf,zf,zf,zf,zf,zf,zf,zf,zf,zt,zf,zt,zt,zf,zt,zt,zf,zf,zf,zt,zt,zf,zt,zt] o0
def skpr45:=pC [zf,zf,zf,zf,zf,zf,zf,zf,zf,zf,zf,zt,zf,zt,zt,zf,zt,zt,zf,zf,zf,zt,zt,zf,zf] o0
def skpr31:=pC [zf,zf,zf,zf,zf,zf,zf,zf,zf,zf,zf,zt,zf,zt,zt,zf,zf] o0
def h0G:=pC [zf] h0v
def skps68:=pC [zt] h0G
def skpr47:=pC [zf,zf,zf,zf,zf,zf,zf,zf,zf,zf,zf,zf,zt,zt] o0
def f00:=pC [zf] skps68
def g0R:=pC [zt] f00
def d0S:=pC [zt] g0R
def h0H:=pC [zt] d0S
def skpr48:=pC [zf,zf,zf,zf,zf,zf,zf,zf,zf,zf,zf,zf,zt,zf,zt,zt,zt,zt] o0
def i0u:=pC [zf] h0H
def h0I:=pC [zf] d0S
def skpb19:=pC [zt] h0I
def h0J:=pC [zt] skpb19
def skpr50:=pC [zf,zf,zf,zf,zf,zf,zf,zf,zf,zf,zf,zf,zt,zf,zt,zt,zf,zt,zt,zt] o0
def f01:=pC [zf] h0J
def g0S:=pC [zt] f01
def d0Y:=pC [zt] g0S
def h0K:=pC [zt] d0Y
def skpr51:=pC [zf,zf,zf,zf,zf,zf,zf,zf,zf,zf,zf,zf,zt,zf,zt,zt,zf,zt,zt,zf,zt,zt,zt,zt] o0
def i0w:=pC [zf] h0K
def h0L:=pC [zf] d0Y
def k0G:=pC [zt] h0L
def skps78:=pC [zf,zf,zf,zf,zf,zf,zf,zf,zf,zf,zf,zf,zt,zf,zt,zt,zf,zt,zt,zf,zt,zt,zf,zt,zt] o0
def skpr52:=pC [zf,zf,zf,zf,zf,zf,zf,zf,zf,zf,zf,zf,zt,zf,zt,zt,zf,zt,zt,zf,zt,zt,zf,zf] o0
def skpr49:=pC [zf,zf,zf,zf,zf,zf,zf,zf,zf,zf,zf,zf,zt,zf,zt,zt,zf,zf] o0
def b0X:=pC [zf] h0G
def b0P:=pC [zf,zf,zf,zf,zf,zf,zf,zf,zf,zf,zf,zf,zf,zt] o0
def W9:=pC [zf] b0X
def b0W:=pC [zf,zf,zf,zf,zf,zf,zf,zf,zf,zf,zf,zf,zf,zf,zt] o0
def b0Y:=pC [zf] W9
def c0Q:=pC [zf,zf,zf,zf,zf,zf,zf,zf,zf,zf,zf,zf,zf,zf,zf,zt] o0
theorem w0T:skps8= .seq skpr6 k0C:=by kernel_rfl
theorem w0I:k0C= .block 0 l0v:=by kernel_rfl
theorem w0S:l0v= .loop c0R:=by kernel_rfl
theorem q0w:c0R= .seq g0T g0U:=by kernel_rfl
theorem q0z:g0T= .seq skpr7 l0s:=by kernel_rfl
theorem q0g:l0s= .cond (.tmp 42) .skip (.exit 0):=by kernel_rfl
theorem q0C:g0U= .seq s08 skpr8:=by kernel_rfl
theorem w0J:s08= .block 1 skpr9:=by kernel_rfl
theorem q0t:l7= .region 10 (oC l7) true:=by kernel_rfl
theorem w0K:k0F= .block 2 f03:=by kernel_rfl
theorem q0j:f03= .loop c0S:=by kernel_rfl
theorem q0D:c0S= .seq h0k l06:=by kernel_rfl
theorem q0E:h0k= .seq skpr13 l0t:=by kernel_rfl
theorem q0h:l0t= .cond (.tmp 81) .skip (.exit 2):=by kernel_rfl
theorem w0L:k0H= .block 3 h0l:=by kernel_rfl
theorem y0C:h0l= .seq skpr15 k0L:=by kernel_rfl
theorem w0M:k0L= .block 4 g0i:=by kernel_rfl
theorem q0k:g0i= .loop c00:=by kernel_rfl
theorem q0F:c00= .seq h0m l07:=by kernel_rfl
theorem q0G:h0m= .seq skpr16 l0u:=by kernel_rfl
theorem q0i:l0u= .cond (.tmp 90) .skip (.exit 4):=by kernel_rfl
theorem y0D:l07= .seq k0M skpr17:=by kernel_rfl
theorem w0N:k0M= .block 5 h0n:=by kernel_rfl
theorem q0H:h0n= .seq h0o skpr20:=by kernel_rfl
theorem q0u:c0O= .region 18 (oC c0O) true:=by kernel_rfl
theorem q0I:skps30= .seq skpr21 k0N:=by kernel_rfl
theorem w0O:k0N= .block 6 g0j:=by kernel_rfl
theorem q0l:g0j= .loop c01:=by kernel_rfl
theorem q0J:c01= .seq h0q h0r:=by kernel_rfl
theorem q0R:h0q= .seq skpr22 h0V:=by kernel_rfl
theorem k0P:h0V= .cond (.tmp 120) .skip (.exit 6):=by kernel_rfl
theorem q0V:h0r= .seq s09 skpr23:=by kernel_rfl
theorem w0P:s09= .block 7 skpr24:=by kernel_rfl
theorem r0d:skps36= .seq skpr25 k0O:=by kernel_rfl
theorem w0Q:k0O= .block 8 g0o:=by kernel_rfl
theorem q0m:g0o= .loop d0l:=by kernel_rfl
theorem r0e:d0l= .seq h0t h0u:=by kernel_rfl
theorem r0H:h0t= .seq skpr26 h0W:=by kernel_rfl
theorem k0R:h0W= .cond (.tmp 131) .skip (.exit 8):=by kernel_rfl
theorem r0I:h0u= .seq t0a skpr27:=by kernel_rfl
theorem w0R:t0a= .block 9 skpr28:=by kernel_rfl
theorem r0J:skps42= .seq skpr29 f0a:=by kernel_rfl
theorem o0L:f0a= .block 10 g0q:=by kernel_rfl
theorem q0n:g0q= .loop d0m:=by kernel_rfl
theorem r0K:d0m= .seq h0w h0x:=by kernel_rfl
theorem r0L:h0w= .seq skpr30 h0X:=by kernel_rfl
theorem k08:h0X= .cond (.tmp 142) .skip (.exit 10):=by kernel_rfl
theorem r0W:h0x= .seq skpb11 skpr31:=by kernel_rfl
theorem o0M:skpb11= .block 11 d0n:=by kernel_rfl
theorem r0Z:d0n= .seq skps48 h0D:=by kernel_rfl
theorem r00:skps48= .seq skpr32 f0e:=by kernel_rfl
theorem o0N:f0e= .block 12 g0r:=by kernel_rfl
theorem q0o:g0r= .loop d0C:=by kernel_rfl
theorem r03:d0C= .seq h0y h0z:=by kernel_rfl
theorem r04:h0y= .seq skpr33 h0Y:=by kernel_rfl
theorem l0l:h0Y= .cond (.tmp 152) .skip (.exit 12):=by kernel_rfl
theorem r05:h0z= .seq f0q skpr34:=by kernel_rfl
theorem o0O:f0q= .block 13 skps53:=by kernel_rfl
theorem s0f:skps53= .seq skps54 h0C:=by kernel_rfl
theorem s0g:skps54= .seq skpr35 f0P:=by kernel_rfl
theorem o0P:f0P= .block 14 g0F:=by kernel_rfl
theorem q0p:g0F= .loop d0G:=by kernel_rfl
theorem s0h:d0G= .seq h0A h0B:=by kernel_rfl
theorem s0i:h0A= .seq skpr36 h06:=by kernel_rfl
theorem l0o:h06= .cond (.tmp 166) .skip (.exit 14):=by kernel_rfl
theorem s0j:h0B= .seq k0D skpr37:=by kernel_rfl
theorem o04:k0D= .block 15 skpr38:=by kernel_rfl
theorem s0v:h0C= .seq skpr39 l08:=by kernel_rfl
theorem s0w:l08= .seq skpr40 skpr41:=by kernel_rfl
theorem s0G:h0D= .seq skpr42 skps62:=by kernel_rfl
theorem s0R:skps62= .seq skpr43 f0Z:=by kernel_rfl
theorem p0e:f0Z= .block 16 g0Q:=by kernel_rfl
theorem q0q:g0Q= .loop d0H:=by kernel_rfl
theorem s0S:d0H= .seq h0E h0F:=by kernel_rfl
theorem s0T:h0E= .seq skpr44 i0j:=by kernel_rfl
theorem l0p:i0j= .cond (.tmp 208) .skip (.exit 16):=by kernel_rfl
theorem s0U:h0F= .seq k0E skpr45:=by kernel_rfl
theorem p0i:k0E= .block 17 skpr46:=by kernel_rfl
theorem s0V:skps68= .seq skpr47 f00:=by kernel_rfl
theorem p0j:f00= .block 18 g0R:=by kernel_rfl
theorem q0r:g0R= .loop d0S:=by kernel_rfl
theorem s0W:d0S= .seq h0H h0I:=by kernel_rfl
theorem s0X:h0H= .seq skpr48 i0u:=by kernel_rfl
theorem l0q:i0u= .cond (.tmp 219) .skip (.exit 18):=by kernel_rfl
theorem s0Y:h0I= .seq skpb19 skpr49:=by kernel_rfl
theorem p0k:skpb19= .block 19 h0J:=by kernel_rfl
theorem s0Z:h0J= .seq skpr50 f01:=by kernel_rfl
theorem p0A:f01= .block 20 g0S:=by kernel_rfl
theorem q0s:g0S= .loop d0Y:=by kernel_rfl
theorem s00:d0Y= .seq h0K h0L:=by kernel_rfl
theorem s01:h0K= .seq skpr51 i0w:=by kernel_rfl
theorem l0r:i0w= .cond (.tmp 229) .skip (.exit 20):=by kernel_rfl
theorem s02:h0L= .seq k0G skpr52:=by kernel_rfl
theorem p0N:k0G= .block 21 skps78:=by kernel_rfl
theorem j0M:b0Y= .seq c0Q .ret:=by kernel_rfl
theorem q0v:c0Q= .region 57 (oC c0Q) true:=by kernel_rfl
theorem i09(args:Array Value):Frame.enter Try.prog 7 args .normal=(Go.Conc.base 7).at {tmps:=args++Array.replicate (301 - args.size) undef,defers:=[]} [.code y0u]:=enter_at args Try.func7 rfl
def D1(s:Nat→Value):Array Value:= #[s 0,s 1,s 2,s 3,s 4,s 5,s 6,s 7,s 8,s 9,s 10,s 11,s 12,s 13,s 14,s 15,s 16,s 17,s 18,s 19,s 20,s 21,s 22,s 23,s 24,s 25,s 26,s 27,s 28,s 29,s 30,s 31,s 32,s 33,s 34,s 35,s 36,s 37,s 38,s 39,s 40,s 41,s 42,s 43,s 44,s 45,s 46,s 47,s 48,s 49,s 50,s 51,s 52,s 53,s 54,s 55,s 56,s 57,s 58,s 59,s 60,s 61,s 62,s 63,s 64,s 65,s 66,s 67,s 68,s 69,s 70,s 71,s 72,s 73,s 74,s 75,s 76,s 77,s 78,s 79,s 80,s 81,s 82,s 83,s 84,s 85,s 86,s 87,s 88,s 89,s 90,s 91,s 92,s 93,s 94,s 95,s 96,s 97,s 98,s 99,s 100,s 101,s 102,s 103,s 104,s 105,s 106,s 107,s 108,s 109,s 110,s 111,s 112,s 113,s 114,s 115,s 116,s 117,s 118,s 119,s 120,s 121,s 122,s 123,s 124,s 125,s 126,s 127,s 128,s 129,s 130,s 131,s 132,s 133,s 134,s 135,s 136,s 137,s 138,s 139,s 140,s 141,s 142,s 143,s 144,s 145,s 146,s 147,s 148,s 149,s 150,s 151,s 152,s 153,s 154,s 155,s 156,s 157,s 158,s 159,s 160,s 161,s 162,s 163,s 164,s 165,s 166,s 167,s 168,s 169,s 170,s 171,s 172,s 173,s 174,s 175,s 176,s 177,s 178,s 179,s 180,s 181,s 182,s 183,s 184,s 185,s 186,s 187,s 188,s 189,s 190,s 191,s 192,s 193,s 194,s 195,s 196,s 197,s 198,s 199,s 200,s 201,s 202,s 203,s 204,s 205,s 206,s 207,s 208,s 209,s 210,s 211,s 212,s 213,s 214,s 215,s 216,s 217,s 218,s 219,s 220,s 221,s 222,s 223,s 224,s 225,s 226,s 227,s 228,s 229,s 230,s 231,s 232,s 233,s 234,s 235,s 236,s 237,s 238,s 239,s 240,s 241,s 242,s 243,s 244,s 245,s 246,s 247,s 248,s 249,s 250,s 251,s 252,s 253,s 254,s 255,s 256,s 257,s 258,s 259,s 260,s 261,s 262,s 263,s 264,s 265,s 266,s 267,s 268,s 269,s 270,s 271,s 272,s 273,s 274,s 275,s 276,s 277,s 278,s 279,s 280,s 281,s 282,s 283,s 284,s 285,s 286,s 287,s 288,s 289,s 290,s 291,s 292,s 293,s 294,s 295,s 296,s 297,s 298,s 299,s 300]
theorem y0v{A:Array Value}(h:A.size=301):∃s,A=D1 s:=by
 obtain⟨s,hs,_⟩:=Y4 A h
 exact⟨s,hs⟩
theorem y0l{u0 u1 u2 u3 y0 y1 y2 y3:Value}{nn:Nat}(hU:P2 F nn)(hn:nn≤w.heap.size){cs:List Frame}{main:Bool}{Stop:Goroutine→World→Prop}
 (h:∀A,G0 301 A [(2,vP w.heap.size 0),(3,vP (w.heap.size+1) 0)]→J0 Try.prog main F Stop (G (Frame.enter Try.prog 13 #[] .normal) ((bA 7 A [.inRegion (oC c0k) [0,1],.code b0C,.code e0v])::cs)) ((w.alloc (.cells #[u0,u1,u2,u3] 26)).alloc (.cells #[y0,y1,y2,y3] 26))):
 J0 Try.prog main F Stop (G (Frame.enter Try.prog 7 #[.agg #[u0,u1,u2,u3],.agg #[y0,y1,y2,y3]] .normal) cs) w:=by
 rw[i09]
 walk_nrm
 refine ogW t0b l0w ?_
 simp only[t0b,o0,Try.f7,zz,Nat.reduceAdd]
 iterate 2 refine oA hU ?_
 refine oT ?_
 refine S0<|ogV t0c e0v<|ogW c0k b0C ?_
 simp only[c0k,o0,Try.f7,zz,Nat.reduceAdd]
 refine oc j01 #[] ?_
 refine h _ ?_
 exact⟨rfl,rfl,rfl,trivial⟩
theorem y0m{x2 x3:Value}{A:Array Value}(hA:G0 301 A [(2,x2),(3,x3)]){cs:List Frame}{main:Bool}{Stop:Goroutine→World→Prop}
 (h:∀A,G0 301 A [(2,x2),(3,x3)]→J0 Try.prog main F Stop (G (bA 7 A [.code skpr3,.code i0y]) cs) w):
 J0 Try.prog main F Stop (G ((bA 7 A [.inRegion (oC c0k) [0,1],.code b0C,.code e0v]).finish (.bool true)) cs) w:=by
 obtain⟨s,rfl,h2,h3,_⟩:=Y3 D1 hA
 simp only[D1,h2,h3]
 clear h2 h3
 rw[Frame.finish_at]
 simp only[c0k,o0,Try.f7,zz,Nat.reduceAdd]
 walk_nrm
 refine oT ?_
 refine S0<|ogGn .skip<|ogK<|ogV skpr3 i0y ?_
 refine h _ ?_
 exact⟨rfl,rfl,rfl,trivial⟩
variable{w' u u':World}
theorem n6{P:Program}{hd y:Code}{ci id:Nat}{I J:Nat→Act→World→Prop}{E:Act→World→Prop}
 (hhd:∀g a w,I g a w→hd.wp P (F7 fun a' w'=>(a'.tmps.getD ci undef= .bool true∧J g a' w')∨(a'.tmps.getD ci undef= .bool false∧E a' w')) a w)
 (hy:∀g a w,J g a w→y.wp P (F7 fun a' w'=>∃g',g'<g∧I g' a' w') a w) {g:Nat} {a:Act} {w:World} (h:I g a w):
 (Code.block id (.loop (.seq (.seq hd (.cond (.tmp ci) .skip (.exit id))) y))).wp P (F7 E) a w:=by
 refine wp_block ?_
 refine wp_loop_ghost I g h fun g a w h=>?_
 refine wp_seq (wp_seq (wp_mono (hhd g a w h) fun e a' w' q=>?_))
 cases e with
 | normal=>
   rcases q with⟨hc,hj⟩|⟨hc,he⟩
   ·refine wp_cond (t:=true) hc ?_
    refine wp_skip ?_
    refine wp_mono (hy g a' w' hj) fun e a w q=>?_
    cases e with
    | normal=>exact q
    | _=>exact q.elim
   ·refine wp_cond (t:=false) hc ?_
    refine wp_exit ?_
    show Exit.inBlock id (F7 E) (.exit id) a' w'
    simp only[Exit.inBlock,if_true]
    exact he
 | _=>exact q.elim
theorem P1{P:Program}{ops:Array Oper}{rest:List Oper}{o:Oper}{a:Act}{w:World}{Q:Exit→Act→World→Prop}(hgd:o.guard=none)(s x:Operand)(t:TypeId)
 (ho:o.op= .call {callee:=.builtin .append,args:= #[s,x],argTypes:= #[t,t]})
 (e:TypeId) (i:TypeInfo) (z:Value) (size bytes:Nat) (h1:P.underlying t=some (.slice e)) (h2:P.info? e=some i) (h3:i.zero=some z) (h4:i.size=size) (h5:i.bytes=bytes) (h6:z.cells.size=size) (h7:0<size)
 (v:Value) (n:Nat) (olds:List Value) (hs:a.eval s=v) (hown:w.ownsRow 0 e size v n olds)
 (xv:Value) (m:Nat) (news:List Value) (hx:a.eval x=xv) (hsr:g0K w xv m size news)
 (b1:n+m≤maxLen) (b2:(n+m)*bytes≤140737488355328)
 (h:∀v' w',w'.ownsRow 0 e size v' (n+m) (olds++news)→w.grownBy w' v.ownBlock→(v'.ownBlock=v.ownBlock∨∃g,v'.ownBlock=some g∧w.heap.size≤g)→w'.ownsRow 0 e size v n olds→wpList P ops Q rest (a.put o.dst v') w'):wpList P ops Q (o::rest) a w:=
 wpList_plain hgd fun _ hK=>by
  obtain⟨v',w',hrun,r1,r2,r3,r4⟩:=f0d (P:=P) (w:=w) t o.type e i z size bytes h1 h2 h3 h4 h5 h6 h7 v n olds hown xv m news hsr b1 b2
  unfold Oper.wp execOp
  simp only[ho,resolve,invoke,builtin,Sem.run_bind,Sem.run_pure,Result.andThen_ok,List.map_toArray,List.map_cons,List.map_nil,hs,hx,hrun]
  exact hK _ _ (h v' w' r1 r2 r3 r4)
structure i2(X:Nat→Prop)(w u:World):Prop where
 s:w.heap.size≤u.heap.size
 k:∀r,r<w.heap.size→¬X r→u.heap[r]? =w.heap[r]?
 f:∀(r:Nat) (c:Array Value) (e:TypeId) (z:Nat×Nat),w.heap[r]? =some (.cells c e z)→∃c',u.heap[r]? =some (.cells c' e z)∧c'.size=c.size
section
variable{X Y:Nat→Prop}
theorem i2.refl(X:Nat→Prop)(w:World):i2 X w w:=⟨Nat.le_refl _,fun _ _ _=>rfl,fun _ c _ _ h=>⟨c,h,rfl⟩⟩
theorem i2.trans(h:i2 X w u)(h':i2 X u u'):i2 X w u':=
 ⟨Nat.le_trans h.s h'.s,fun r hr hx=>(h'.k r (Nat.lt_of_lt_of_le hr h.s) hx).trans (h.k r hr hx),fun r c e z hc=>by
  obtain⟨c1,h1,h2⟩:=h.f r c e z hc
  obtain⟨c2,h3,h4⟩:=h'.f r c1 e z h1
  exact⟨c2,h3,h4.trans h2⟩⟩
theorem i2.mono(h:i2 X w u)(hX:∀r,r<w.heap.size→X r→Y r):i2 Y w u:=⟨h.s,fun r hr hy=>h.k r hr fun hx=>hy (hX r hr hx),h.f⟩
theorem i2.heap(h:i2 X w u)(e:u'.heap=u.heap):i2 X w u':=⟨by rw[e];exact h.s,fun r hr hx=>by rw[e];exact h.k r hr hx,fun r c t z hc=>by rw[e];exact h.f r c t z hc⟩
theorem i2.of_heap(e:u.heap=w.heap):i2 X w u:=(i2.refl X w).heap e
theorem i2.kept(h:S1 w u):i2 X w u:=⟨h.1,fun r hr _=>h.2 r hr,fun r c e z hc=>⟨c,(h.2 r (Q3 hc)).trans hc,rfl⟩⟩
theorem i2.set(w:World)(b o:Nat)(v:Value):i2 (fun r=>r=b) w (w.setCell ⟨b,o,none⟩ v):=
 ⟨by simp,fun r hr hx=>I0 _ _ _ hx,fun r c e z hc=>by
  by_cases hr:r=b
  ·subst hr
   exact⟨_,U1 hc v,by simp⟩
  ·exact⟨c,(I0 _ _ _ hr).trans hc,rfl⟩⟩
theorem i2.grow{v:Value}{n size:Nat}{e:TypeId}{xs:List Value}(hg:w.grownBy u v.ownBlock)(h0:w.ownsRow 0 e size v n xs)(h1:u.ownsRow 0 e size v n xs):i2 (fun r=>v.ownBlock=some r) w u:=
 ⟨hg.size,fun r hr hx=>hg.block r hr fun e=>hx e.symm,fun r c t z hc=>by
  have hr:=(Q3 hc)
  by_cases hx:v.ownBlock=some r
  ·rcases h0.2 with⟨rfl,_⟩|⟨g,cap,cur,rfl,_,h3,_,_,h6,_⟩
   ·cases hx
   ·cases hx
    rcases h1.2 with⟨e1,_⟩|⟨g',cap',cur',e1,_,h3',_,_,h6',_⟩
    ·cases e1
    ·cases e1
     simp only at hc
     rw[h3]at hc
     cases hc
     exact⟨cur',h3',by rw[h6',h6]⟩
  ·exact⟨c,(hg.block r hr fun e=>hx e.symm).trans hc,rfl⟩⟩
theorem i2.own{v:Value}{n size base:Nat}{e:TypeId}{xs:List Value}(h:i2 X w u)(hr:w.ownsRow base e size v n xs):∃ys,u.ownsRow base e size v n ys:=by
 rcases hr.2 with⟨rfl,rfl⟩|⟨g,cap,cur,rfl,h2,h3,h4,h5,h6,h7⟩
 ·exact⟨xs,hr.1,.inl ⟨rfl,rfl⟩⟩
 ·obtain⟨c',h8,h9⟩:=h.f g cur e (0,0) h3
  refine⟨c'.toList.take (n*size),?_,.inr ⟨g,cap,c',rfl,h2,h8,h4,h5,by rw[h9,h6],rfl⟩⟩
  rw[List.length_take,Array.length_toList,h9,h6,Nat.min_eq_left (Nat.mul_le_mul_right _ h4)]
theorem i2.same{v:Value}{n size base:Nat}{e:TypeId}{xs:List Value}(h:i2 X w u)(hr:w.ownsRow base e size v n xs)(hX:∀b,v.ownBlock=some b→¬X b):u.ownsRow base e size v n xs:=
 K0 hr fun b hb _=>h.k b (O3 (j4 (Nat.zero_le _) hr) hb) (hX b hb)
theorem i2.cell(h:i2 X w u){a:Addr}{v:Value}(hc:w.cell? a=some v)(hX:¬X a.block):u.cell? a=some v:=by
 obtain⟨c,e,q,hb⟩:=M3 hc
 have e1:=h.k _ (Q3 hb) hX
 rw[← hc];unfold World.cell?;simp only[e1]
end
theorem N5{v:Value}{n size:Nat}{e:TypeId}{xs:List Value}(h:w.ownsRow 0 e size v n xs){j:Nat}(hj:j<n*size):∃g c,v=vL g 0 n c∧(∃x,w.cell? ⟨g,j,none⟩=some x∧xs[j]? =some x)∧w.frozen? ⟨g,j,none⟩=false∧∃cur,w.heap[g]? =some (.cells cur e (0,0)):=by
 rcases h.2 with⟨rfl,rfl⟩|⟨g,cap,cur,rfl,h2,h3,h4,h5,h6,h7⟩
 ·omega
 ·have hjc:j<cur.size:=by rw[h6];exact Nat.lt_of_lt_of_le hj (Nat.mul_le_mul_right _ h4)
  refine⟨g,cap,rfl,⟨cur[j],?_,?_⟩,?_,cur,h3⟩
  ·simp[World.cell?,h3,hjc]
  ·rw[← h7,List.getElem?_take_of_lt hj]
   simp[hjc]
  ·simp[World.frozen?,h3]
structure InE(e:TypeId)(w:World)(L:List Int)(x:Int)(ga gc:Nat)(u:World):Prop where
 row:u.ownsRow 0 e 1 (vL ga 0 (L.length+1) gc) (L.length+1) ((L.map fun v=>vI v)++[vI x])
 k:S1 w u
 new:w.heap.size≤ga
 cap:(L.length:Int)≤(gc:Int)
theorem i0M{a:Option Addr}{c:Nat}{xs:List Int}{X:World}(h:o5 X a xs)(h0:a=none→xs=[]∧c=0):g0K X (.slice a xs.length c) xs.length 1 (xs.map fun v=>vI v):=by
 refine⟨?_,fun u hu=>by simp at hu;obtain⟨_,_,rfl⟩:=hu;rfl⟩
 cases a with
 | none=>
   obtain⟨rfl,rfl⟩:=h0 rfl
   exact .inl ⟨rfl,rfl,rfl⟩
 | some y=>
   refine .inr ⟨y,c,rfl,by simp,fun j u hu=>?_⟩
   rw[List.getElem?_map,Option.map_eq_some_iff]at hu
   obtain⟨x,hx,rfl⟩:=hu
   obtain⟨b,o,e,h1⟩:=h j x hx
   cases e
   have e2:(⟨b,o,none⟩:Addr).add j=⟨b,o+j,none⟩:=by unfold Addr.add;split<;>simp_all
   rw[e2]
   exact h1
theorem o5.allocE{va:Option Addr}{xs:List Int}{X:World}(h:o5 X va xs)(o:Obj):o5 (X.alloc o) va xs:=fun i x hx=>by
 obtain⟨b,q,e,h1⟩:=h i x hx
 exact⟨b,q,e,(O0 h1 o).1⟩
end
section
variable{w w' u u':World}
theorem j0p{X:World}:(X.alloc (.cells #[] 2)).ownsRow 0 2 1 (vL X.heap.size 0 0 0) 0 []:=
 ⟨rfl,.inr ⟨X.heap.size,0,#[],rfl,Nat.zero_le _,heap_alloc_new _ _,Nat.le_refl _,by decide,rfl,rfl⟩⟩
theorem j0y{X:World}:(X.alloc (.cells #[] 3)).ownsRow 0 3 1 (vL X.heap.size 0 0 0) 0 []:=
 ⟨rfl,.inr ⟨X.heap.size,0,#[],rfl,Nat.zero_le _,heap_alloc_new _ _,Nat.le_refl _,by decide,rfl,rfl⟩⟩
theorem e0K{X:World}:(X.alloc (.cells #[] 47)).ownsRow 0 47 4 (vL X.heap.size 0 0 0) 0 []:=
 ⟨rfl,.inr ⟨X.heap.size,0,#[],rfl,Nat.zero_le _,heap_alloc_new _ _,Nat.le_refl _,by decide,rfl,rfl⟩⟩
def t0f(vs:List Int)(b2:Nat)(x3:Value)(w:World)(a:Act)(u:World):Prop:=a.defers=[]∧∃ga gc,G0 301 a.tmps [(2,vP b2 0),(3,x3),(5,vL ga 0 (vs.length+1) gc)]∧InE 2 w vs 77 ga gc u
theorem y0n{b2 vc:Nat}{va:Option Addr}{vs:List Int}(q:w.cell? ⟨b2,0,none⟩=some (.slice va vs.length vc))(hin:o5 w va vs)(hnil:va=none→vs=[]∧vc=0)(hlen:vs.length≤1048576){x3:Value}{A:Array Value}(hA:G0 301 A [(2,vP b2 0),(3,x3)]):
 skpr3.wp Try.prog (F7 (t0f vs b2 x3 w)) ⟨A,[]⟩ w:=by
 obtain⟨i0,z0,hI,hz0,hz1,hz2,hz3⟩:=i8
 have q1:=(O0 q (.cells #[] 2)).1
 have HI:Aside (o5 w va vs∧(va=none→vs=[]∧vc=0)):=⟨hin,hnil⟩
 clear hin hnil
 obtain⟨s,rfl,k2,k3,_⟩:=Y3 D1 hA
 simp only[skpr3,o0,pC,Try.f7,Option.getD_some,D1,k2,k3]
 clear k2 k3
 go_wp2_with (first
  | (at_builtin;refine P1 rfl (.tmp 26) (.tmp 28) 22 rfl 2 i0 z0 1 8 Try.underlying22 hI hz0 hz1 hz2 hz3 (by decide) (.slice (some ⟨w.heap.size,0,none⟩) 0 0) 0 [] rfl j0p (.slice va vs.length vc) vs.length (vs.map fun v=>.int .i64 v) rfl (i0M (HI.out.1.allocE _) HI.out.2) (by unfold maxLen;omega) (by omega) ?_;intro v1 w1 g1 g2 g3 g4;have G1:Aside (w1.ownsRow 0 2 1 v1 vs.length (vs.map fun v=>.int .i64 v)∧S1 w w1∧∀g,v1.ownBlock=some g→w.heap.size≤g):=⟨by simpa using g1,⟨by have:=g2.size;simp at this;omega,fun r hr=>(g2.block r (by simp;omega) (by simp[Value.ownBlock];omega)).trans (D0 _ _ hr)⟩,fun g hg=>by rcases g3 with e|⟨q,e,h⟩;(rw[e]at hg;simp only[Value.ownBlock,Option.some.injEq]at hg;omega);(rw[e]at hg;cases hg;simp at h;omega)⟩;clear g1 g2 g3 g4)
  | (at_builtin;refine P1 rfl (.tmp 29) (.tmp 30) 22 rfl 2 i0 z0 1 8 Try.underlying22 hI hz0 hz1 hz2 hz3 (by decide) v1 vs.length (vs.map fun v=>.int .i64 v) rfl (G1.out.1.alloc _) (.slice (some ⟨w1.heap.size,0,none⟩) 1 1) 1 [.int .i64 77] rfl ⟨.inr ⟨_,1,rfl,rfl,N4 (X:=w1) (l:=[.int .i64 77]) rfl⟩,fun u hu=>by simp at hu;subst hu;rfl⟩ (by unfold maxLen;omega) (by omega) ?_;intro v2 w2 g1 g2 g3 g4)
  | go_in)
 obtain⟨h1,h2,h3⟩:=G1.out
 obtain⟨ga,gc,hv2⟩:=j5 g1
 subst hv2
 have hs2:=g2.size
 simp at hs2
 have hk2:=h2.1
 refine⟨rfl,ga,gc,⟨rfl,rfl,rfl,rfl,trivial⟩,⟨g1,⟨by omega,fun r hr=>((g2.block r (by simp;omega) fun e=>by have:=h3 r e.symm;omega).trans (D0 _ _ (Nat.lt_of_lt_of_le hr h2.1))).trans (h2.2 r hr)⟩,?_,?_⟩⟩
 ·rcases g3 with e|⟨g,e,h⟩
  ·exact h3 ga e.symm
  ·simp only[Value.ownBlock,Option.some.injEq]at e
   simp at h
   omega
 ·rcases g1.2 with⟨e,h⟩|⟨b,cap,cur,e,h3,h4,h5,h6,h7,h8⟩
  ·cases e
  ·cases e
   omega
def t0g(vs:List Int)(b2:Nat)(x3 x5:Value)(w:World)(a:Act)(u:World):Prop:=a.defers=[]∧∃ga gc,G0 301 a.tmps [(2,vP b2 0),(3,x3),(5,x5),(6,vL ga 0 (vs.length+1) gc)]∧InE 3 w vs 88 ga gc u
theorem y0o{b2 vc:Nat}{va:Option Addr}{vs:List Int}(q:w.cell? ⟨b2,2,none⟩=some (.slice va vs.length vc))(hin:o5 w va vs)(hnil:va=none→vs=[]∧vc=0)(hlen:vs.length≤1048576){x3 x5:Value}{A:Array Value}(hA:G0 301 A [(2,vP b2 0),(3,x3),(5,x5)]):
 skpr4.wp Try.prog (F7 (t0g vs b2 x3 x5 w)) ⟨A,[]⟩ w:=by
 obtain⟨i0,z0,hI,hz0,hz1,hz2,hz3⟩:=t0j
 have q1:=(O0 q (.cells #[] 3)).1
 have HI:Aside (o5 w va vs∧(va=none→vs=[]∧vc=0)):=⟨hin,hnil⟩
 clear hin hnil
 obtain⟨s,rfl,k2,k3,k5,_⟩:=Y3 D1 hA
 simp only[skpr4,o0,pC,Try.f7,Option.getD_some,D1,k2,k3,k5]
 clear k2 k3 k5
 go_wp2_with (first
  | (at_builtin;refine P1 rfl (.tmp 32) (.tmp 34) 24 rfl 3 i0 z0 1 8 Try.underlying24 hI hz0 hz1 hz2 hz3 (by decide) (.slice (some ⟨w.heap.size,0,none⟩) 0 0) 0 [] rfl j0y (.slice va vs.length vc) vs.length (vs.map fun v=>.int .i64 v) rfl (i0M (HI.out.1.allocE _) HI.out.2) (by unfold maxLen;omega) (by omega) ?_;intro v1 w1 g1 g2 g3 g4;have G1:Aside (w1.ownsRow 0 3 1 v1 vs.length (vs.map fun v=>.int .i64 v)∧S1 w w1∧∀g,v1.ownBlock=some g→w.heap.size≤g):=⟨by simpa using g1,⟨by have:=g2.size;simp at this;omega,fun r hr=>(g2.block r (by simp;omega) (by simp[Value.ownBlock];omega)).trans (D0 _ _ hr)⟩,fun g hg=>by rcases g3 with e|⟨q,e,h⟩;(rw[e]at hg;simp only[Value.ownBlock,Option.some.injEq]at hg;omega);(rw[e]at hg;cases hg;simp at h;omega)⟩;clear g1 g2 g3 g4)
  | (at_builtin;refine P1 rfl (.tmp 35) (.tmp 36) 24 rfl 3 i0 z0 1 8 Try.underlying24 hI hz0 hz1 hz2 hz3 (by decide) v1 vs.length (vs.map fun v=>.int .i64 v) rfl (G1.out.1.alloc _) (.slice (some ⟨w1.heap.size,0,none⟩) 1 1) 1 [.int .i64 88] rfl ⟨.inr ⟨_,1,rfl,rfl,N4 (X:=w1) (l:=[.int .i64 88]) rfl⟩,fun u hu=>by simp at hu;subst hu;rfl⟩ (by unfold maxLen;omega) (by omega) ?_;intro v2 w2 g1 g2 g3 g4)
  | go_in)
 obtain⟨h1,h2,h3⟩:=G1.out
 obtain⟨ga,gc,hv2⟩:=j5 g1
 subst hv2
 have hs2:=g2.size
 simp at hs2
 have hk2:=h2.1
 refine⟨rfl,ga,gc,⟨rfl,rfl,rfl,rfl,rfl,trivial⟩,⟨g1,⟨by omega,fun r hr=>((g2.block r (by simp;omega) fun e=>by have:=h3 r e.symm;omega).trans (D0 _ _ (Nat.lt_of_lt_of_le hr h2.1))).trans (h2.2 r hr)⟩,?_,?_⟩⟩
 ·rcases g3 with e|⟨g,e,h⟩
  ·exact h3 ga e.symm
  ·simp only[Value.ownBlock,Option.some.injEq]at e
   simp at h
   omega
 ·rcases g1.2 with⟨e,h⟩|⟨b,cap,cur,e,h3,h4,h5,h6,h7,h8⟩
  ·cases e
  ·cases e
   omega
theorem y0p {x2 x3 x5 x6:Value}{A:Array Value}(hA:G0 301 A [(2,x2),(3,x3),(5,x5),(6,x6)]):
 skpr5.wp Try.prog (F7 fun a u=>a.defers=[]∧G0 301 a.tmps [(2,x2),(3,x3),(5,x5),(6,x6),(7,.slice none 0 0)]∧u.heap=w.heap) ⟨A,[]⟩ w:=by
 obtain⟨s,rfl,k2,k3,k5,k6,_⟩:=Y3 D1 hA
 simp only[skpr5,o0,pC,Try.f7,Option.getD_some,D1,k2,k3,k5,k6]
 clear k2 k3 k5 k6
 go_wp2
 exact⟨rfl,⟨rfl,rfl,rfl,rfl,rfl,rfl,trivial⟩,rfl⟩
theorem y0q {x2 x3 x5 x6 x7:Value}{A:Array Value}(hA:G0 301 A [(2,x2),(3,x3),(5,x5),(6,x6),(7,x7)]):
 skpr6.wp Try.prog (F7 fun a u=>a.defers=[]∧G0 301 a.tmps [(2,x2),(3,x3),(5,x5),(6,x6),(7,x7),(8,vI (0:Nat))]∧u.heap=w.heap) ⟨A,[]⟩ w:=by
 obtain⟨s,rfl,k2,k3,k5,k6,k7,_⟩:=Y3 D1 hA
 simp only[skpr6,o0,pC,Try.f7,Option.getD_some,D1,k2,k3,k5,k6,k7]
 clear k2 k3 k5 k6 k7
 go_wp2
 exact⟨rfl,⟨rfl,rfl,rfl,rfl,rfl,rfl,rfl,trivial⟩,rfl⟩
theorem y0r{b2 i tl tc:Nat}{ta:Option Addr}(q:w.cell? ⟨b2,1,none⟩=some (.slice ta tl tc)){x3 x5 x6 x7:Value}{A:Array Value}(hA:G0 301 A [(2,vP b2 0),(3,x3),(5,x5),(6,x6),(7,x7),(8,vI i)]):
 skpr7.wp Try.prog (F7 fun a u=>a.defers=[]∧G0 301 a.tmps [(2,vP b2 0),(3,x3),(5,x5),(6,x6),(7,x7),(8,vI i),(42,.bool (decide (i<tl)))]∧u.heap=w.heap) ⟨A,[]⟩ w:=by
 obtain⟨s,rfl,k2,k3,k5,k6,k7,k8,_⟩:=Y3 D1 hA
 simp only[skpr7,o0,pC,Try.f7,Option.getD_some,D1,k2,k3,k5,k6,k7,k8]
 clear k2 k3 k5 k6 k7 k8
 go_wp2
 exact⟨rfl,⟨rfl,rfl,rfl,rfl,rfl,rfl,rfl,rfl,trivial⟩,rfl⟩
theorem y0s{i:Nat}(hi:i<1000000000000){x2 x3 x5 x6 x7:Value}{A:Array Value}(hA:G0 301 A [(2,x2),(3,x3),(5,x5),(6,x6),(7,x7),(8,vI i)]):
 skpr8.wp Try.prog (F7 fun a u=>a.defers=[]∧G0 301 a.tmps [(2,x2),(3,x3),(5,x5),(6,x6),(7,x7),(8,vI (i+1:Nat))]∧u.heap=w.heap) ⟨A,[]⟩ w:=by
 have hwr:IntKind.i64.wrap ((i:Int)+1)=((i+1:Nat):Int):=IntWalk.i64_in _ (by omega)
 obtain⟨s,rfl,k2,k3,k5,k6,k7,k8,_⟩:=Y3 D1 hA
 simp only[skpr8,o0,pC,Try.f7,Option.getD_some,D1,k2,k3,k5,k6,k7,k8]
 clear k2 k3 k5 k6 k7 k8
 go_wp2
 exact⟨rfl,⟨rfl,rfl,rfl,rfl,rfl,rfl,rfl,trivial⟩,rfl⟩
structure Cp(w:World)(ov:Value)(k:Nat)(cs:List Value)(l:List P3)(v':Value)(u:World):Prop where
 x:∃x u1,d07 w u1 x l∧u.ownsRow 0 34 1 v' (k+1) (cs++[x])∧u1.heap.size≤u.heap.size∧(∀r,r<u1.heap.size→some r≠ov.ownBlock→u.heap[r]? =u1.heap[r]?)∧(v'.ownBlock=ov.ownBlock∨∃g,v'.ownBlock=some g∧u1.heap.size≤g)
def t0h(b2 i k:Nat)(ov:Value)(cs:List Value)(l:List P3)(x3 x5 x6:Value)(w:World)(a:Act)(u:World):Prop:=a.defers=[]∧∃v',G0 301 a.tmps [(2,vP b2 0),(3,x3),(5,x5),(6,x6),(7,v'),(8,vI i)]∧Cp w ov k cs l v' u
theorem y0t{b2 i tl tc tb to k rc:Nat}{ra:Option Addr}{ov:Value}{cs:List Value}{l:List P3}(q:w.cell? ⟨b2,1,none⟩=some (vL tb to tl tc))(hi:i<tl)(h0:w.cell? ⟨tb,to+i,none⟩=some (.slice ra l.length rc))(hk:k<1048577)(hl:l.length<1048577)(hr:w.ownsRow 0 34 1 ov k cs)(hsr:g0K (w.alloc (.cells #[] 47)) (.slice ra l.length rc) l.length 4 (opC l)){x3 x5 x6:Value}{A:Array Value}(hA:G0 301 A [(2,vP b2 0),(3,x3),(5,x5),(6,x6),(7,ov),(8,vI i)]):
 skpr9.wp Try.prog (F7 (t0h b2 i k ov cs l x3 x5 x6 w)) ⟨A,[]⟩ w:=by
 obtain⟨i0,z0,hI,hz0,hz1,hz2,hz3⟩:=n0e
 obtain⟨i1,z1,hI1,hy0,hy1,hy2,hy3⟩:=m0X
 have hi2:(i:Int)<(tl:Int):=by omega
 have q1:=(O0 q (.cells #[] 47)).1
 have h01:=(O0 h0 (.cells #[] 47)).1
 have R:Aside (w.ownsRow 0 34 1 ov k cs∧g0K (w.alloc (.cells #[] 47)) (.slice ra l.length rc) l.length 4 (opC l)):=⟨hr,hsr⟩
 clear hr hsr
 obtain⟨s,rfl,k2,k3,k5,k6,k7,k8,_⟩:=Y3 D1 hA
 simp only[skpr9,o0,pC,Try.f7,Option.getD_some,D1,k2,k3,k5,k6,k7,k8]
 clear k2 k3 k5 k6 k7 k8
 go_wp2_with (first
  | (at_builtin;refine P1 rfl (.tmp 46) (.tmp 51) 34 rfl 47 i0 z0 4 32 Try.underlying34 hI hz0 hz1 hz2 hz3 (by decide) (.slice (some ⟨w.heap.size,0,none⟩) 0 0) 0 [] rfl e0K (.slice ra l.length rc) l.length (opC l) rfl R.out.2 (by unfold maxLen;omega) (by omega) ?_;intro v1 w1 g1 g2 g3 g4;rw[Nat.zero_add,List.nil_append]at g1;obtain⟨na,nc,rfl⟩:=S2 g1;have hs1:=g2.size;have G1:Aside (d07 w w1 (.slice na l.length nc) l∧w.heap.size+1≤w1.heap.size∧∀r,r<w.heap.size→w1.heap[r]? =w.heap[r]?):=⟨⟨g1,⟨by simp at hs1;omega,fun r hr=>(g2.block r (by simp;omega) (by simp[Value.ownBlock];omega)).trans (D0 _ _ hr)⟩,fun g hg=>by rcases g3 with e|⟨q,e,h⟩;(rw[e]at hg;simp only[Value.ownBlock,Option.some.injEq]at hg;omega);(rw[e]at hg;cases hg;simp at h;omega)⟩,by simpa using hs1,fun r hr=>(g2.block r (by simp;omega) (by simp[Value.ownBlock];omega)).trans (D0 _ _ hr)⟩;clear g1 g2 g3 g4 hs1)
  | (at_builtin;refine P1 rfl (.tmp 45) (.tmp 53) 23 rfl 34 i1 z1 1 24 Try.underlying23 hI1 hy0 hy1 hy2 hy3 (by decide) ov k cs rfl (World.ownsRow.alloc (K0 R.out.1 fun b hb _=>G1.out.2.2 b (O3 R.out.1 hb)) _) (.slice (some ⟨w1.heap.size,0,none⟩) 1 1) 1 [.slice na l.length nc] rfl ⟨.inr ⟨_,1,rfl,rfl,N4 (X:=w1) (l:=[.slice na l.length nc]) rfl⟩,fun u hu=>by simp at hu;subst hu;rfl⟩ (by unfold maxLen;omega) (by omega) ?_;intro v2 w2 g1 g2 g3 g4)
  | go_in)
 have hs2:=g2.size
 refine⟨rfl,v2,⟨rfl,rfl,rfl,rfl,rfl,rfl,rfl,trivial⟩,⟨_,w1,G1.out.1,g1,by simp at hs2;omega,fun r hr hn=>(g2.block r (by simp;omega) hn).trans (D0 _ _ hr),g3.imp id fun⟨g,h1,h2⟩=>⟨g,h1,by simp at h2;omega⟩⟩⟩
end
section
variable{w w' u u':World}
theorem t0s {x2 x3 x5 x6 x7 x9 x10:Value}{A:Array Value}(hA:G0 301 A [(2,x2),(3,x3),(5,x5),(6,x6),(7,x7),(9,x9),(10,x10)]):
 skpr12.wp Try.prog (F7 fun a u=>a.defers=[]∧G0 301 a.tmps [(2,x2),(3,x3),(5,x5),(6,x6),(7,x7),(9,x9),(10,x10),(11,vI (0:Nat))]∧u.heap=w.heap) ⟨A,[]⟩ w:=by
 obtain⟨s,rfl,k2,k3,k5,k6,k7,k9,k10,_⟩:=Y3 D1 hA
 simp only[skpr12,o0,pC,Try.f7,Option.getD_some,D1,k2,k3,k5,k6,k7,k9,k10]
 clear k2 k3 k5 k6 k7 k9 k10
 go_wp2
 exact⟨rfl,⟨rfl,rfl,rfl,rfl,rfl,rfl,rfl,rfl,rfl,trivial⟩,rfl⟩
theorem t0t{tn tc i:Nat}{ta:Option Addr}{x2 x3 x5 x6 x9 x10:Value}{A:Array Value}(hA:G0 301 A [(2,x2),(3,x3),(5,x5),(6,x6),(7,.slice ta tn tc),(9,x9),(10,x10),(11,vI i)]):
 skpr13.wp Try.prog (F7 fun a u=>a.defers=[]∧G0 301 a.tmps [(2,x2),(3,x3),(5,x5),(6,x6),(7,.slice ta tn tc),(9,x9),(10,x10),(11,vI i),(81,.bool (decide (i<tn)))]∧u.heap=w.heap) ⟨A,[]⟩ w:=by
 obtain⟨s,rfl,k2,k3,k5,k6,k7,k9,k10,k11,_⟩:=Y3 D1 hA
 simp only[skpr13,o0,pC,Try.f7,Option.getD_some,D1,k2,k3,k5,k6,k7,k9,k10,k11]
 clear k2 k3 k5 k6 k7 k9 k10 k11
 go_wp2
 exact⟨rfl,⟨rfl,rfl,rfl,rfl,rfl,rfl,rfl,rfl,rfl,rfl,trivial⟩,rfl⟩
theorem t0u{i:Nat}(hi:i<1000000000000){x2 x3 x5 x6 x7 x9 x10:Value}{A:Array Value}(hA:G0 301 A [(2,x2),(3,x3),(5,x5),(6,x6),(7,x7),(9,x9),(10,x10),(11,vI i)]):
 skpr14.wp Try.prog (F7 fun a u=>a.defers=[]∧G0 301 a.tmps [(2,x2),(3,x3),(5,x5),(6,x6),(7,x7),(9,x9),(10,x10),(11,vI (i+1:Nat))]∧u.heap=w.heap) ⟨A,[]⟩ w:=by
 have hwr:IntKind.i64.wrap ((i:Int)+1)=((i+1:Nat):Int):=IntWalk.i64_in _ (by omega)
 obtain⟨s,rfl,k2,k3,k5,k6,k7,k9,k10,k11,_⟩:=Y3 D1 hA
 simp only[skpr14,o0,pC,Try.f7,Option.getD_some,D1,k2,k3,k5,k6,k7,k9,k10,k11]
 clear k2 k3 k5 k6 k7 k9 k10 k11
 go_wp2
 exact⟨rfl,⟨rfl,rfl,rfl,rfl,rfl,rfl,rfl,rfl,rfl,trivial⟩,rfl⟩
theorem t0v {x2 x3 x5 x6 x7 x9 x10 x11:Value}{A:Array Value}(hA:G0 301 A [(2,x2),(3,x3),(5,x5),(6,x6),(7,x7),(9,x9),(10,x10),(11,x11)]):
 skpr15.wp Try.prog (F7 fun a u=>a.defers=[]∧G0 301 a.tmps [(2,x2),(3,x3),(5,x5),(6,x6),(7,x7),(9,x9),(10,x10),(11,x11),(12,vI (0:Nat))]∧u.heap=w.heap) ⟨A,[]⟩ w:=by
 obtain⟨s,rfl,k2,k3,k5,k6,k7,k9,k10,k11,_⟩:=Y3 D1 hA
 simp only[skpr15,o0,pC,Try.f7,Option.getD_some,D1,k2,k3,k5,k6,k7,k9,k10,k11]
 clear k2 k3 k5 k6 k7 k9 k10 k11
 go_wp2
 exact⟨rfl,⟨rfl,rfl,rfl,rfl,rfl,rfl,rfl,rfl,rfl,rfl,trivial⟩,rfl⟩
theorem t0w{tb tn tc i k rl rc:Nat}{ra:Option Addr}(hi:i<tn)(h0:w.cell? ⟨tb,i,none⟩=some (.slice ra rl rc)){x2 x3 x5 x6 x9 x10:Value}{A:Array Value}(hA:G0 301 A [(2,x2),(3,x3),(5,x5),(6,x6),(7,vL tb 0 tn tc),(9,x9),(10,x10),(11,vI i),(12,vI k)]):
 skpr16.wp Try.prog (F7 fun a u=>a.defers=[]∧G0 301 a.tmps [(2,x2),(3,x3),(5,x5),(6,x6),(7,vL tb 0 tn tc),(9,x9),(10,x10),(11,vI i),(12,vI k),(90,.bool (decide (k<rl)))]∧u.heap=w.heap) ⟨A,[]⟩ w:=by
 have hi2:(i:Int)<(tn:Int):=by omega
 obtain⟨s,rfl,k2,k3,k5,k6,k7,k9,k10,k11,k12,_⟩:=Y3 D1 hA
 simp only[skpr16,o0,pC,Try.f7,Option.getD_some,D1,k2,k3,k5,k6,k7,k9,k10,k11,k12]
 clear k2 k3 k5 k6 k7 k9 k10 k11 k12
 go_wp2
 exact⟨rfl,⟨rfl,rfl,rfl,rfl,rfl,rfl,rfl,rfl,rfl,rfl,rfl,trivial⟩,rfl⟩
theorem t0x{i:Nat}(hi:i<1000000000000){x2 x3 x5 x6 x7 x9 x10 x11:Value}{A:Array Value}(hA:G0 301 A [(2,x2),(3,x3),(5,x5),(6,x6),(7,x7),(9,x9),(10,x10),(11,x11),(12,vI i)]):
 skpr17.wp Try.prog (F7 fun a u=>a.defers=[]∧G0 301 a.tmps [(2,x2),(3,x3),(5,x5),(6,x6),(7,x7),(9,x9),(10,x10),(11,x11),(12,vI (i+1:Nat))]∧u.heap=w.heap) ⟨A,[]⟩ w:=by
 have hwr:IntKind.i64.wrap ((i:Int)+1)=((i+1:Nat):Int):=IntWalk.i64_in _ (by omega)
 obtain⟨s,rfl,k2,k3,k5,k6,k7,k9,k10,k11,k12,_⟩:=Y3 D1 hA
 simp only[skpr17,o0,pC,Try.f7,Option.getD_some,D1,k2,k3,k5,k6,k7,k9,k10,k11,k12]
 clear k2 k3 k5 k6 k7 k9 k10 k11 k12
 go_wp2
 exact⟨rfl,⟨rfl,rfl,rfl,rfl,rfl,rfl,rfl,rfl,rfl,rfl,trivial⟩,rfl⟩
theorem t0y{tb tn tc i k rb rl rc:Nat}(hi:i<tn)(hk:k<rl)(h0:w.cell? ⟨tb,i,none⟩=some (vL rb 0 rl rc)){y0:Value}(f0:w.cell? ⟨rb,k*4,none⟩=some y0){y1:Value}(f1:w.cell? ⟨rb,k*4+1,none⟩=some y1){y2:Value}(f2:w.cell? ⟨rb,k*4+2,none⟩=some y2){y3:Value}(f3:w.cell? ⟨rb,k*4+3,none⟩=some y3)(z0:w.frozen? ⟨rb,k*4,none⟩=false)(z1:w.frozen? ⟨rb,k*4+1,none⟩=false)(z2:w.frozen? ⟨rb,k*4+2,none⟩=false)(z3:w.frozen? ⟨rb,k*4+3,none⟩=false){x2 x3 x5 x6 x9 x10:Value}{A:Array Value}(hA:G0 301 A [(2,x2),(3,x3),(5,x5),(6,x6),(7,vL tb 0 tn tc),(9,x9),(10,x10),(11,vI i),(12,vI k)]):
 skpr20.wp Try.prog (F7 fun a u=>a.defers=[]∧G0 301 a.tmps [(2,x2),(3,x3),(5,x5),(6,x6),(7,vL tb 0 tn tc),(9,x9),(10,x10),(11,vI i),(12,vI k)]∧u.heap=((((w.setCell ⟨rb,k*4,none⟩ (vI 99)).setCell ⟨rb,k*4+1,none⟩ (vI 0)).setCell ⟨rb,k*4+2,none⟩ (vI 0)).setCell ⟨rb,k*4+3,none⟩ (vI 0)).heap) ⟨A,[]⟩ w:=by
 have hi2:(i:Int)<(tn:Int):=by omega
 have hk2:(k:Int)<(rl:Int):=by omega
 obtain⟨s,rfl,k2,k3,k5,k6,k7,k9,k10,k11,k12,_⟩:=Y3 D1 hA
 simp only[skpr20,o0,pC,Try.f7,Option.getD_some,D1,k2,k3,k5,k6,k7,k9,k10,k11,k12]
 clear k2 k3 k5 k6 k7 k9 k10 k11 k12
 go_wp2
 exact⟨rfl,⟨rfl,rfl,rfl,rfl,rfl,rfl,rfl,rfl,rfl,rfl,trivial⟩,rfl⟩
theorem t0z {x2 x3 x5 x6 x7 x9 x10:Value}{A:Array Value}(hA:G0 301 A [(2,x2),(3,x3),(5,x5),(6,x6),(7,x7),(9,x9),(10,x10)]):
 skpr21.wp Try.prog (F7 fun a u=>a.defers=[]∧G0 301 a.tmps [(2,x2),(3,x3),(5,x5),(6,x6),(7,x7),(9,x9),(10,x10),(13,vI (0:Nat))]∧u.heap=w.heap) ⟨A,[]⟩ w:=by
 obtain⟨s,rfl,k2,k3,k5,k6,k7,k9,k10,_⟩:=Y3 D1 hA
 simp only[skpr21,o0,pC,Try.f7,Option.getD_some,D1,k2,k3,k5,k6,k7,k9,k10]
 clear k2 k3 k5 k6 k7 k9 k10
 go_wp2
 exact⟨rfl,⟨rfl,rfl,rfl,rfl,rfl,rfl,rfl,rfl,rfl,trivial⟩,rfl⟩
theorem t0A{ba i n c:Nat}{a9:Option Addr}(q:w.cell? ⟨ba,2,none⟩=some (.slice a9 n c)){x2 x3 x5 x6 x7 x10:Value}{A:Array Value}(hA:G0 301 A [(2,x2),(3,x3),(5,x5),(6,x6),(7,x7),(9,vP ba 0),(10,x10),(13,vI i)]):
 skpr22.wp Try.prog (F7 fun a u=>a.defers=[]∧G0 301 a.tmps [(2,x2),(3,x3),(5,x5),(6,x6),(7,x7),(9,vP ba 0),(10,x10),(13,vI i),(120,.bool (decide (i<n)))]∧u.heap=w.heap) ⟨A,[]⟩ w:=by
 obtain⟨s,rfl,k2,k3,k5,k6,k7,k9,k10,k13,_⟩:=Y3 D1 hA
 simp only[skpr22,o0,pC,Try.f7,Option.getD_some,D1,k2,k3,k5,k6,k7,k9,k10,k13]
 clear k2 k3 k5 k6 k7 k9 k10 k13
 go_wp2
 exact⟨rfl,⟨rfl,rfl,rfl,rfl,rfl,rfl,rfl,rfl,rfl,rfl,trivial⟩,rfl⟩
theorem t0B{i:Nat}(hi:i<1000000000000){x2 x3 x5 x6 x7 x9 x10:Value}{A:Array Value}(hA:G0 301 A [(2,x2),(3,x3),(5,x5),(6,x6),(7,x7),(9,x9),(10,x10),(13,vI i)]):
 skpr23.wp Try.prog (F7 fun a u=>a.defers=[]∧G0 301 a.tmps [(2,x2),(3,x3),(5,x5),(6,x6),(7,x7),(9,x9),(10,x10),(13,vI (i+1:Nat))]∧u.heap=w.heap) ⟨A,[]⟩ w:=by
 have hwr:IntKind.i64.wrap ((i:Int)+1)=((i+1:Nat):Int):=IntWalk.i64_in _ (by omega)
 obtain⟨s,rfl,k2,k3,k5,k6,k7,k9,k10,k13,_⟩:=Y3 D1 hA
 simp only[skpr23,o0,pC,Try.f7,Option.getD_some,D1,k2,k3,k5,k6,k7,k9,k10,k13]
 clear k2 k3 k5 k6 k7 k9 k10 k13
 go_wp2
 exact⟨rfl,⟨rfl,rfl,rfl,rfl,rfl,rfl,rfl,rfl,rfl,trivial⟩,rfl⟩
theorem t0C{ba i n c g:Nat}{y:Value}(q:w.cell? ⟨ba,2,none⟩=some (vL g 0 n c))(hi:i<n)(f0:w.cell? ⟨g,i,none⟩=some y)(z0:w.frozen? ⟨g,i,none⟩=false){x2 x3 x5 x6 x7 x10:Value}{A:Array Value}(hA:G0 301 A [(2,x2),(3,x3),(5,x5),(6,x6),(7,x7),(9,vP ba 0),(10,x10),(13,vI i)]):
 skpr24.wp Try.prog (F7 fun a u=>a.defers=[]∧G0 301 a.tmps [(2,x2),(3,x3),(5,x5),(6,x6),(7,x7),(9,vP ba 0),(10,x10),(13,vI i)]∧u.heap=(w.setCell ⟨g,i,none⟩ (vI (-1))).heap) ⟨A,[]⟩ w:=by
 have hi2:(i:Int)<(n:Int):=by omega
 obtain⟨s,rfl,k2,k3,k5,k6,k7,k9,k10,k13,_⟩:=Y3 D1 hA
 simp only[skpr24,o0,pC,Try.f7,Option.getD_some,D1,k2,k3,k5,k6,k7,k9,k10,k13]
 clear k2 k3 k5 k6 k7 k9 k10 k13
 go_wp2
 exact⟨rfl,⟨rfl,rfl,rfl,rfl,rfl,rfl,rfl,rfl,rfl,trivial⟩,rfl⟩
theorem t0D {x2 x3 x5 x6 x7 x9 x10:Value}{A:Array Value}(hA:G0 301 A [(2,x2),(3,x3),(5,x5),(6,x6),(7,x7),(9,x9),(10,x10)]):
 skpr25.wp Try.prog (F7 fun a u=>a.defers=[]∧G0 301 a.tmps [(2,x2),(3,x3),(5,x5),(6,x6),(7,x7),(9,x9),(10,x10),(14,vI (0:Nat))]∧u.heap=w.heap) ⟨A,[]⟩ w:=by
 obtain⟨s,rfl,k2,k3,k5,k6,k7,k9,k10,_⟩:=Y3 D1 hA
 simp only[skpr25,o0,pC,Try.f7,Option.getD_some,D1,k2,k3,k5,k6,k7,k9,k10]
 clear k2 k3 k5 k6 k7 k9 k10
 go_wp2
 exact⟨rfl,⟨rfl,rfl,rfl,rfl,rfl,rfl,rfl,rfl,rfl,trivial⟩,rfl⟩
theorem t0O{ba i n c:Nat}{a9:Option Addr}(q:w.cell? ⟨ba,1,none⟩=some (.slice a9 n c)){x2 x3 x5 x6 x7 x10:Value}{A:Array Value}(hA:G0 301 A [(2,x2),(3,x3),(5,x5),(6,x6),(7,x7),(9,vP ba 0),(10,x10),(14,vI i)]):
 skpr26.wp Try.prog (F7 fun a u=>a.defers=[]∧G0 301 a.tmps [(2,x2),(3,x3),(5,x5),(6,x6),(7,x7),(9,vP ba 0),(10,x10),(14,vI i),(131,.bool (decide (i<n)))]∧u.heap=w.heap) ⟨A,[]⟩ w:=by
 obtain⟨s,rfl,k2,k3,k5,k6,k7,k9,k10,k14,_⟩:=Y3 D1 hA
 simp only[skpr26,o0,pC,Try.f7,Option.getD_some,D1,k2,k3,k5,k6,k7,k9,k10,k14]
 clear k2 k3 k5 k6 k7 k9 k10 k14
 go_wp2
 exact⟨rfl,⟨rfl,rfl,rfl,rfl,rfl,rfl,rfl,rfl,rfl,rfl,trivial⟩,rfl⟩
theorem t0P{i:Nat}(hi:i<1000000000000){x2 x3 x5 x6 x7 x9 x10:Value}{A:Array Value}(hA:G0 301 A [(2,x2),(3,x3),(5,x5),(6,x6),(7,x7),(9,x9),(10,x10),(14,vI i)]):
 skpr27.wp Try.prog (F7 fun a u=>a.defers=[]∧G0 301 a.tmps [(2,x2),(3,x3),(5,x5),(6,x6),(7,x7),(9,x9),(10,x10),(14,vI (i+1:Nat))]∧u.heap=w.heap) ⟨A,[]⟩ w:=by
 have hwr:IntKind.i64.wrap ((i:Int)+1)=((i+1:Nat):Int):=IntWalk.i64_in _ (by omega)
 obtain⟨s,rfl,k2,k3,k5,k6,k7,k9,k10,k14,_⟩:=Y3 D1 hA
 simp only[skpr27,o0,pC,Try.f7,Option.getD_some,D1,k2,k3,k5,k6,k7,k9,k10,k14]
 clear k2 k3 k5 k6 k7 k9 k10 k14
 go_wp2
 exact⟨rfl,⟨rfl,rfl,rfl,rfl,rfl,rfl,rfl,rfl,rfl,trivial⟩,rfl⟩
theorem t0Q{ba i n c g:Nat}{y:Value}(q:w.cell? ⟨ba,1,none⟩=some (vL g 0 n c))(hi:i<n)(f0:w.cell? ⟨g,i,none⟩=some y)(z0:w.frozen? ⟨g,i,none⟩=false){x2 x3 x5 x6 x7 x10:Value}{A:Array Value}(hA:G0 301 A [(2,x2),(3,x3),(5,x5),(6,x6),(7,x7),(9,vP ba 0),(10,x10),(14,vI i)]):
 skpr28.wp Try.prog (F7 fun a u=>a.defers=[]∧G0 301 a.tmps [(2,x2),(3,x3),(5,x5),(6,x6),(7,x7),(9,vP ba 0),(10,x10),(14,vI i)]∧u.heap=(w.setCell ⟨g,i,none⟩ (vI (-1))).heap) ⟨A,[]⟩ w:=by
 have hi2:(i:Int)<(n:Int):=by omega
 obtain⟨s,rfl,k2,k3,k5,k6,k7,k9,k10,k14,_⟩:=Y3 D1 hA
 simp only[skpr28,o0,pC,Try.f7,Option.getD_some,D1,k2,k3,k5,k6,k7,k9,k10,k14]
 clear k2 k3 k5 k6 k7 k9 k10 k14
 go_wp2
 exact⟨rfl,⟨rfl,rfl,rfl,rfl,rfl,rfl,rfl,rfl,rfl,trivial⟩,rfl⟩
end
section
variable{w w' u u':World}
theorem t0R {x2 x3 x5 x6 x7 x9 x10:Value}{A:Array Value}(hA:G0 301 A [(2,x2),(3,x3),(5,x5),(6,x6),(7,x7),(9,x9),(10,x10)]):
 skpr29.wp Try.prog (F7 fun a u=>a.defers=[]∧G0 301 a.tmps [(2,x2),(3,x3),(5,x5),(6,x6),(7,x7),(9,x9),(10,x10),(15,vI (0:Nat))]∧u.heap=w.heap) ⟨A,[]⟩ w:=by
 obtain⟨s,rfl,k2,k3,k5,k6,k7,k9,k10,_⟩:=Y3 D1 hA
 simp only[skpr29,o0,pC,Try.f7,Option.getD_some,D1,k2,k3,k5,k6,k7,k9,k10]
 clear k2 k3 k5 k6 k7 k9 k10
 go_wp2
 exact⟨rfl,⟨rfl,rfl,rfl,rfl,rfl,rfl,rfl,rfl,rfl,trivial⟩,rfl⟩
theorem t0S{ba aa n i:Nat}(q:w.cell? ⟨ba,0,none⟩=some (vL aa 0 n n)){x2 x3 x5 x6 x7 x10:Value}{A:Array Value}(hA:G0 301 A [(2,x2),(3,x3),(5,x5),(6,x6),(7,x7),(9,vP ba 0),(10,x10),(15,vI i)]):
 skpr30.wp Try.prog (F7 fun a u=>a.defers=[]∧G0 301 a.tmps [(2,x2),(3,x3),(5,x5),(6,x6),(7,x7),(9,vP ba 0),(10,x10),(15,vI i),(142,.bool (decide (i<n)))]∧u.heap=w.heap) ⟨A,[]⟩ w:=by
 obtain⟨s,rfl,k2,k3,k5,k6,k7,k9,k10,k15,_⟩:=Y3 D1 hA
 simp only[skpr30,o0,pC,Try.f7,Option.getD_some,D1,k2,k3,k5,k6,k7,k9,k10,k15]
 clear k2 k3 k5 k6 k7 k9 k10 k15
 go_wp2
 exact⟨rfl,⟨rfl,rfl,rfl,rfl,rfl,rfl,rfl,rfl,rfl,rfl,trivial⟩,rfl⟩
theorem t0Z{i:Nat}(hi:i<1000000000000){x2 x3 x5 x6 x7 x9 x10:Value}{A:Array Value}(hA:G0 301 A [(2,x2),(3,x3),(5,x5),(6,x6),(7,x7),(9,x9),(10,x10),(15,vI i)]):
 skpr31.wp Try.prog (F7 fun a u=>a.defers=[]∧G0 301 a.tmps [(2,x2),(3,x3),(5,x5),(6,x6),(7,x7),(9,x9),(10,x10),(15,vI (i+1:Nat))]∧u.heap=w.heap) ⟨A,[]⟩ w:=by
 have hwr:IntKind.i64.wrap ((i:Int)+1)=((i+1:Nat):Int):=IntWalk.i64_in _ (by omega)
 obtain⟨s,rfl,k2,k3,k5,k6,k7,k9,k10,k15,_⟩:=Y3 D1 hA
 simp only[skpr31,o0,pC,Try.f7,Option.getD_some,D1,k2,k3,k5,k6,k7,k9,k10,k15]
 clear k2 k3 k5 k6 k7 k9 k10 k15
 go_wp2
 exact⟨rfl,⟨rfl,rfl,rfl,rfl,rfl,rfl,rfl,rfl,rfl,trivial⟩,rfl⟩
theorem t01 {x2 x3 x5 x6 x7 x9 x10 x15:Value}{A:Array Value}(hA:G0 301 A [(2,x2),(3,x3),(5,x5),(6,x6),(7,x7),(9,x9),(10,x10),(15,x15)]):
 skpr32.wp Try.prog (F7 fun a u=>a.defers=[]∧G0 301 a.tmps [(2,x2),(3,x3),(5,x5),(6,x6),(7,x7),(9,x9),(10,x10),(15,x15),(16,vI (0:Nat))]∧u.heap=w.heap) ⟨A,[]⟩ w:=by
 obtain⟨s,rfl,k2,k3,k5,k6,k7,k9,k10,k15,_⟩:=Y3 D1 hA
 simp only[skpr32,o0,pC,Try.f7,Option.getD_some,D1,k2,k3,k5,k6,k7,k9,k10,k15]
 clear k2 k3 k5 k6 k7 k9 k10 k15
 go_wp2
 exact⟨rfl,⟨rfl,rfl,rfl,rfl,rfl,rfl,rfl,rfl,rfl,rfl,trivial⟩,rfl⟩
theorem t02{ba aa n i k al ac:Nat}{ra:Option Addr}(q:w.cell? ⟨ba,0,none⟩=some (vL aa 0 n n))(hi:i<n)(h0:w.cell? ⟨aa,i,none⟩=some (.slice ra al ac)){x2 x3 x5 x6 x7 x10:Value}{A:Array Value}(hA:G0 301 A [(2,x2),(3,x3),(5,x5),(6,x6),(7,x7),(9,vP ba 0),(10,x10),(15,vI i),(16,vI k)]):
 skpr33.wp Try.prog (F7 fun a u=>a.defers=[]∧G0 301 a.tmps [(2,x2),(3,x3),(5,x5),(6,x6),(7,x7),(9,vP ba 0),(10,x10),(15,vI i),(16,vI k),(152,.bool (decide (k<al)))]∧u.heap=w.heap) ⟨A,[]⟩ w:=by
 have hi2:(i:Int)<(n:Int):=by omega
 obtain⟨s,rfl,k2,k3,k5,k6,k7,k9,k10,k15,k16,_⟩:=Y3 D1 hA
 simp only[skpr33,o0,pC,Try.f7,Option.getD_some,D1,k2,k3,k5,k6,k7,k9,k10,k15,k16]
 clear k2 k3 k5 k6 k7 k9 k10 k15 k16
 go_wp2
 exact⟨rfl,⟨rfl,rfl,rfl,rfl,rfl,rfl,rfl,rfl,rfl,rfl,rfl,trivial⟩,rfl⟩
theorem t03{i:Nat}(hi:i<1000000000000){x2 x3 x5 x6 x7 x9 x10 x15:Value}{A:Array Value}(hA:G0 301 A [(2,x2),(3,x3),(5,x5),(6,x6),(7,x7),(9,x9),(10,x10),(15,x15),(16,vI i)]):
 skpr34.wp Try.prog (F7 fun a u=>a.defers=[]∧G0 301 a.tmps [(2,x2),(3,x3),(5,x5),(6,x6),(7,x7),(9,x9),(10,x10),(15,x15),(16,vI (i+1:Nat))]∧u.heap=w.heap) ⟨A,[]⟩ w:=by
 have hwr:IntKind.i64.wrap ((i:Int)+1)=((i+1:Nat):Int):=IntWalk.i64_in _ (by omega)
 obtain⟨s,rfl,k2,k3,k5,k6,k7,k9,k10,k15,k16,_⟩:=Y3 D1 hA
 simp only[skpr34,o0,pC,Try.f7,Option.getD_some,D1,k2,k3,k5,k6,k7,k9,k10,k15,k16]
 clear k2 k3 k5 k6 k7 k9 k10 k15 k16
 go_wp2
 exact⟨rfl,⟨rfl,rfl,rfl,rfl,rfl,rfl,rfl,rfl,rfl,rfl,trivial⟩,rfl⟩
theorem t04 {x2 x3 x5 x6 x7 x9 x10 x15 x16:Value}{A:Array Value}(hA:G0 301 A [(2,x2),(3,x3),(5,x5),(6,x6),(7,x7),(9,x9),(10,x10),(15,x15),(16,x16)]):
 skpr35.wp Try.prog (F7 fun a u=>a.defers=[]∧G0 301 a.tmps [(2,x2),(3,x3),(5,x5),(6,x6),(7,x7),(9,x9),(10,x10),(15,x15),(16,x16),(17,vI (0:Nat))]∧u.heap=w.heap) ⟨A,[]⟩ w:=by
 obtain⟨s,rfl,k2,k3,k5,k6,k7,k9,k10,k15,k16,_⟩:=Y3 D1 hA
 simp only[skpr35,o0,pC,Try.f7,Option.getD_some,D1,k2,k3,k5,k6,k7,k9,k10,k15,k16]
 clear k2 k3 k5 k6 k7 k9 k10 k15 k16
 go_wp2
 exact⟨rfl,⟨rfl,rfl,rfl,rfl,rfl,rfl,rfl,rfl,rfl,rfl,rfl,trivial⟩,rfl⟩
theorem t05{ba aa n i k al ac rb ll lc j:Nat}{la:Option Addr}(q:w.cell? ⟨ba,0,none⟩=some (vL aa 0 n n))(hi:i<n)(h0:w.cell? ⟨aa,i,none⟩=some (vL rb 0 al ac))(hk:k<al)(g2:w.cell? ⟨rb,k*3+2,none⟩=some (.slice la ll lc)){x2 x3 x5 x6 x7 x10:Value}{A:Array Value}(hA:G0 301 A [(2,x2),(3,x3),(5,x5),(6,x6),(7,x7),(9,vP ba 0),(10,x10),(15,vI i),(16,vI k),(17,vI j)]):
 skpr36.wp Try.prog (F7 fun a u=>a.defers=[]∧G0 301 a.tmps [(2,x2),(3,x3),(5,x5),(6,x6),(7,x7),(9,vP ba 0),(10,x10),(15,vI i),(16,vI k),(17,vI j),(166,.bool (decide (j<ll)))]∧u.heap=w.heap) ⟨A,[]⟩ w:=by
 have hi2:(i:Int)<(n:Int):=by omega
 have hk2:(k:Int)<(al:Int):=by omega
 obtain⟨s,rfl,k2,k3,k5,k6,k7,k9,k10,k15,k16,k17,_⟩:=Y3 D1 hA
 simp only[skpr36,o0,pC,Try.f7,Option.getD_some,D1,k2,k3,k5,k6,k7,k9,k10,k15,k16,k17]
 clear k2 k3 k5 k6 k7 k9 k10 k15 k16 k17
 go_wp2
 exact⟨rfl,⟨rfl,rfl,rfl,rfl,rfl,rfl,rfl,rfl,rfl,rfl,rfl,rfl,trivial⟩,rfl⟩
theorem t07{i:Nat}(hi:i<1000000000000){x2 x3 x5 x6 x7 x9 x10 x15 x16:Value}{A:Array Value}(hA:G0 301 A [(2,x2),(3,x3),(5,x5),(6,x6),(7,x7),(9,x9),(10,x10),(15,x15),(16,x16),(17,vI i)]):
 skpr37.wp Try.prog (F7 fun a u=>a.defers=[]∧G0 301 a.tmps [(2,x2),(3,x3),(5,x5),(6,x6),(7,x7),(9,x9),(10,x10),(15,x15),(16,x16),(17,vI (i+1:Nat))]∧u.heap=w.heap) ⟨A,[]⟩ w:=by
 have hwr:IntKind.i64.wrap ((i:Int)+1)=((i+1:Nat):Int):=IntWalk.i64_in _ (by omega)
 obtain⟨s,rfl,k2,k3,k5,k6,k7,k9,k10,k15,k16,k17,_⟩:=Y3 D1 hA
 simp only[skpr37,o0,pC,Try.f7,Option.getD_some,D1,k2,k3,k5,k6,k7,k9,k10,k15,k16,k17]
 clear k2 k3 k5 k6 k7 k9 k10 k15 k16 k17
 go_wp2
 exact⟨rfl,⟨rfl,rfl,rfl,rfl,rfl,rfl,rfl,rfl,rfl,rfl,rfl,trivial⟩,rfl⟩
theorem t08{ba aa n i k al ac rb ll lc j lb:Nat}{y:Value}(q:w.cell? ⟨ba,0,none⟩=some (vL aa 0 n n))(hi:i<n)(h0:w.cell? ⟨aa,i,none⟩=some (vL rb 0 al ac))(hk:k<al)(g2:w.cell? ⟨rb,k*3+2,none⟩=some (vL lb 0 ll lc))(hj:j<ll)(f0:w.cell? ⟨lb,j,none⟩=some y)(z0:w.frozen? ⟨lb,j,none⟩=false){x2 x3 x5 x6 x7 x10:Value}{A:Array Value}(hA:G0 301 A [(2,x2),(3,x3),(5,x5),(6,x6),(7,x7),(9,vP ba 0),(10,x10),(15,vI i),(16,vI k),(17,vI j)]):
 skpr38.wp Try.prog (F7 fun a u=>a.defers=[]∧G0 301 a.tmps [(2,x2),(3,x3),(5,x5),(6,x6),(7,x7),(9,vP ba 0),(10,x10),(15,vI i),(16,vI k),(17,vI j)]∧u.heap=(w.setCell ⟨lb,j,none⟩ (vI (-3))).heap) ⟨A,[]⟩ w:=by
 have hi2:(i:Int)<(n:Int):=by omega
 have hk2:(k:Int)<(al:Int):=by omega
 have hj2:(j:Int)<(ll:Int):=by omega
 obtain⟨s,rfl,k2,k3,k5,k6,k7,k9,k10,k15,k16,k17,_⟩:=Y3 D1 hA
 simp only[skpr38,o0,pC,Try.f7,Option.getD_some,D1,k2,k3,k5,k6,k7,k9,k10,k15,k16,k17]
 clear k2 k3 k5 k6 k7 k9 k10 k15 k16 k17
 go_wp2
 exact⟨rfl,⟨rfl,rfl,rfl,rfl,rfl,rfl,rfl,rfl,rfl,rfl,rfl,trivial⟩,rfl⟩
structure App(w1 u:World)(e:TypeId)(sz:Nat)(v:Value)(n:Nat)(xs:List Value)(v':Value)(news:List Value):Prop where
 r0:w1.ownsRow 0 e sz v n xs
 r1:u.ownsRow 0 e sz v' (n+1) (xs++news)
 g:w1.grownBy u v.ownBlock
 b:v'.ownBlock=v.ownBlock∨∃g,v'.ownBlock=some g∧w1.heap.size≤g
 r2:u.ownsRow 0 e sz v n xs
theorem App.off{w1 u:World}{e:TypeId}{sz n:Nat}{v v':Value}{xs news:List Value}(h:App w1 u e sz v n xs v' news):i2 (fun r=>v.ownBlock=some r) w1 u:=i2.grow h.g h.r0 h.r2
theorem u0i{ba aa n i k al ac rb ll lc:Nat}{la:Option Addr}{xs:List Value}(q:w.cell? ⟨ba,0,none⟩=some (vL aa 0 n n))(hi:i<n)(h0:w.cell? ⟨aa,i,none⟩=some (vL rb 0 al ac))(hk:k<al)(g2:w.cell? ⟨rb,k*3+2,none⟩=some (.slice la ll lc))(hll:ll<1000000000)(hr:w.ownsRow 0 2 1 (.slice la ll lc) ll xs){x2 x3 x5 x6 x7 x10:Value}{A:Array Value}(hA:G0 301 A [(2,x2),(3,x3),(5,x5),(6,x6),(7,x7),(9,vP ba 0),(10,x10),(15,vI i),(16,vI k)]):
 skpr39.wp Try.prog (F7 fun a u=>a.defers=[]∧∃v' w1,G0 301 a.tmps [(2,x2),(3,x3),(5,x5),(6,x6),(7,x7),(9,vP ba 0),(10,x10),(15,vI i),(16,vI k),(18,v')]∧S1 w w1∧w.heap.size<w1.heap.size∧App w1 u 2 1 (.slice la ll lc) ll xs v' [vI (-4)]) ⟨A,[]⟩ w:=by
 have hi2:(i:Int)<(n:Int):=by omega
 have hk2:(k:Int)<(al:Int):=by omega
 obtain⟨i0,z0,hI,hz0,hz1,hz2,hz3⟩:=i8
 have R:Aside (w.ownsRow 0 2 1 (.slice la ll lc) ll xs):=hr
 clear hr
 obtain⟨s,rfl,k2,k3,k5,k6,k7,k9,k10,k15,k16,_⟩:=Y3 D1 hA
 simp only[skpr39,o0,pC,Try.f7,Option.getD_some,D1,k2,k3,k5,k6,k7,k9,k10,k15,k16]
 clear k2 k3 k5 k6 k7 k9 k10 k15 k16
 go_wp2_with (first
  | (at_builtin;refine P1 rfl (.tmp 188) (.tmp 189) 22 rfl 2 i0 z0 1 8 Try.underlying22 hI hz0 hz1 hz2 hz3 (by decide) (.slice la ll lc) ll xs rfl (R.out.alloc _) (.slice (some ⟨w.heap.size,0,none⟩) 1 1) 1 [.int .i64 (-4)] rfl ⟨.inr ⟨_,1,rfl,rfl,N4 (X:=w) (l:=[.int .i64 (-4)]) rfl⟩,fun u hu=>by simp at hu;rcases hu with rfl<;>rfl⟩ (by unfold maxLen;omega) (by omega) ?_;intro v2 w2 g1 g2 g3 g4)
  | go_in)
 exact⟨rfl,v2,_,⟨rfl,rfl,rfl,rfl,rfl,rfl,rfl,rfl,rfl,rfl,rfl,trivial⟩,S1.alloc w _,by simp,⟨R.out.alloc _,g1,g2,g3,g4⟩⟩
theorem u0t{ll lc:Nat}{la:Option Addr}{xs:List Value}(hll:ll<1000000000)(hr:w.ownsRow 0 2 1 (.slice la ll lc) ll xs){x2 x3 x5 x6 x7 x9 x10 x15 x16:Value}{A:Array Value}(hA:G0 301 A [(2,x2),(3,x3),(5,x5),(6,x6),(7,x7),(9,x9),(10,x10),(15,x15),(16,x16),(18,.slice la ll lc)]):
 skpr40.wp Try.prog (F7 fun a u=>a.defers=[]∧∃v' w1,G0 301 a.tmps [(2,x2),(3,x3),(5,x5),(6,x6),(7,x7),(9,x9),(10,x10),(15,x15),(16,x16),(18,v')]∧S1 w w1∧w.heap.size<w1.heap.size∧App w1 u 2 1 (.slice la ll lc) ll xs v' [vI (-4)]) ⟨A,[]⟩ w:=by
 obtain⟨i0,z0,hI,hz0,hz1,hz2,hz3⟩:=i8
 have R:Aside (w.ownsRow 0 2 1 (.slice la ll lc) ll xs):=hr
 clear hr
 obtain⟨s,rfl,k2,k3,k5,k6,k7,k9,k10,k15,k16,k18,_⟩:=Y3 D1 hA
 simp only[skpr40,o0,pC,Try.f7,Option.getD_some,D1,k2,k3,k5,k6,k7,k9,k10,k15,k16,k18]
 clear k2 k3 k5 k6 k7 k9 k10 k15 k16 k18
 go_wp2_with (first
  | (at_builtin;refine P1 rfl (.tmp 191) (.tmp 192) 22 rfl 2 i0 z0 1 8 Try.underlying22 hI hz0 hz1 hz2 hz3 (by decide) (.slice la ll lc) ll xs rfl (R.out.alloc _) (.slice (some ⟨w.heap.size,0,none⟩) 1 1) 1 [.int .i64 (-4)] rfl ⟨.inr ⟨_,1,rfl,rfl,N4 (X:=w) (l:=[.int .i64 (-4)]) rfl⟩,fun u hu=>by simp at hu;rcases hu with rfl<;>rfl⟩ (by unfold maxLen;omega) (by omega) ?_;intro v2 w2 g1 g2 g3 g4)
  | go_in)
 exact⟨rfl,v2,_,⟨rfl,rfl,rfl,rfl,rfl,rfl,rfl,rfl,rfl,rfl,rfl,trivial⟩,S1.alloc w _,by simp,⟨R.out.alloc _,g1,g2,g3,g4⟩⟩
theorem u0u{ba aa n i k al ac rb:Nat}{y0 y1 y2:Value}(q:w.cell? ⟨ba,0,none⟩=some (vL aa 0 n n))(hi:i<n)(h0:w.cell? ⟨aa,i,none⟩=some (vL rb 0 al ac))(hk:k<al)(f0:w.cell? ⟨rb,k*3,none⟩=some y0)(f1:w.cell? ⟨rb,k*3+1,none⟩=some y1)(f2:w.cell? ⟨rb,k*3+2,none⟩=some y2)(z0:w.frozen? ⟨rb,k*3,none⟩=false)(z1:w.frozen? ⟨rb,k*3+1,none⟩=false)(z2:w.frozen? ⟨rb,k*3+2,none⟩=false){x2 x3 x5 x6 x7 x10:Value}{A:Array Value}(hA:G0 301 A [(2,x2),(3,x3),(5,x5),(6,x6),(7,x7),(9,vP ba 0),(10,x10),(15,vI i),(16,vI k)]):
 skpr41.wp Try.prog (F7 fun a u=>a.defers=[]∧G0 301 a.tmps [(2,x2),(3,x3),(5,x5),(6,x6),(7,x7),(9,vP ba 0),(10,x10),(15,vI i),(16,vI k)]∧u.heap=(((w.setCell ⟨rb,k*3,none⟩ (.bool false)).setCell ⟨rb,k*3+1,none⟩ (vI (-1))).setCell ⟨rb,k*3+2,none⟩ (.slice none 0 0)).heap) ⟨A,[]⟩ w:=by
 have hi2:(i:Int)<(n:Int):=by omega
 have hk2:(k:Int)<(al:Int):=by omega
 obtain⟨s,rfl,k2,k3,k5,k6,k7,k9,k10,k15,k16,_⟩:=Y3 D1 hA
 simp only[skpr41,o0,pC,Try.f7,Option.getD_some,D1,k2,k3,k5,k6,k7,k9,k10,k15,k16]
 clear k2 k3 k5 k6 k7 k9 k10 k15 k16
 go_wp2
 exact⟨rfl,⟨rfl,rfl,rfl,rfl,rfl,rfl,rfl,rfl,rfl,rfl,trivial⟩,rfl⟩
theorem u0v{ba aa n i al ac:Nat}{ra:Option Addr}(q:w.cell? ⟨ba,0,none⟩=some (vL aa 0 n n))(hi:i<n)(h0:w.cell? ⟨aa,i,none⟩=some (.slice ra al ac)){x2 x3 x5 x6 x7 x10:Value}{A:Array Value}(hA:G0 301 A [(2,x2),(3,x3),(5,x5),(6,x6),(7,x7),(9,vP ba 0),(10,x10),(15,vI i)]):
 skpr42.wp Try.prog (F7 fun a u=>a.defers=[]∧G0 301 a.tmps [(2,x2),(3,x3),(5,x5),(6,x6),(7,x7),(9,vP ba 0),(10,x10),(15,vI i),(19,.slice ra al ac)]∧u.heap=w.heap) ⟨A,[]⟩ w:=by
 have hi2:(i:Int)<(n:Int):=by omega
 obtain⟨s,rfl,k2,k3,k5,k6,k7,k9,k10,k15,_⟩:=Y3 D1 hA
 simp only[skpr42,o0,pC,Try.f7,Option.getD_some,D1,k2,k3,k5,k6,k7,k9,k10,k15]
 clear k2 k3 k5 k6 k7 k9 k10 k15
 go_wp2
 exact⟨rfl,⟨rfl,rfl,rfl,rfl,rfl,rfl,rfl,rfl,rfl,rfl,trivial⟩,rfl⟩
theorem u0w {x2 x3 x5 x6 x7 x9 x10 x15 x19:Value}{A:Array Value}(hA:G0 301 A [(2,x2),(3,x3),(5,x5),(6,x6),(7,x7),(9,x9),(10,x10),(15,x15),(19,x19)]):
 skpr43.wp Try.prog (F7 fun a u=>a.defers=[]∧G0 301 a.tmps [(2,x2),(3,x3),(5,x5),(6,x6),(7,x7),(9,x9),(10,x10),(15,x15),(19,x19),(20,vI (0:Nat))]∧u.heap=w.heap) ⟨A,[]⟩ w:=by
 obtain⟨s,rfl,k2,k3,k5,k6,k7,k9,k10,k15,k19,_⟩:=Y3 D1 hA
 simp only[skpr43,o0,pC,Try.f7,Option.getD_some,D1,k2,k3,k5,k6,k7,k9,k10,k15,k19]
 clear k2 k3 k5 k6 k7 k9 k10 k15 k19
 go_wp2
 exact⟨rfl,⟨rfl,rfl,rfl,rfl,rfl,rfl,rfl,rfl,rfl,rfl,rfl,trivial⟩,rfl⟩
theorem u0x{i:Nat}{x2 x3 x5 x6 x7 x9 x10 x15 x19:Value}{A:Array Value}(hA:G0 301 A [(2,x2),(3,x3),(5,x5),(6,x6),(7,x7),(9,x9),(10,x10),(15,x15),(19,x19),(20,vI i)]):
 skpr44.wp Try.prog (F7 fun a u=>a.defers=[]∧G0 301 a.tmps [(2,x2),(3,x3),(5,x5),(6,x6),(7,x7),(9,x9),(10,x10),(15,x15),(19,x19),(20,vI i),(208,.bool (decide ((i:Int)<8)))]∧u.heap=w.heap) ⟨A,[]⟩ w:=by
 obtain⟨s,rfl,k2,k3,k5,k6,k7,k9,k10,k15,k19,k20,_⟩:=Y3 D1 hA
 simp only[skpr44,o0,pC,Try.f7,Option.getD_some,D1,k2,k3,k5,k6,k7,k9,k10,k15,k19,k20]
 clear k2 k3 k5 k6 k7 k9 k10 k15 k19 k20
 go_wp2
 exact⟨rfl,⟨rfl,rfl,rfl,rfl,rfl,rfl,rfl,rfl,rfl,rfl,rfl,rfl,trivial⟩,rfl⟩
theorem u0y{i:Nat}(hi:i<1000000000000){x2 x3 x5 x6 x7 x9 x10 x15 x19:Value}{A:Array Value}(hA:G0 301 A [(2,x2),(3,x3),(5,x5),(6,x6),(7,x7),(9,x9),(10,x10),(15,x15),(19,x19),(20,vI i)]):
 skpr45.wp Try.prog (F7 fun a u=>a.defers=[]∧G0 301 a.tmps [(2,x2),(3,x3),(5,x5),(6,x6),(7,x7),(9,x9),(10,x10),(15,x15),(19,x19),(20,vI (i+1:Nat))]∧u.heap=w.heap) ⟨A,[]⟩ w:=by
 have hwr:IntKind.i64.wrap ((i:Int)+1)=((i+1:Nat):Int):=IntWalk.i64_in _ (by omega)
 obtain⟨s,rfl,k2,k3,k5,k6,k7,k9,k10,k15,k19,k20,_⟩:=Y3 D1 hA
 simp only[skpr45,o0,pC,Try.f7,Option.getD_some,D1,k2,k3,k5,k6,k7,k9,k10,k15,k19,k20]
 clear k2 k3 k5 k6 k7 k9 k10 k15 k19 k20
 go_wp2
 exact⟨rfl,⟨rfl,rfl,rfl,rfl,rfl,rfl,rfl,rfl,rfl,rfl,rfl,trivial⟩,rfl⟩
theorem u0z{ll lc:Nat}{la:Option Addr}{xs:List Value}(hll:ll<1000000000)(hr:w.ownsRow 0 44 3 (.slice la ll lc) ll xs){x2 x3 x5 x6 x7 x9 x10 x15 x20:Value}{A:Array Value}(hA:G0 301 A [(2,x2),(3,x3),(5,x5),(6,x6),(7,x7),(9,x9),(10,x10),(15,x15),(19,.slice la ll lc),(20,x20)]):
 skpr46.wp Try.prog (F7 fun a u=>a.defers=[]∧∃v' w1,G0 301 a.tmps [(2,x2),(3,x3),(5,x5),(6,x6),(7,x7),(9,x9),(10,x10),(15,x15),(19,v'),(20,x20)]∧S1 w w1∧w.heap.size<w1.heap.size∧App w1 u 44 3 (.slice la ll lc) ll xs v' [.bool false,vI (-2),.slice none 0 0]) ⟨A,[]⟩ w:=by
 obtain⟨i0,z0,hI,hz0,hz1,hz2,hz3⟩:=m08
 have R:Aside (w.ownsRow 0 44 3 (.slice la ll lc) ll xs):=hr
 clear hr
 obtain⟨s,rfl,k2,k3,k5,k6,k7,k9,k10,k15,k19,k20,_⟩:=Y3 D1 hA
 simp only[skpr46,o0,pC,Try.f7,Option.getD_some,D1,k2,k3,k5,k6,k7,k9,k10,k15,k19,k20]
 clear k2 k3 k5 k6 k7 k9 k10 k15 k19 k20
 go_wp2_with (first
  | (at_builtin;refine P1 rfl (.tmp 211) (.tmp 213) 42 rfl 44 i0 z0 3 40 Try.underlying42 hI hz0 hz1 hz2 hz3 (by decide) (.slice la ll lc) ll xs rfl (R.out.alloc _) (.slice (some ⟨w.heap.size,0,none⟩) 1 1) 1 [.bool false,.int .i64 (-2),.slice none 0 0] rfl ⟨.inr ⟨_,1,rfl,rfl,N4 (X:=w) (l:=[.bool false,.int .i64 (-2),.slice none 0 0]) rfl⟩,fun u hu=>by simp at hu;rcases hu with rfl|rfl|rfl<;>rfl⟩ (by unfold maxLen;omega) (by omega) ?_;intro v2 w2 g1 g2 g3 g4)
  | go_in)
 exact⟨rfl,v2,_,⟨rfl,rfl,rfl,rfl,rfl,rfl,rfl,rfl,rfl,rfl,rfl,trivial⟩,S1.alloc w _,by simp,⟨R.out.alloc _,g1,g2,g3,g4⟩⟩
theorem u0A {x2 x3 x5 x6 x7 x9 x10:Value}{A:Array Value}(hA:G0 301 A [(2,x2),(3,x3),(5,x5),(6,x6),(7,x7),(9,x9),(10,x10)]):
 skpr47.wp Try.prog (F7 fun a u=>a.defers=[]∧G0 301 a.tmps [(2,x2),(3,x3),(5,x5),(6,x6),(7,x7),(9,x9),(10,x10),(21,vI (0:Nat))]∧u.heap=w.heap) ⟨A,[]⟩ w:=by
 obtain⟨s,rfl,k2,k3,k5,k6,k7,k9,k10,_⟩:=Y3 D1 hA
 simp only[skpr47,o0,pC,Try.f7,Option.getD_some,D1,k2,k3,k5,k6,k7,k9,k10]
 clear k2 k3 k5 k6 k7 k9 k10
 go_wp2
 exact⟨rfl,⟨rfl,rfl,rfl,rfl,rfl,rfl,rfl,rfl,rfl,trivial⟩,rfl⟩
theorem u0B{ba aa n i:Nat}(q:w.cell? ⟨ba,0,none⟩=some (vL aa 0 n n)){x2 x3 x5 x6 x7 x10:Value}{A:Array Value}(hA:G0 301 A [(2,x2),(3,x3),(5,x5),(6,x6),(7,x7),(9,vP ba 0),(10,x10),(21,vI i)]):
 skpr48.wp Try.prog (F7 fun a u=>a.defers=[]∧G0 301 a.tmps [(2,x2),(3,x3),(5,x5),(6,x6),(7,x7),(9,vP ba 0),(10,x10),(21,vI i),(219,.bool (decide (i<n)))]∧u.heap=w.heap) ⟨A,[]⟩ w:=by
 obtain⟨s,rfl,k2,k3,k5,k6,k7,k9,k10,k21,_⟩:=Y3 D1 hA
 simp only[skpr48,o0,pC,Try.f7,Option.getD_some,D1,k2,k3,k5,k6,k7,k9,k10,k21]
 clear k2 k3 k5 k6 k7 k9 k10 k21
 go_wp2
 exact⟨rfl,⟨rfl,rfl,rfl,rfl,rfl,rfl,rfl,rfl,rfl,rfl,trivial⟩,rfl⟩
theorem u0C{i:Nat}(hi:i<1000000000000){x2 x3 x5 x6 x7 x9 x10:Value}{A:Array Value}(hA:G0 301 A [(2,x2),(3,x3),(5,x5),(6,x6),(7,x7),(9,x9),(10,x10),(21,vI i)]):
 skpr49.wp Try.prog (F7 fun a u=>a.defers=[]∧G0 301 a.tmps [(2,x2),(3,x3),(5,x5),(6,x6),(7,x7),(9,x9),(10,x10),(21,vI (i+1:Nat))]∧u.heap=w.heap) ⟨A,[]⟩ w:=by
 have hwr:IntKind.i64.wrap ((i:Int)+1)=((i+1:Nat):Int):=IntWalk.i64_in _ (by omega)
 obtain⟨s,rfl,k2,k3,k5,k6,k7,k9,k10,k21,_⟩:=Y3 D1 hA
 simp only[skpr49,o0,pC,Try.f7,Option.getD_some,D1,k2,k3,k5,k6,k7,k9,k10,k21]
 clear k2 k3 k5 k6 k7 k9 k10 k21
 go_wp2
 exact⟨rfl,⟨rfl,rfl,rfl,rfl,rfl,rfl,rfl,rfl,rfl,trivial⟩,rfl⟩
theorem u0R {x2 x3 x5 x6 x7 x9 x10 x21:Value}{A:Array Value}(hA:G0 301 A [(2,x2),(3,x3),(5,x5),(6,x6),(7,x7),(9,x9),(10,x10),(21,x21)]):
 skpr50.wp Try.prog (F7 fun a u=>a.defers=[]∧G0 301 a.tmps [(2,x2),(3,x3),(5,x5),(6,x6),(7,x7),(9,x9),(10,x10),(21,x21),(22,vI (0:Nat))]∧u.heap=w.heap) ⟨A,[]⟩ w:=by
 obtain⟨s,rfl,k2,k3,k5,k6,k7,k9,k10,k21,_⟩:=Y3 D1 hA
 simp only[skpr50,o0,pC,Try.f7,Option.getD_some,D1,k2,k3,k5,k6,k7,k9,k10,k21]
 clear k2 k3 k5 k6 k7 k9 k10 k21
 go_wp2
 exact⟨rfl,⟨rfl,rfl,rfl,rfl,rfl,rfl,rfl,rfl,rfl,rfl,trivial⟩,rfl⟩
theorem v0p{ba aa n i k al ac:Nat}{ra:Option Addr}(q:w.cell? ⟨ba,0,none⟩=some (vL aa 0 n n))(hi:i<n)(h0:w.cell? ⟨aa,i,none⟩=some (.slice ra al ac)){x2 x3 x5 x6 x7 x10:Value}{A:Array Value}(hA:G0 301 A [(2,x2),(3,x3),(5,x5),(6,x6),(7,x7),(9,vP ba 0),(10,x10),(21,vI i),(22,vI k)]):
 skpr51.wp Try.prog (F7 fun a u=>a.defers=[]∧G0 301 a.tmps [(2,x2),(3,x3),(5,x5),(6,x6),(7,x7),(9,vP ba 0),(10,x10),(21,vI i),(22,vI k),(229,.bool (decide (k<al)))]∧u.heap=w.heap) ⟨A,[]⟩ w:=by
 have hi2:(i:Int)<(n:Int):=by omega
 obtain⟨s,rfl,k2,k3,k5,k6,k7,k9,k10,k21,k22,_⟩:=Y3 D1 hA
 simp only[skpr51,o0,pC,Try.f7,Option.getD_some,D1,k2,k3,k5,k6,k7,k9,k10,k21,k22]
 clear k2 k3 k5 k6 k7 k9 k10 k21 k22
 go_wp2
 exact⟨rfl,⟨rfl,rfl,rfl,rfl,rfl,rfl,rfl,rfl,rfl,rfl,rfl,trivial⟩,rfl⟩
theorem v0q{i:Nat}(hi:i<1000000000000){x2 x3 x5 x6 x7 x9 x10 x21:Value}{A:Array Value}(hA:G0 301 A [(2,x2),(3,x3),(5,x5),(6,x6),(7,x7),(9,x9),(10,x10),(21,x21),(22,vI i)]):
 skpr52.wp Try.prog (F7 fun a u=>a.defers=[]∧G0 301 a.tmps [(2,x2),(3,x3),(5,x5),(6,x6),(7,x7),(9,x9),(10,x10),(21,x21),(22,vI (i+1:Nat))]∧u.heap=w.heap) ⟨A,[]⟩ w:=by
 have hwr:IntKind.i64.wrap ((i:Int)+1)=((i+1:Nat):Int):=IntWalk.i64_in _ (by omega)
 obtain⟨s,rfl,k2,k3,k5,k6,k7,k9,k10,k21,k22,_⟩:=Y3 D1 hA
 simp only[skpr52,o0,pC,Try.f7,Option.getD_some,D1,k2,k3,k5,k6,k7,k9,k10,k21,k22]
 clear k2 k3 k5 k6 k7 k9 k10 k21 k22
 go_wp2
 exact⟨rfl,⟨rfl,rfl,rfl,rfl,rfl,rfl,rfl,rfl,rfl,rfl,trivial⟩,rfl⟩
theorem v0r{ba aa n i k al ac rb:Nat}(q:w.cell? ⟨ba,0,none⟩=some (vL aa 0 n n))(hi:i<n)(h0:w.cell? ⟨aa,i,none⟩=some (vL rb 0 al ac))(hk:k<al)(f1:w.cell? ⟨rb,k*3+1,none⟩=some (vI (-1))){x2 x3 x5 x6 x7 x10:Value}{A:Array Value}(hA:G0 301 A [(2,x2),(3,x3),(5,x5),(6,x6),(7,x7),(9,vP ba 0),(10,x10),(21,vI i),(22,vI k)]):
 skps78.wp Try.prog (F7 fun a u=>a.defers=[]∧G0 301 a.tmps [(2,x2),(3,x3),(5,x5),(6,x6),(7,x7),(9,vP ba 0),(10,x10),(21,vI i),(22,vI k)]∧u.heap=w.heap) ⟨A,[]⟩ w:=by
 have hi2:(i:Int)<(n:Int):=by omega
 have hk2:(k:Int)<(al:Int):=by omega
 obtain⟨s,rfl,k2,k3,k5,k6,k7,k9,k10,k21,k22,_⟩:=Y3 D1 hA
 simp only[skps78,o0,pC,Try.f7,Option.getD_some,D1,k2,k3,k5,k6,k7,k9,k10,k21,k22]
 clear k2 k3 k5 k6 k7 k9 k10 k21 k22
 go_wp2
 exact⟨rfl,⟨rfl,rfl,rfl,rfl,rfl,rfl,rfl,rfl,rfl,rfl,trivial⟩,rfl⟩
end
section
variable{w w0 w' u u':World}
theorem h0O(l:List P3):(opC l).length=l.length*4:=by
 induction l with
 | nil=>rfl
 | cons o l ih=>
   show(_::_::_::_::opC l).length=_
   simp only[List.length_cons,ih]
   omega
theorem n0F(l:List P3):∀u∈opC l,u.oneCell'=true:=fun u hu=>by
 obtain⟨x,_,hx⟩:=List.mem_flatMap.1 hu
 simp only[List.mem_cons,List.not_mem_nil,or_false]at hx
 rcases hx with rfl|rfl|rfl|rfl<;>rfl
theorem t0m{l:List P3}{j:Nat}{u:Value}(h:(opC l)[j]? =some u):∃k x,l[k]? =some x∧((j=k*4∧u=vI x.kd)∨(j=k*4+1∧u=vI x.a)∨(j=k*4+2∧u=vI x.b)∨(j=k*4+3∧u=vI x.c)):=by
 have hlt:=(List.getElem?_eq_some_iff.1 h).1
 rw[h0O]at hlt
 have hk:j / 4<l.length:=by omega
 obtain⟨h0,h1,h2,h3⟩:=a0x l (j / 4) l[j / 4] (List.getElem?_eq_getElem hk)
 refine⟨j / 4,l[j / 4],List.getElem?_eq_getElem hk,?_⟩
 have hc:j=j / 4*4∨j=j / 4*4+1∨j=j / 4*4+2∨j=j / 4*4+3:=by omega
 rcases hc with e|e|e|e
 ·rw[← e,h]at h0;exact .inl ⟨e,Option.some.inj h0⟩
 ·rw[← e,h]at h1;exact .inr (.inl ⟨e,Option.some.inj h1⟩)
 ·rw[← e,h]at h2;exact .inr (.inr (.inl ⟨e,Option.some.inj h2⟩))
 ·rw[← e,h]at h3;exact .inr (.inr (.inr ⟨e,Option.some.inj h3⟩))
def M2(w u:World):Prop:=w.heap.size≤u.heap.size∧∀(r:Nat) (c:Array Value) (e:TypeId) (z:Nat×Nat),w.heap[r]? =some (.cells c e z)→u.heap[r]? =some (.cells c e z)
theorem S1.oldC(k:S1 w u):M2 w u:=⟨k.1,fun r c e z h=>(k.2 r (Q3 h)).trans h⟩
theorem M2.trans{v:World}(h:M2 w u)(k:M2 u v):M2 w v:=⟨Nat.le_trans h.1 k.1,fun r c e z e1=>k.2 r c e z (h.2 r c e z e1)⟩
theorem M2.heap(e:u.heap=w.heap):M2 w u:=(S1.heap e).oldC
def w9:Value→Option Addr
 | .slice a _ _=>a
 | _=>none
def slC:Value→Nat
 | .slice _ _ c=>c
 | _=>0
theorem M2.c{a:Addr}{v:Value}(k:M2 w u)(hc:w.cell? a=some v):u.cell? a=some v:=by
 obtain⟨c,e,z,h3⟩:=M3 hc
 rw[← hc];unfold World.cell?;simp only[h3,k.2 _ _ _ _ h3]
structure ThF(w:World)(tl tb to:Nat)(ta:Option Addr)(oa:Nat→Option Addr)(oc:Nat→Nat)(Lf:Nat→List P3):Prop where
 th:∀j,j<tl→ta=some ⟨tb,to,none⟩∧w.cell? ⟨tb,to+j,none⟩=some (.slice (oa j) (Lf j).length (oc j))
 le:∀j,j<tl→(Lf j).length≤1048576
 nil:∀j,j<tl→oa j=none→Lf j=[]∧oc j=0
 op:∀j,j<tl→∀k x,(Lf j)[k]? =some x→∃pb po,oa j=some ⟨pb,po,none⟩∧w.cell? ⟨pb,po+k*4,none⟩=some (vI x.kd)∧w.cell? ⟨pb,po+k*4+1,none⟩=some (vI x.a)∧w.cell? ⟨pb,po+k*4+2,none⟩=some (vI x.b)∧w.cell? ⟨pb,po+k*4+3,none⟩=some (vI x.c)
section
variable{tl tb to:Nat}{ta:Option Addr}{oa:Nat→Option Addr}{oc:Nat→Nat}{Lf:Nat→List P3}
theorem ThF.oldC(h:ThF w tl tb to ta oa oc Lf)(k:M2 w u):ThF u tl tb to ta oa oc Lf:=
 ⟨fun j hj=>⟨(h.th j hj).1,k.c (h.th j hj).2⟩,h.le,h.nil,fun j hj i x hx=>by obtain⟨pb,po,e,a,b,c,d⟩:=h.op j hj i x hx;exact⟨pb,po,e,k.c a,k.c b,k.c c,k.c d⟩⟩
theorem ThF.src(h:ThF w tl tb to ta oa oc Lf){j:Nat}(hj:j<tl):g0K w (.slice (oa j) (Lf j).length (oc j)) (Lf j).length 4 (opC (Lf j)):=by
 refine⟨?_,n0F _⟩
 cases ha:oa j with
 | none=>
   obtain⟨e1,e2⟩:=h.nil j hj ha
   rw[e1,e2]
   exact .inl ⟨rfl,rfl,rfl⟩
 | some a=>
   refine .inr ⟨a,oc j,rfl,h0O _,fun i u hu=>?_⟩
   obtain⟨k,x,hx,hc⟩:=t0m hu
   obtain⟨pb,po,e,c0,c1,c2,c3⟩:=h.op j hj k x hx
   rw[ha]at e
   cases e
   have e2:(⟨pb,po,none⟩:Addr).add i=⟨pb,po+i,none⟩:=by unfold Addr.add;split<;>simp_all
   rw[e2]
   rcases hc with⟨rfl,rfl⟩|⟨rfl,rfl⟩|⟨rfl,rfl⟩|⟨rfl,rfl⟩
   ·exact c0
   ·exact c1
   ·exact c2
   ·exact c3
def e0x(rv:Nat→Value)(n:Nat):Prop:=∀i j,i<n→j<n→i≠j→∀g,(rv i).ownBlock=some g→(rv j).ownBlock≠some g
theorem v0t{b2 tc:Nat}(hT:ThF w tl tb to ta oa oc Lf)(q:w.cell? ⟨b2,1,none⟩=some (.slice ta tl tc))(htl:tl≤1048576){x3 x5 x6:Value}{A:Array Value}(hA:G0 301 A [(2,vP b2 0),(3,x3),(5,x5),(6,x6),(7,.slice none 0 0)]):
 skps8.wp Try.prog (F7 fun a u=>a.defers=[]∧∃ov rv L,G0 301 a.tmps [(2,vP b2 0),(3,x3),(5,x5),(6,x6),(7,ov)]∧w5 w u tl ov rv L∧(∀j,j<tl→L j=Lf j)∧e0x rv tl) ⟨A,[]⟩ w:=by
 rw[w0T]
 refine o3 (y0q hA) fun A u ⟨_,hS,hu⟩=>?_
 rw[w0I,w0S,q0w,q0z,q0g]
 refine n6 (I:=fun g a u=>a.defers=[]∧∃i ov rv L,i≤tl∧g=tl - i∧G0 301 a.tmps [(2,vP b2 0),(3,x3),(5,x5),(6,x6),(7,ov),(8,vI (i:Nat))]∧w5 w u i ov rv L∧(∀j,j<i→L j=Lf j)∧e0x rv i)
  (J:=fun g a u=>a.defers=[]∧∃i ov rv L,i<tl∧g=tl - i∧G0 301 a.tmps [(2,vP b2 0),(3,x3),(5,x5),(6,x6),(7,ov),(8,vI (i:Nat))]∧w5 w u i ov rv L∧(∀j,j<i→L j=Lf j)∧e0x rv i)
  (fun g a u ⟨hd,i,ov,rv,L,h1,h2,hS,hN,hL,hD⟩=>?_) (fun g a u ⟨hd0,i,ov,rv,L,h1,h2,hS,hN,hL,hD⟩=>?_) (g:=tl) ⟨rfl,0,_,fun _=>.slice none 0 0,fun _=>[],Nat.zero_le _,rfl,hS,(w5.start w _ _).heap hu,fun j hj=>by omega,fun i j hi=>by omega⟩
 ·rw[L2 hd]
  refine Y0 (y0r (hN.k.cell q) hS) fun a u' ⟨hd,⟨s0,s2,s3,s5,s6,s7,s8,s42,_⟩,hu⟩=>?_
  by_cases hi:i<tl
  ·exact .inl ⟨by rw[s42,decide_eq_true hi],hd,i,ov,rv,L,hi,h2,⟨s0,s2,s3,s5,s6,s7,s8,trivial⟩,hN.heap hu,hL,hD⟩
  ·obtain rfl:i=tl:=by omega
   exact .inr ⟨by rw[s42,decide_eq_false hi],hd,ov,rv,L,⟨s0,s2,s3,s5,s6,s7,trivial⟩,hN.heap hu,hL,hD⟩
 ·obtain⟨e,c⟩:=hT.th i h1
  have q1:=hN.k.cell q
  rw[e]at q1
  have hTa:=hT.oldC (hN.k.trans (S1.alloc u (.cells #[] 47))).oldC
  rw[L2 hd0,q0C]
  have hb:=E3 (id:=1) (y0t q1 h1 (hN.k.cell c) (by omega) (by have:=hT.le i h1;omega) hN.row (hTa.src h1) hS)
  rw[← w0J]at hb
  refine o3 hb fun A u2 ⟨_,v',hS2,⟨x,u1,hx,r1,r2,r3,r4⟩⟩=>?_
  have hN2:=hN.snoc hx r1 r2 r3 r4
  refine Y0 (y0s (by omega) hS2) fun a u3 ⟨hd,hS3,hu3⟩=>⟨tl - (i+1),by omega,hd,i+1,v',_,_,h1,rfl,hS3,hN2.heap hu3,fun j hj=>?_,fun j k hj hk hjk g hg=>?_⟩
  ·by_cases e1:j=i
   ·subst e1;simp
   ·simp only[if_neg e1];exact hL j (by omega)
  ·by_cases e1:j=i
   ·subst e1
    have e2:k≠j:=fun e=>hjk e.symm
    simp only[if_true]at hg
    simp only[if_neg e2]
    intro h
    have h3:=hx.new g hg
    have h4:=O3 (hN.rs k (by omega)).1 h
    omega
   ·simp only[if_neg e1]at hg
    by_cases e2:k=i
    ·subst e2
     simp only[if_true]
     intro h
     have h3:=hx.new g h
     have h4:=O3 (hN.rs j (by omega)).1 hg
     omega
    ·simp only[if_neg e2]
     exact hD j k (by omega) (by omega) hjk g hg
end
end
section
variable{w w0 w' u u':World}
theorem i2.step{X Y:Nat→Prop}(h:i2 X w u)(h':i2 Y u u')(hY:∀r,Y r→X r∨w.heap.size≤r):i2 X w u':=
 ⟨Nat.le_trans h.s h'.s,fun r hr hx=>(h'.k r (Nat.lt_of_lt_of_le hr h.s) fun hy=>(hY r hy).elim hx fun e=>by omega).trans (h.k r hr hx),fun r c e z hc=>by
  obtain⟨c1,h1,h2⟩:=h.f r c e z hc
  obtain⟨c2,h3,h4⟩:=h'.f r c1 e z h1
  exact⟨c2,h3,h4.trans h2⟩⟩
theorem i2.fz{X:Nat→Prop}(h:i2 X w u){b o:Nat}{v:Value}(hc:w.cell? ⟨b,o,none⟩=some v)(hz:w.frozen? ⟨b,o,none⟩=false):(∃x,u.cell? ⟨b,o,none⟩=some x)∧u.frozen? ⟨b,o,none⟩=false:=by
 obtain⟨c,e,z,hb⟩:=M3 hc
 obtain⟨c',h1,h2⟩:=h.f b c e z hb
 have ho:o<c.size:=by
  simp only[World.cell?,hb]at hc
  simp at hc
  exact(Q3 hc)
 refine⟨⟨c'[o]'(by omega),by simp[World.cell?,h1,show o<c'.size by omega]⟩,?_⟩
 simp only[World.frozen?,hb]at hz
 simp only[World.frozen?,h1]
 exact hz
theorem J5{b o b' o':Nat}(h:b'≠b∨o'≠o):(⟨b',o',none⟩:Addr)≠⟨b,o,none⟩:=by
 intro e
 cases e
 rcases h with h|h<;>exact h rfl
section
variable{ba n c:Nat}{a9:Option Addr}{xs:List Value}
theorem v0u(q:w.cell? ⟨ba,2,none⟩=some (.slice a9 n c))(hr:w.ownsRow 0 2 1 (.slice a9 n c) n xs)(hb:(Value.slice a9 n c).ownBlock≠some ba)(hn:n<1000000000){x2 x3 x5 x6 x7 x10:Value}{A:Array Value}(hA:G0 301 A [(2,x2),(3,x3),(5,x5),(6,x6),(7,x7),(9,vP ba 0),(10,x10)]):
 skps30.wp Try.prog (F7 fun a u=>a.defers=[]∧G0 301 a.tmps [(2,x2),(3,x3),(5,x5),(6,x6),(7,x7),(9,vP ba 0),(10,x10)]∧i2 (fun r=>(Value.slice a9 n c).ownBlock=some r) w u) ⟨A,[]⟩ w:=by
 rw[q0I]
 refine o3 (t0z hA) fun A u ⟨_,hS,hu⟩=>?_
 rw[w0O,q0l,q0J,q0R,k0P]
 refine n6 (I:=fun g a u=>a.defers=[]∧∃i,i≤n∧g=n - i∧G0 301 a.tmps [(2,x2),(3,x3),(5,x5),(6,x6),(7,x7),(9,vP ba 0),(10,x10),(13,vI (i:Nat))]∧i2 (fun r=>(Value.slice a9 n c).ownBlock=some r) w u)
  (J:=fun g a u=>a.defers=[]∧∃i,i<n∧g=n - i∧G0 301 a.tmps [(2,x2),(3,x3),(5,x5),(6,x6),(7,x7),(9,vP ba 0),(10,x10),(13,vI (i:Nat))]∧i2 (fun r=>(Value.slice a9 n c).ownBlock=some r) w u)
  (fun g a u ⟨hd,i,h1,h2,hS,hO⟩=>?_) (fun g a u ⟨hd0,i,h1,h2,hS,hO⟩=>?_) (g:=n) ⟨rfl,0,Nat.zero_le _,rfl,hS,i2.of_heap hu⟩
 ·have q1:=hO.cell q hb
  rw[L2 hd]
  refine Y0 (t0A q1 hS) fun a u' ⟨hd,⟨s0,s2,s3,s5,s6,s7,s9,s10,s13,s120,_⟩,hu⟩=>?_
  by_cases hi:i<n
  ·exact .inl ⟨by rw[s120,decide_eq_true hi],hd,i,hi,h2,⟨s0,s2,s3,s5,s6,s7,s9,s10,s13,trivial⟩,hO.heap hu⟩
  ·exact .inr ⟨by rw[s120,decide_eq_false hi],hd,⟨s0,s2,s3,s5,s6,s7,s9,s10,trivial⟩,hO.heap hu⟩
 ·have q1:=hO.cell q hb
  obtain⟨ys,hy⟩:=hO.own hr
  obtain⟨g',c',e,⟨x,hx,_⟩,hz,_⟩:=N5 hy (j:=i) (by omega)
  cases e
  rw[L2 hd0,q0V]
  have hb:=E3 (id:=7) (t0C q1 h1 hx hz hS)
  rw[← w0P]at hb
  refine o3 hb fun A u2 ⟨_,hS2,hu2⟩=>?_
  refine Y0 (t0B (by omega) hS2) fun a u3 ⟨hd,hS3,hu3⟩=>⟨n - (i+1),by omega,hd,i+1,h1,rfl,hS3,?_⟩
  exact(hO.step ((i2.set u g' i _).heap hu2) fun r hr=>.inl (by rw[hr];rfl)).heap hu3
theorem w0F(q:w.cell? ⟨ba,1,none⟩=some (.slice a9 n c))(hr:w.ownsRow 0 3 1 (.slice a9 n c) n xs)(hb:(Value.slice a9 n c).ownBlock≠some ba)(hn:n<1000000000){x2 x3 x5 x6 x7 x10:Value}{A:Array Value}(hA:G0 301 A [(2,x2),(3,x3),(5,x5),(6,x6),(7,x7),(9,vP ba 0),(10,x10)]):
 skps36.wp Try.prog (F7 fun a u=>a.defers=[]∧G0 301 a.tmps [(2,x2),(3,x3),(5,x5),(6,x6),(7,x7),(9,vP ba 0),(10,x10)]∧i2 (fun r=>(Value.slice a9 n c).ownBlock=some r) w u) ⟨A,[]⟩ w:=by
 rw[r0d]
 refine o3 (t0D hA) fun A u ⟨_,hS,hu⟩=>?_
 rw[w0Q,q0m,r0e,r0H,k0R]
 refine n6 (I:=fun g a u=>a.defers=[]∧∃i,i≤n∧g=n - i∧G0 301 a.tmps [(2,x2),(3,x3),(5,x5),(6,x6),(7,x7),(9,vP ba 0),(10,x10),(14,vI (i:Nat))]∧i2 (fun r=>(Value.slice a9 n c).ownBlock=some r) w u)
  (J:=fun g a u=>a.defers=[]∧∃i,i<n∧g=n - i∧G0 301 a.tmps [(2,x2),(3,x3),(5,x5),(6,x6),(7,x7),(9,vP ba 0),(10,x10),(14,vI (i:Nat))]∧i2 (fun r=>(Value.slice a9 n c).ownBlock=some r) w u)
  (fun g a u ⟨hd,i,h1,h2,hS,hO⟩=>?_) (fun g a u ⟨hd0,i,h1,h2,hS,hO⟩=>?_) (g:=n) ⟨rfl,0,Nat.zero_le _,rfl,hS,i2.of_heap hu⟩
 ·have q1:=hO.cell q hb
  rw[L2 hd]
  refine Y0 (t0O q1 hS) fun a u' ⟨hd,⟨s0,s2,s3,s5,s6,s7,s9,s10,s13,s120,_⟩,hu⟩=>?_
  by_cases hi:i<n
  ·exact .inl ⟨by rw[s120,decide_eq_true hi],hd,i,hi,h2,⟨s0,s2,s3,s5,s6,s7,s9,s10,s13,trivial⟩,hO.heap hu⟩
  ·exact .inr ⟨by rw[s120,decide_eq_false hi],hd,⟨s0,s2,s3,s5,s6,s7,s9,s10,trivial⟩,hO.heap hu⟩
 ·have q1:=hO.cell q hb
  obtain⟨ys,hy⟩:=hO.own hr
  obtain⟨g',c',e,⟨x,hx,_⟩,hz,_⟩:=N5 hy (j:=i) (by omega)
  cases e
  rw[L2 hd0,r0I]
  have hb:=E3 (id:=9) (t0Q q1 h1 hx hz hS)
  rw[← w0R]at hb
  refine o3 hb fun A u2 ⟨_,hS2,hu2⟩=>?_
  refine Y0 (t0P (by omega) hS2) fun a u3 ⟨hd,hS3,hu3⟩=>⟨n - (i+1),by omega,hd,i+1,h1,rfl,hS3,?_⟩
  exact(hO.step ((i2.set u g' i _).heap hu2) fun r hr=>.inl (by rw[hr];rfl)).heap hu3
end
structure y8(u:World)(rb:Nat)(l:List P3)(k:Nat):Prop where
 c:∀j x,k≤j→l[j]? =some x→u.cell? ⟨rb,j*4,none⟩=some (vI x.kd)∧u.cell? ⟨rb,j*4+1,none⟩=some (vI x.a)∧u.cell? ⟨rb,j*4+2,none⟩=some (vI x.b)∧u.cell? ⟨rb,j*4+3,none⟩=some (vI x.c)
 z:∀j x,l[j]? =some x→u.frozen? ⟨rb,j*4,none⟩=false∧u.frozen? ⟨rb,j*4+1,none⟩=false∧u.frozen? ⟨rb,j*4+2,none⟩=false∧u.frozen? ⟨rb,j*4+3,none⟩=false
theorem y8.of{rb c:Nat}{l:List P3}(h:u.ownsRow 0 47 4 (vL rb 0 l.length c) l.length (opC l)):y8 u rb l 0:=by
 have key:∀j x,l[j]? =some x→At u ⟨rb,j*4,none⟩ (vI x.kd)∧At u ⟨rb,j*4+1,none⟩ (vI x.a)∧At u ⟨rb,j*4+2,none⟩ (vI x.b)∧At u ⟨rb,j*4+3,none⟩ (vI x.c):=fun j x hx=>by
  obtain⟨g0,g1,g2,g3⟩:=a0x _ _ _ hx
  obtain⟨b0,_,e0,a0⟩:=M5 h g0
  obtain⟨b1,_,e1,a1⟩:=M5 h g1
  obtain⟨b2,_,e2,a2⟩:=M5 h g2
  obtain⟨b3,_,e3,a3⟩:=M5 h g3
  cases e0;cases e1;cases e2;cases e3
  exact⟨a0,a1,a2,a3⟩
 exact⟨fun j x _ hx=>by obtain⟨a0,a1,a2,a3⟩:=key j x hx;exact⟨a0.c,a1.c,a2.c,a3.c⟩,fun j x hx=>by obtain⟨a0,a1,a2,a3⟩:=key j x hx;exact⟨a0.z,a1.z,a2.z,a3.z⟩⟩
theorem y8.heap{rb k:Nat}{l:List P3}(h:y8 u rb l k)(e:u'.heap=u.heap):y8 u' rb l k:=
 ⟨fun j x hj hx=>by simpa only[World.cell?,e]using h.c j x hj hx,fun j x hx=>by simpa only[World.frozen?,e]using h.z j x hx⟩
theorem y8.next{rb k:Nat}{l:List P3}(h:y8 u rb l k)(y0 y1 y2 y3:Value):y8 ((((u.setCell ⟨rb,k*4,none⟩ y0).setCell ⟨rb,k*4+1,none⟩ y1).setCell ⟨rb,k*4+2,none⟩ y2).setCell ⟨rb,k*4+3,none⟩ y3) rb l (k+1):=by
 have key:∀o,k*4+4≤o→((((u.setCell ⟨rb,k*4,none⟩ y0).setCell ⟨rb,k*4+1,none⟩ y1).setCell ⟨rb,k*4+2,none⟩ y2).setCell ⟨rb,k*4+3,none⟩ y3).cell? ⟨rb,o,none⟩=u.cell? ⟨rb,o,none⟩:=fun o ho=>by
  rw[World.cell?_setCell_other _ _ _ _ (J5 (.inr (by omega))),World.cell?_setCell_other _ _ _ _ (J5 (.inr (by omega))),World.cell?_setCell_other _ _ _ _ (J5 (.inr (by omega))),World.cell?_setCell_other _ _ _ _ (J5 (.inr (by omega)))]
 refine⟨fun j x hj hx=>?_,fun j x hx=>?_⟩
 ·obtain⟨a,b,c,d⟩:=h.c j x (by omega) hx
  rw[key _ (by omega),key _ (by omega),key _ (by omega),key _ (by omega)]
  exact⟨a,b,c,d⟩
 ·simp only[World.frozen?_setCell]
  exact h.z j x hx
theorem k0s(w:World)(rb o:Nat)(y0 y1 y2 y3:Value):i2 (fun r=>r=rb) w ((((w.setCell ⟨rb,o,none⟩ y0).setCell ⟨rb,o+1,none⟩ y1).setCell ⟨rb,o+2,none⟩ y2).setCell ⟨rb,o+3,none⟩ y3):=
 (((i2.set w rb o y0).trans (i2.set _ rb _ y1)).trans (i2.set _ rb _ y2)).trans (i2.set _ rb _ y3)
section
variable{tl tb to tc b2 thb thc:Nat}{ta:Option Addr}{oa:Nat→Option Addr}{oc:Nat→Nat}{Lf:Nat→List P3}{rv:Nat→Value}{x3 x5 x6 x9 x10:Value}
end
end
section
variable{w w':World}
theorem t0N{aa ab:Option Addr}{ca cb:Nat}{xs:List Int}(hl:xs.length<100000000)(hA:B5 w aa (xs.map fun v=>vI v))(hB:B5 w ab (xs.map fun v=>vI v)):
 Calls Try.prog 22 #[.slice aa xs.length ca,.slice ab xs.length cb] w fun x w'=>x= .returned (.bool true)∧∃m,w'=w.drewN m:=by
 have E:Aside (B5 w aa (xs.map fun v=>vI v)∧B5 w ab (xs.map fun v=>vI v)):=⟨hA,hB⟩
 clear hA hB
 go_enter Try.func22,Try.ntmps22
 go_wp2
 go_loopg [5] xs.length (fun g i wr=>∃k:Nat,k≤xs.length∧i=vI k∧g=xs.length - k∧∃m,wr=w.drewN m)
 case atStart=>exact⟨0,Nat.zero_le _,rfl,rfl,0,rfl⟩
 case round=>
  obtain⟨k,hk,rfl,rfl,m0,hw⟩:=hrel
  have W:Aside (wr=w.drewN m0):=hw
  have hh:wr.heap=w.heap:=by rw[hw];rfl
  clear hw
  rcases Nat.lt_or_ge k xs.length with hlt|hge
  ·obtain⟨b1,o1,rfl,h1⟩:=(E.out.1.heap hh).c k (vI xs[k]) (by simp[hlt])
   obtain⟨b2,o2,rfl,h2⟩:=(E.out.2.heap hh).c k (vI xs[k]) (by simp[hlt])
   have hwr:IntKind.i64.wrap ((k:Int)+1)=(k:Int)+1:=IntWalk.i64_in _ (by omega)
   clear hh
   go_wp2
   go_quiet (fail)
   go_wp2
   go_roundg (xs.length - (k+1))
   case measure=>omega
   case rel=>exact⟨k+1,hlt,rfl,rfl,_,by rw[W.out,World.drewN_drewN]⟩
  ·have:k=xs.length:=by omega
   subst this
   clear hh
   go_wp2
   go_ret
   exact⟨rfl,m0,W.out⟩
def i5(l:List SA):List Value:=(l.map fun a=>a.v.cells).flatten
theorem e0i(l:List SA):∀k a,l[k]? =some a→(i5 l)[k*3]? =some (.bool a.an.1)∧(i5 l)[k*3+1]? =some (vI a.an.2.1)∧(i5 l)[k*3+2]? =some (.slice a.la a.ll a.lc):=by
 induction l with
 | nil=>intro k a h;simp at h
 | cons x t ih=>
   intro k a h
   have e:i5 (x::t)= .bool x.an.1::vI x.an.2.1:: .slice x.la x.ll x.lc::i5 t:=rfl
   rw[e]
   cases k with
   | zero=>
     simp at h
     subst h
     exact⟨rfl,rfl,rfl⟩
   | succ k=>
     have h:t[k]? =some a:=by simpa using h
     obtain⟨h1,h2,h3⟩:=ih k a h
     rw[show(k+1)*3=k*3+3 by omega]
     exact⟨by simpa using h1,by simpa [show k*3+3+1=k*3+1+3 by omega]using h2,by simpa [show k*3+3+2=k*3+2+3 by omega]using h3⟩
structure SAL(a:SA)(w:World):Prop where
 l:a.ll=a.an.2.2.length
 r:B5 w a.la (a.an.2.2.map fun v=>vI v)
theorem SAL.heap{a:SA}(h:SAL a w)(e:w'.heap=w.heap):SAL a w':=⟨h.l,h.r.heap e⟩
theorem SAL.of{a:SA}(h:SAU a w):SAL a w:=by
 obtain⟨an,la,ll,lc⟩:=a
 have h1:w.ownsRow 0 2 1 (.slice la ll lc) an.2.2.length (an.2.2.map fun v=>vI v):=h
 have hl:ll=an.2.2.length:=by
  rcases h1.2 with⟨e,h5⟩|⟨_,_,_,e,_⟩
  ·cases e;exact h5.symm
  ·cases e;rfl
 subst hl
 exact⟨rfl,c0E h1⟩
theorem t0M{aa ab:Option Addr}{ca cb:Nat}{xs ys:List SA}(hl:xs.length<100000000)(he:xs.map SA.an=ys.map SA.an)(hA:B5 w aa (i5 xs))(hB:B5 w ab (i5 ys))(hx:∀a∈xs,SAL a w∧a.an.2.2.length<100000000)(hy:∀a∈ys,SAL a w):
 Y6 Try.prog Try.f21 #[.slice aa xs.length ca,.slice ab xs.length cb] w fun x w'=>x= .bool true∧w'.heap=w.heap:=by
 have E:Aside (B5 w aa (i5 xs)∧B5 w ab (i5 ys)∧xs.map SA.an=ys.map SA.an∧(∀a∈xs,SAL a w∧a.an.2.2.length<100000000)∧∀a∈ys,SAL a w):=⟨hA,hB,he,hx,hy⟩
 clear hA hB he hx hy
 refine I8 rfl ?_
 simp only[Try.ntmps21,List.size_toArray,List.length_cons,List.length_nil,Nat.reduceAdd,Nat.reduceSub,Array.replicate_succ,Array.replicate_zero,List.push_toArray,List.append_toArray,List.nil_append,List.cons_append]
 go_wp2
 go_loopg [5] xs.length (fun g i wr=>∃k:Nat,k≤xs.length∧i=vI k∧g=xs.length - k∧wr.heap=w.heap)
 case atStart=>exact⟨0,Nat.zero_le _,rfl,rfl,rfl⟩
 case round=>
  obtain⟨k,hk,rfl,rfl,hw⟩:=hrel
  rcases Nat.lt_or_ge k xs.length with hlt|hge
  ·have hq:=congrArg (fun l=>l[k]?) E.out.2.2.1
   simp only[List.getElem?_map,List.getElem?_eq_getElem hlt,Option.map_some]at hq
   obtain⟨y,hyk,hya⟩:=Option.map_eq_some_iff.1 hq.symm
   obtain⟨g1,g2,g3⟩:=e0i xs k _ (List.getElem?_eq_getElem hlt)
   obtain⟨j1,j2,j3⟩:=e0i ys k _ hyk
   have hsx:=(E.out.2.2.2.1 _ (List.getElem_mem hlt))
   have hsy:=E.out.2.2.2.2 y (List.mem_of_getElem? hyk)
   rw[hya]at j1 j2
   obtain⟨sl1,sr1⟩:=hsx.1.heap hw
   obtain⟨sl2,sr2⟩:=hsy.heap hw
   have hlen:=hsx.2
   rw[hya]at sl2 sr2
   generalize xs[k]=x at g1 g2 g3 j1 j2 sl1 sr1 sl2 sr2 hlen
   obtain⟨⟨ok,n,l⟩,la,ll,lc⟩:=x
   obtain⟨an2,la2,ll2,lc2⟩:=y
   simp only at g1 g2 g3 j1 j2 j3 sl1 sr1 sl2 sr2 hlen
   subst sl1
   subst sl2
   obtain⟨b1,o1,rfl,f0⟩:=(E.out.1.heap hw).c (k*3) _ g1
   obtain⟨_,_,e1,f1⟩:=(E.out.1.heap hw).c (k*3+1) _ g2
   cases e1
   obtain⟨_,_,e1,f2⟩:=(E.out.1.heap hw).c (k*3+2) _ g3
   cases e1
   obtain⟨b2,o2,rfl,h0⟩:=(E.out.2.1.heap hw).c (k*3) _ j1
   obtain⟨_,_,e1,h1⟩:=(E.out.2.1.heap hw).c (k*3+1) _ j2
   cases e1
   obtain⟨_,_,e1,h2⟩:=(E.out.2.1.heap hw).c (k*3+2) _ j3
   cases e1
   rw[← Nat.add_assoc]at f1 f2 h1 h2
   have H:Aside (∀m,Calls Try.prog 22 #[.slice la l.length lc,.slice la2 l.length lc2] (wr.drewN m) fun x w''=>x= .returned (.bool true)∧∃m',w''=wr.drewN m'):=fun m=>(t0N (w:=wr.drewN m) hlen (sr1.heap rfl) (sr2.heap rfl)).mono (by
    rintro e u ⟨rfl,m',rfl⟩
    exact⟨rfl,_,World.drewN_drewN _ _ _⟩)
   have hwr:IntKind.i64.wrap ((k:Int)+1)=(k:Int)+1:=IntWalk.i64_in _ (by omega)
   have W:Aside (wr.heap=w.heap):=hw
   clear g1 g2 g3 j1 j2 j3 hw hq hyk hya hsx hsy sr1 sr2 hlen
   cases ok
   all_goals(
    go_wp2
    go_quiet ((go_at_call 22;exact H.out _))
    go_wp2
    go_roundg (xs.length - (k+1))
    case measure=>omega
    case rel=>exact⟨k+1,hlt,rfl,rfl,W.out⟩)
  ·have:k=xs.length:=by omega
   subst this
   go_wp2
   go_ret
   exact⟨_,rfl,rfl,hw⟩
theorem t0p{aa ab:Option Addr}{ca cb:Nat}{xs ys:List SA}(hl:xs.length<100000000)(he:xs.map SA.an=ys.map SA.an)(hA:B5 w aa (i5 xs))(hB:B5 w ab (i5 ys))(hx:∀a∈xs,SAL a w∧a.an.2.2.length<100000000)(hy:∀a∈ys,SAL a w):
 Calls Try.prog 21 #[.slice aa xs.length ca,.slice ab xs.length cb] w fun x w'=>x= .returned (.bool true)∧w'.heap=w.heap:=
 ((t0M hl he hA hB hx hy).calls Try.func21 rfl).mono (by rintro e u ⟨v,rfl,rfl,h⟩;exact⟨rfl,h⟩)
theorem callable21:O1 21:=G2 Try.func21 rfl rfl
end
section
variable{w w0 w' u u':World}
section
variable{ba aa n i al ac:Nat}{x2 x3 x5 x6 x7 x10:Value}
theorem o0D{k rb ll lc:Nat}{la:Option Addr}{xs:List Value}(q:w.cell? ⟨ba,0,none⟩=some (vL aa 0 n n))(hi:i<n)(h0:w.cell? ⟨aa,i,none⟩=some (vL rb 0 al ac))(hk:k<al)(g2:w.cell? ⟨rb,k*3+2,none⟩=some (.slice la ll lc))(hr:w.ownsRow 0 2 1 (.slice la ll lc) ll xs)(hll:ll<1000000000)
 (hb:∀g,(Value.slice la ll lc).ownBlock=some g→g≠ba∧g≠aa∧g≠rb) {A:Array Value} (hA:G0 301 A [(2,x2),(3,x3),(5,x5),(6,x6),(7,x7),(9,vP ba 0),(10,x10),(15,vI (i:Nat)),(16,vI (k:Nat))]):
 skps54.wp Try.prog (F7 fun a u=>a.defers=[]∧G0 301 a.tmps [(2,x2),(3,x3),(5,x5),(6,x6),(7,x7),(9,vP ba 0),(10,x10),(15,vI (i:Nat)),(16,vI (k:Nat))]∧i2 (fun r=>(Value.slice la ll lc).ownBlock=some r) w u) ⟨A,[]⟩ w:=by
 rw[s0g]
 refine o3 (t04 hA) fun A u ⟨_,hS,hu⟩=>?_
 rw[o0P,q0p,s0h,s0i,l0o]
 refine n6 (I:=fun g a u=>a.defers=[]∧∃j,j≤ll∧g=ll - j∧G0 301 a.tmps [(2,x2),(3,x3),(5,x5),(6,x6),(7,x7),(9,vP ba 0),(10,x10),(15,vI (i:Nat)),(16,vI (k:Nat)),(17,vI (j:Nat))]∧i2 (fun r=>(Value.slice la ll lc).ownBlock=some r) w u)
  (J:=fun g a u=>a.defers=[]∧∃j,j<ll∧g=ll - j∧G0 301 a.tmps [(2,x2),(3,x3),(5,x5),(6,x6),(7,x7),(9,vP ba 0),(10,x10),(15,vI (i:Nat)),(16,vI (k:Nat)),(17,vI (j:Nat))]∧i2 (fun r=>(Value.slice la ll lc).ownBlock=some r) w u)
  (fun g a u ⟨hd,j,h1,h2,hS,hO⟩=>?_) (fun g a u ⟨hd0,j,h1,h2,hS,hO⟩=>?_) (g:=ll) ⟨rfl,0,Nat.zero_le _,rfl,hS,i2.of_heap hu⟩
 ·rw[L2 hd]
  refine Y0 (t05 (hO.cell q fun e=>(hb _ e).1 rfl) hi (hO.cell h0 fun e=>(hb _ e).2.1 rfl) hk (hO.cell g2 fun e=>(hb _ e).2.2 rfl) hS) fun a u' ⟨hd,⟨s0,s2,s3,s5,s6,s7,s9,s10,s15,s16,s17,s166,_⟩,hu⟩=>?_
  by_cases hj:j<ll
  ·exact .inl ⟨by rw[s166,decide_eq_true hj],hd,j,hj,h2,⟨s0,s2,s3,s5,s6,s7,s9,s10,s15,s16,s17,trivial⟩,hO.heap hu⟩
  ·exact .inr ⟨by rw[s166,decide_eq_false hj],hd,⟨s0,s2,s3,s5,s6,s7,s9,s10,s15,s16,trivial⟩,hO.heap hu⟩
 ·obtain⟨ys,hy⟩:=hO.own hr
  obtain⟨lb,c',e,⟨x,hx,_⟩,hz,_⟩:=N5 hy (j:=j) (by omega)
  cases e
  rw[L2 hd0,s0j]
  have hbk:=E3 (id:=15) (t08 (hO.cell q fun e=>(hb _ e).1 rfl) hi (hO.cell h0 fun e=>(hb _ e).2.1 rfl) hk (hO.cell g2 fun e=>(hb _ e).2.2 rfl) h1 hx hz hS)
  rw[← o04]at hbk
  refine o3 hbk fun A u2 ⟨_,hS2,hu2⟩=>?_
  refine Y0 (t07 (by omega) hS2) fun a u3 ⟨hd,hS3,hu3⟩=>⟨ll - (j+1),by omega,hd,j+1,h1,rfl,hS3,?_⟩
  exact(hO.step ((i2.set u lb j _).heap hu2) fun r hr=>.inl (by rw[hr];rfl)).heap hu3
theorem j0n(w:World)(rb o:Nat)(y0 y1 y2:Value):i2 (fun r=>r=rb) w (((w.setCell ⟨rb,o,none⟩ y0).setCell ⟨rb,o+1,none⟩ y1).setCell ⟨rb,o+2,none⟩ y2):=
 ((i2.set w rb o y0).trans (i2.set _ rb _ y1)).trans (i2.set _ rb _ y2)
theorem o0l{k rb ll lc:Nat}{la:Option Addr}{xs:List Value}(q:w.cell? ⟨ba,0,none⟩=some (vL aa 0 n n))(hi:i<n)(h0:w.cell? ⟨aa,i,none⟩=some (vL rb 0 al ac))(hk:k<al)(g2:w.cell? ⟨rb,k*3+2,none⟩=some (.slice la ll lc))(hr:w.ownsRow 0 2 1 (.slice la ll lc) ll xs)(hll:ll<1000000)
 (hb:∀g,(Value.slice la ll lc).ownBlock=some g→g≠ba∧g≠aa∧g≠rb) (hrow:∃ys,w.ownsRow 0 44 3 (vL rb 0 al ac) al ys) (hne:rb≠ba∧rb≠aa) {A:Array Value} (hA:G0 301 A [(2,x2),(3,x3),(5,x5),(6,x6),(7,x7),(9,vP ba 0),(10,x10),(15,vI (i:Nat)),(16,vI (k:Nat))]):
 skps53.wp Try.prog (F7 fun a u=>a.defers=[]∧G0 301 a.tmps [(2,x2),(3,x3),(5,x5),(6,x6),(7,x7),(9,vP ba 0),(10,x10),(15,vI (i:Nat)),(16,vI (k:Nat))]∧i2 (fun r=>(Value.slice la ll lc).ownBlock=some r∨r=rb) w u∧u.cell? ⟨rb,k*3+1,none⟩=some (vI (-1))∧∀o,(o<k*3∨k*3+3≤o)→u.cell? ⟨rb,o,none⟩=w.cell? ⟨rb,o,none⟩) ⟨A,[]⟩ w:=by
 obtain⟨ys,hrow⟩:=hrow
 have hrl:rb<w.heap.size:=O3 hrow rfl
 rw[s0f]
 refine o3 (o0D q hi h0 hk g2 hr (by omega) hb hA) fun A u1 ⟨_,hS,hO⟩=>?_
 have n1:∀{g:Nat},g≠ba→True:=fun _=>trivial
 have q1:=hO.cell q fun e=>(hb _ e).1 rfl
 have p1:=hO.cell h0 fun e=>(hb _ e).2.1 rfl
 have r1:=hO.cell g2 fun e=>(hb _ e).2.2 rfl
 obtain⟨ys1,hr1⟩:=hO.own hr
 rw[s0v]
 refine o3 (u0i q1 hi p1 hk r1 (by omega) hr1 hS) fun A u2 ⟨_,v',w1,hS2,k1,k1s,hA2⟩=>?_
 obtain⟨va,vc,rfl⟩:=S2 hA2.r1
 have hO2:i2 (fun r=>(Value.slice la ll lc).ownBlock=some r∨r=rb) w u2:=((hO.mono fun r _ h=>.inl h).step (Y:=fun _=>False) (i2.kept k1) fun r h=>h.elim).step hA2.off fun r h=>.inl (.inl h)
 have keep:∀r,r<w.heap.size→(∀g,(Value.slice la ll lc).ownBlock=some g→r≠g)→u2.heap[r]? =w.heap[r]?:=fun r hr hn=>by
  have e1:=hO.k r hr fun e=>hn _ e rfl
  have h1:r<u1.heap.size:=Nat.lt_of_lt_of_le hr hO.s
  exact(hA2.g.block r (Nat.lt_of_lt_of_le h1 k1.1) fun e=>hn _ e.symm rfl).trans ((k1.2 r h1).trans e1)
 rw[s0w]
 refine o3 (u0t (by omega) hA2.r1 hS2) fun A u3 ⟨_,v3,w3,⟨s0,s2,s3,s5,s6,s7,s9,s10,s15,s16,s18,_⟩,k3,k3s,hA3⟩=>?_
 have hvb:∀g,(Value.slice va (ll+1) vc).ownBlock=some g→(Value.slice la ll lc).ownBlock=some g∨w.heap.size≤g:=fun g hg=>by
  rcases hA2.b with e|⟨g',e,h⟩
  ·exact .inl (by rw[← e];exact hg)
  ·rw[e]at hg
   cases hg
   have h2:=k1.1
   have h3:=hO.s
   exact .inr (by omega)
 have hO3:i2 (fun r=>(Value.slice la ll lc).ownBlock=some r∨r=rb) w u3:=(hO2.step (Y:=fun _=>False) (i2.kept k3) fun r h=>h.elim).step hA3.off fun r h=>(hvb r h).imp .inl id
 have keep3:∀r,r<w.heap.size→(∀g,(Value.slice la ll lc).ownBlock=some g→r≠g)→u3.heap[r]? =w.heap[r]?:=fun r hr hn=>by
  have h1:r<u2.heap.size:=Nat.lt_of_lt_of_le hr hO2.s
  exact(hA3.g.block r (Nat.lt_of_lt_of_le h1 k3.1) fun e=>(hvb r e.symm).elim (fun h=>hn _ h rfl) fun h=>by omega).trans ((k3.2 r h1).trans (keep r hr hn))
 have same:∀{bb o:Nat} {v:Value},w.cell? ⟨bb,o,none⟩=some v→(∀g,(Value.slice la ll lc).ownBlock=some g→bb≠g)→u3.cell? ⟨bb,o,none⟩=some v:=fun{bb o v} hc hn=>by
  obtain⟨c,e,z,ho⟩:=M3 hc
  have e1:=keep3 bb (Q3 ho) hn
  rw[← hc];unfold World.cell?;simp only[e1]
 have erb:=keep3 rb hrl fun g hg e=>(hb g hg).2.2 e.symm
 have cellrb:∀o,u3.cell? ⟨rb,o,none⟩=w.cell? ⟨rb,o,none⟩:=fun o=>by unfold World.cell?;simp only[erb]
 have frzrb:∀o,u3.frozen? ⟨rb,o,none⟩=w.frozen? ⟨rb,o,none⟩:=fun o=>by unfold World.frozen?;simp only[erb]
 obtain⟨_,_,f1,⟨y0,c0,_⟩,z0,_⟩:=N5 hrow (j:=k*3) (by omega)
 cases f1
 obtain⟨_,_,f1,⟨y1,c1,_⟩,z1,_⟩:=N5 hrow (j:=k*3+1) (by omega)
 cases f1
 obtain⟨_,_,f1,⟨y2,c2,_⟩,z2,_⟩:=N5 hrow (j:=k*3+2) (by omega)
 cases f1
 refine Y0 (u0u (same q fun g hg e=>(hb g hg).1 e.symm) hi (same h0 fun g hg e=>(hb g hg).2.1 e.symm) hk ((cellrb _).trans c0) ((cellrb _).trans c1) ((cellrb _).trans c2) ((frzrb _).trans z0) ((frzrb _).trans z1) ((frzrb _).trans z2) ⟨s0,s2,s3,s5,s6,s7,s9,s10,s15,s16,trivial⟩) fun a u4 ⟨hd,hS4,hu4⟩=>⟨hd,hS4,?_,?_,fun o ho=>?_⟩
 ·exact(hO3.step (j0n u3 rb (k*3) _ _ _) fun r hr=>.inl (.inr hr)).heap hu4
 ·rw[show u4.cell? ⟨rb,k*3+1,none⟩=(((u3.setCell ⟨rb,k*3,none⟩ (.bool false)).setCell ⟨rb,k*3+1,none⟩ (vI (-1))).setCell ⟨rb,k*3+2,none⟩ (.slice none 0 0)).cell? ⟨rb,k*3+1,none⟩by unfold World.cell?;simp only[hu4]]
  rw[World.cell?_setCell_other _ _ _ _ (J5 (.inr (by omega)))]
  refine World.cell?_setCell_same _ _ _ (u:=y1) ?_
  rw[World.cell?_setCell_other _ _ _ _ (J5 (.inr (by omega)))]
  exact(cellrb _).trans c1
 ·rw[show u4.cell? ⟨rb,o,none⟩=(((u3.setCell ⟨rb,k*3,none⟩ (.bool false)).setCell ⟨rb,k*3+1,none⟩ (vI (-1))).setCell ⟨rb,k*3+2,none⟩ (.slice none 0 0)).cell? ⟨rb,o,none⟩by unfold World.cell?;simp only[hu4]]
  rw[World.cell?_setCell_other _ _ _ _ (J5 (.inr (by omega))),World.cell?_setCell_other _ _ _ _ (J5 (.inr (by omega))),World.cell?_setCell_other _ _ _ _ (J5 (.inr (by omega)))]
  exact cellrb o
end
def B6(u:World)(ra:Option Addr)(al:Nat):Prop:=∀rb,ra=some ⟨rb,0,none⟩→∀k,k<al→u.cell? ⟨rb,k*3+1,none⟩=some (vI (-1))
theorem B6.off{X:Nat→Prop}{ra:Option Addr}{al:Nat}(h:B6 w ra al)(hO:i2 X w u)(hX:∀rb,ra=some ⟨rb,0,none⟩→¬X rb):B6 u ra al:=fun rb e k hk=>hO.cell (h rb e k hk) (hX rb e)
structure w0Y(w:World)(ba aa n i:Nat)(rows:Nat→Value)(qs:List SA):Prop where
 q:w.cell? ⟨ba,0,none⟩=some (vL aa 0 n n)
 h0:w.cell? ⟨aa,i,none⟩=some (rows i)
 row:w.ownsRow 0 44 3 (rows i) qs.length (i5 qs)
 ls:∀a∈qs,∃xs,w.ownsRow 0 2 1 a.row a.an.2.2.length xs
 sm:∀a∈qs,a.an.2.2.length<1000000
 len:qs.length<1000000
 lb:∀a∈qs,∀g,a.row.ownBlock=some g→g≠ba∧g≠aa∧(rows i).ownBlock≠some g
 rb:∀g,(rows i).ownBlock=some g→g≠ba∧g≠aa
section
variable{ba aa n i:Nat}{rows:Nat→Value}{qs:List SA}{x2 x3 x5 x6 x7 x10:Value}
def RwX(rows:Nat→Value)(i:Nat)(qs:List SA)(r:Nat):Prop:=(∃a∈qs,a.row.ownBlock=some r)∨(rows i).ownBlock=some r
theorem o0A(H:w0Y w ba aa n i rows qs)(hi:i<n){A:Array Value}(hA:G0 301 A [(2,x2),(3,x3),(5,x5),(6,x6),(7,x7),(9,vP ba 0),(10,x10),(15,vI (i:Nat))]):
 skps48.wp Try.prog (F7 fun a u=>a.defers=[]∧G0 301 a.tmps [(2,x2),(3,x3),(5,x5),(6,x6),(7,x7),(9,vP ba 0),(10,x10),(15,vI (i:Nat))]∧i2 (RwX rows i qs) w u∧B6 u (w9 (rows i)) qs.length) ⟨A,[]⟩ w:=by
 obtain⟨ra,ac,hra⟩:=S2 H.row
 obtain⟨q,h0,row,ls,sm,len,lb,rb⟩:=H
 rw[r00]
 refine o3 (t01 hA) fun A u ⟨_,hS,hu⟩=>?_
 rw[o0N,q0o,r03,r04,l0l]
 have qX:¬RwX rows i qs ba:=fun h=>by
  rcases h with⟨a,ha,e⟩|e
  ·exact(lb a ha ba e).1 rfl
  ·exact(rb ba e).1 rfl
 have aX:¬RwX rows i qs aa:=fun h=>by
  rcases h with⟨a,ha,e⟩|e
  ·exact(lb a ha aa e).2.1 rfl
  ·exact(rb aa e).2 rfl
 refine n6 (I:=fun g a u=>a.defers=[]∧∃k,k≤qs.length∧g=qs.length - k∧G0 301 a.tmps [(2,x2),(3,x3),(5,x5),(6,x6),(7,x7),(9,vP ba 0),(10,x10),(15,vI (i:Nat)),(16,vI (k:Nat))]∧i2 (RwX rows i qs) w u∧∀r0,ra=some ⟨r0,0,none⟩→(∀k',k'<k→u.cell? ⟨r0,k'*3+1,none⟩=some (vI (-1)))∧∀k',k≤k'→u.cell? ⟨r0,k'*3+2,none⟩=w.cell? ⟨r0,k'*3+2,none⟩)
  (J:=fun g a u=>a.defers=[]∧∃k,k<qs.length∧g=qs.length - k∧G0 301 a.tmps [(2,x2),(3,x3),(5,x5),(6,x6),(7,x7),(9,vP ba 0),(10,x10),(15,vI (i:Nat)),(16,vI (k:Nat))]∧i2 (RwX rows i qs) w u∧∀r0,ra=some ⟨r0,0,none⟩→(∀k',k'<k→u.cell? ⟨r0,k'*3+1,none⟩=some (vI (-1)))∧∀k',k≤k'→u.cell? ⟨r0,k'*3+2,none⟩=w.cell? ⟨r0,k'*3+2,none⟩)
  (fun g a u ⟨hd,k,h1,h2,hS,hO,hR⟩=>?_) (fun g a u ⟨hd0,k,h1,h2,hS,hO,hR⟩=>?_) (g:=qs.length) ⟨rfl,0,Nat.zero_le _,rfl,hS,i2.of_heap hu,fun r0 e=>⟨fun k' h=>by omega,fun k' _=>by unfold World.cell?;simp only[hu]⟩⟩
 ·rw[L2 hd]
  have p1:=hO.cell h0 aX
  rw[hra]at p1
  refine Y0 (t02 (hO.cell q qX) hi p1 hS) fun a u' ⟨hd,⟨s0,s2,s3,s5,s6,s7,s9,s10,s15,s16,s152,_⟩,hu⟩=>?_
  have hR':∀r0,ra=some ⟨r0,0,none⟩→(∀k',k'<k→u'.cell? ⟨r0,k'*3+1,none⟩=some (vI (-1)))∧∀k',k≤k'→u'.cell? ⟨r0,k'*3+2,none⟩=w.cell? ⟨r0,k'*3+2,none⟩:=fun r0 e=>by
   obtain⟨a1,a2⟩:=hR r0 e
   exact⟨fun k' h=>by have:=a1 k' h;simpa only[World.cell?,hu]using this,fun k' h=>by have:=a2 k' h;simpa only[World.cell?,hu]using this⟩
  by_cases hj:k<qs.length
  ·exact .inl ⟨by rw[s152,decide_eq_true hj],hd,k,hj,h2,⟨s0,s2,s3,s5,s6,s7,s9,s10,s15,s16,trivial⟩,hO.heap hu,hR'⟩
  ·obtain rfl:k=qs.length:=by omega
   refine .inr ⟨by rw[s152,decide_eq_false hj],hd,⟨s0,s2,s3,s5,s6,s7,s9,s10,s15,trivial⟩,hO.heap hu,fun r0 e=>(hR' r0 ?_).1⟩
   rw[hra]at e
   exact e
 ·obtain⟨a,ha⟩:∃a,qs[k]? =some a:=⟨_,List.getElem?_eq_getElem h1⟩
  have hma:=List.mem_of_getElem? ha
  obtain⟨xs,hxs⟩:=ls a hma
  obtain⟨la,lc,hla⟩:=S2 hxs
  have hll:a.ll=a.an.2.2.length:=(Value.slice.inj (show Value.slice a.la a.ll a.lc=_ from hla)).2.1
  obtain⟨_,_,g2⟩:=e0i qs k a ha
  obtain⟨r0,cap,er,a2⟩:=M5 row g2
  have era:ra=some ⟨r0,0,none⟩:=by rw[hra]at er;cases er;rfl
  have hac:rows i=vL r0 0 qs.length ac:=by rw[hra,era]
  have hrob:(rows i).ownBlock=some r0:=by rw[hac];rfl
  have g3:u.cell? ⟨r0,k*3+2,none⟩=some a.row:=((hR r0 era).2 k (Nat.le_refl _)).trans a2.c
  rw[hla]at g3
  obtain⟨ys,hys⟩:=hO.own hxs
  rw[hla]at hys
  have p1:=hO.cell h0 aX
  rw[hac]at p1
  obtain⟨zs,hzs⟩:=hO.own row
  rw[hac]at hzs
  rw[L2 hd0,r05]
  have hb:=E3 (id:=13) (o0l (hO.cell q qX) hi p1 h1 g3 hys (by have:=sm a hma;omega) (fun g hg=>by
   rw[← hla]at hg
   obtain⟨b1,b2,b3⟩:=lb a hma g hg
   exact⟨b1,b2,fun e=>b3 (by rw[hrob,e])⟩) ⟨zs,hzs⟩ (rb r0 hrob) hS)
  rw[← o0O]at hb
  refine o3 hb fun A u2 ⟨_,hS2,hO2,hN,hQ⟩=>?_
  refine Y0 (t03 (by omega) hS2) fun a3 u3 ⟨hd,hS3,hu3⟩=>⟨qs.length - (k+1),by omega,hd,k+1,h1,rfl,hS3,?_,fun r1 e1=>?_⟩
  ·refine(hO.step hO2 fun r hr=>.inl ?_).heap hu3
   rcases hr with hr|hr
   ·exact .inl ⟨a,hma,by rw[hla];exact hr⟩
   ·exact .inr (by rw[hrob,hr])
  ·rw[era]at e1
   cases e1
   have hc:∀o,u3.cell? ⟨r0,o,none⟩=u2.cell? ⟨r0,o,none⟩:=fun o=>by unfold World.cell?;simp only[hu3]
   refine⟨fun k' hk'=>?_,fun k' hk'=>?_⟩
   ·rw[hc]
    by_cases e:k'=k
    ·subst e;exact hN
    ·rw[hQ _ (by omega)]
     exact(hR r0 era).1 k' (by omega)
   ·rw[hc,hQ _ (by omega)]
    exact(hR r0 era).2 k' (by omega)
theorem o0E(hla:∃xs,w.ownsRow 0 44 3 (rows i) qs.length xs∧∀k,k<qs.length→xs[k*3+1]? =some (vI (-1)))(hl:qs.length<1000000){A:Array Value}(hA:G0 301 A [(2,x2),(3,x3),(5,x5),(6,x6),(7,x7),(9,vP ba 0),(10,x10),(15,vI (i:Nat)),(19,rows i)]):
 skps62.wp Try.prog (F7 fun a u=>a.defers=[]∧G0 301 a.tmps [(2,x2),(3,x3),(5,x5),(6,x6),(7,x7),(9,vP ba 0),(10,x10),(15,vI (i:Nat))]∧i2 (fun r=>(rows i).ownBlock=some r) w u∧B6 u (w9 (rows i)) qs.length) ⟨A,[]⟩ w:=by
 obtain⟨xs,hx,hx1⟩:=hla
 rw[s0R]
 refine o3 (u0w hA) fun A u ⟨_,hS,hu⟩=>?_
 rw[p0e,q0q,s0S,s0T,l0p]
 have base:∀{u:World} {xs:List Value} {l:Value} {m:Nat},u.ownsRow 0 44 3 l (qs.length+m) xs→(∀k,k<qs.length→xs[k*3+1]? =some (vI (-1)))→∀rb,l.ownBlock=some rb→∀k,k<qs.length→u.cell? ⟨rb,k*3+1,none⟩=some (vI (-1)):=fun h h1 rb e k hk=>by
  obtain⟨b,cap,e1,a1⟩:=M5 h (h1 k hk)
  rw[e1]at e
  cases e
  exact a1.c
 have hob:∀rb,w9 (rows i)=some ⟨rb,0,none⟩→(rows i).ownBlock=some rb:=fun rb e=>by
  obtain⟨a,c,e1⟩:=S2 hx
  rw[e1]at e ⊢
  have e:a=_:=e
  rw[e];rfl
 refine n6 (I:=fun g a u=>a.defers=[]∧∃t l xs,t≤8∧g=8 - t∧G0 301 a.tmps [(2,x2),(3,x3),(5,x5),(6,x6),(7,x7),(9,vP ba 0),(10,x10),(15,vI (i:Nat)),(19,l),(20,vI (t:Nat))]∧i2 (fun r=>(rows i).ownBlock=some r) w u∧B6 u (w9 (rows i)) qs.length∧u.ownsRow 0 44 3 l (qs.length+t) xs∧(∀k,k<qs.length→xs[k*3+1]? =some (vI (-1)))∧(l.ownBlock=(rows i).ownBlock∨∀g,l.ownBlock=some g→w.heap.size≤g))
  (J:=fun g a u=>a.defers=[]∧∃t l xs,t<8∧g=8 - t∧G0 301 a.tmps [(2,x2),(3,x3),(5,x5),(6,x6),(7,x7),(9,vP ba 0),(10,x10),(15,vI (i:Nat)),(19,l),(20,vI (t:Nat))]∧i2 (fun r=>(rows i).ownBlock=some r) w u∧B6 u (w9 (rows i)) qs.length∧u.ownsRow 0 44 3 l (qs.length+t) xs∧(∀k,k<qs.length→xs[k*3+1]? =some (vI (-1)))∧(l.ownBlock=(rows i).ownBlock∨∀g,l.ownBlock=some g→w.heap.size≤g))
  (fun g a u ⟨hd,t,l,xs,h1,h2,hS,hO,hR,hl1,hl2,hl3⟩=>?_) (fun g a u ⟨hd0,t,l,xs,h1,h2,hS,hO,hR,hl1,hl2,hl3⟩=>?_) (g:=8) ⟨rfl,0,rows i,xs,Nat.zero_le _,rfl,hS,i2.of_heap hu,fun rb e k hk=>?_,K0 hx fun b _ _=>by rw[hu],hx1,.inl rfl⟩
 rotate_left 2
 ·have:=base (m:=0) hx hx1 rb (hob rb e) k hk
  simpa only[World.cell?,hu]using this
 ·rw[L2 hd]
  refine Y0 (u0x hS) fun a u' ⟨hd,⟨s0,s2,s3,s5,s6,s7,s9,s10,s15,s19,s20,s208,_⟩,hu⟩=>?_
  have hR':B6 u' (w9 (rows i)) qs.length:=fun rb e k hk=>by have:=hR rb e k hk;simpa only[World.cell?,hu]using this
  by_cases hj:t<8
  ·exact .inl ⟨by rw[s208,decide_eq_true (show((t:Nat):Int)<8 by omega)],hd,t,l,xs,hj,h2,⟨s0,s2,s3,s5,s6,s7,s9,s10,s15,s19,s20,trivial⟩,hO.heap hu,hR',K0 hl1 fun b _ _=>by rw[hu],hl2,hl3⟩
  ·exact .inr ⟨by rw[s208,decide_eq_false (show ¬((t:Nat):Int)<8 by omega)],hd,⟨s0,s2,s3,s5,s6,s7,s9,s10,s15,trivial⟩,hO.heap hu,hR'⟩
 ·obtain⟨va,vc,rfl⟩:=S2 hl1
  rw[L2 hd0,s0U]
  have hb:=E3 (id:=17) (u0z (by omega) hl1 hS)
  rw[← p0i]at hb
  refine o3 hb fun A u2 ⟨_,v',w1,hS2,k1,k1s,hA2⟩=>?_
  have hO2:i2 (fun r=>(rows i).ownBlock=some r) w u2:=(hO.step (Y:=fun _=>False) (i2.kept k1) fun r h=>h.elim).step hA2.off fun r h=>by
   rcases hl3 with e|h3
   ·exact .inl (by rw[← e];exact h)
   ·exact .inr (h3 r h)
  refine Y0 (u0y (by omega) hS2) fun a u3 ⟨hd,hS3,hu3⟩=>⟨8 - (t+1),by omega,hd,t+1,v',_,h1,rfl,hS3,hO2.heap hu3,fun rb e k hk=>?_,K0 (by rw[← Nat.add_assoc];exact hA2.r1) fun b _ _=>by rw[hu3],fun k hk=>?_,?_⟩
  ·have hc:u2.cell? ⟨rb,k*3+1,none⟩=some (vI (-1)):=by
    by_cases e2:(Value.slice va (qs.length+t) vc).ownBlock=some rb
    ·exact base hA2.r2 hl2 rb e2 k hk
    ·have h3:=hR rb e k hk
     have hlt:rb<u.heap.size:=by obtain⟨c,e,z,ho⟩:=M3 h3;exact(Q3 ho)
     have e3:=(hA2.g.block rb (Nat.lt_of_lt_of_le hlt k1.1) fun e4=>e2 e4.symm).trans (k1.2 rb hlt)
     rw[← h3];unfold World.cell?;simp only[e3]
   simpa only[World.cell?,hu3]using hc
  ·have h3:=hl2 k hk
   rw[List.getElem?_append_left (List.getElem?_eq_some_iff.1 h3).1]
   exact h3
  ·rcases hA2.b with e|⟨g',e,h⟩
   ·rw[e];exact hl3
   ·refine .inr fun g hg=>?_
    rw[e]at hg
    cases hg
    have h5:=k1.1
    have h6:=hO.s
    omega
end
section
variable{ba aa n:Nat}{rows:Nat→Value}{av:Nat→List SA}{x2 x3 x5 x6 x7 x10:Value}
structure w0W(w:World)(ba aa n:Nat)(rows:Nat→Value)(av:Nat→List SA):Prop where
 q:w.cell? ⟨ba,0,none⟩=some (vL aa 0 n n)
 h0:∀i,i<n→w.cell? ⟨aa,i,none⟩=some (rows i)
 row:∀i,i<n→w.ownsRow 0 44 3 (rows i) (av i).length (i5 (av i))
 ls:∀i,i<n→∀a∈av i,∃xs,w.ownsRow 0 2 1 a.row a.an.2.2.length xs
 sm:∀i,i<n→∀a∈av i,a.an.2.2.length<1000000
 len:∀i,i<n→(av i).length<1000000
 lb:∀i,i<n→∀a∈av i,∀g,a.row.ownBlock=some g→g≠ba∧g≠aa∧∀j,j<n→(rows j).ownBlock≠some g
 rb:∀i,i<n→∀g,(rows i).ownBlock=some g→g≠ba∧g≠aa
 dj:∀i j,i<n→j<n→i≠j→∀r,(rows i).ownBlock=some r→(rows j).ownBlock≠some r
def AnX(rows:Nat→Value)(av:Nat→List SA)(n:Nat)(r:Nat):Prop:=∃i,i<n∧RwX rows i (av i) r
theorem o0y(H:w0W w ba aa n rows av)(hn:n<1000000){A:Array Value}(hA:G0 301 A [(2,x2),(3,x3),(5,x5),(6,x6),(7,x7),(9,vP ba 0),(10,x10)]):
 skps42.wp Try.prog (F7 fun a u=>a.defers=[]∧G0 301 a.tmps [(2,x2),(3,x3),(5,x5),(6,x6),(7,x7),(9,vP ba 0),(10,x10)]∧i2 (AnX rows av n) w u∧∀i,i<n→B6 u (w9 (rows i)) (av i).length) ⟨A,[]⟩ w:=by
 obtain⟨q,h0,row,ls,sm,len,lb,rb,dj⟩:=H
 rw[r0J]
 refine o3 (t0R hA) fun A u ⟨_,hS,hu⟩=>?_
 rw[o0L,q0n,r0K,r0L,k08]
 have qX:¬AnX rows av n ba:=fun⟨i,hi,h⟩=>by
  rcases h with⟨a,ha,e⟩|e
  ·exact(lb i hi a ha ba e).1 rfl
  ·exact(rb i hi ba e).1 rfl
 have aX:¬AnX rows av n aa:=fun⟨i,hi,h⟩=>by
  rcases h with⟨a,ha,e⟩|e
  ·exact(lb i hi a ha aa e).2.1 rfl
  ·exact(rb i hi aa e).2 rfl
 have far:∀i j,i<n→j<n→i≠j→∀g,(rows i).ownBlock=some g→¬RwX rows j (av j) g:=fun i j hi hj hij g hg h=>by
  rcases h with⟨a,ha,e⟩|e
  ·exact(lb j hj a ha g e).2.2 i hi hg
  ·exact dj i j hi hj hij g hg e
 have sub:∀m,m≤n→∀r,AnX rows av m r→AnX rows av n r:=fun m hm r ⟨i,hi,h⟩=>⟨i,by omega,h⟩
 have hob:∀i,i<n→∀rb,w9 (rows i)=some ⟨rb,0,none⟩→(rows i).ownBlock=some rb:=fun i hi rb e=>by
  obtain⟨a,c,e1⟩:=S2 (row i hi)
  rw[e1]at e ⊢
  have e:a=_:=e
  rw[e];rfl
 refine n6 (I:=fun g a u=>a.defers=[]∧∃i,i≤n∧g=n - i∧G0 301 a.tmps [(2,x2),(3,x3),(5,x5),(6,x6),(7,x7),(9,vP ba 0),(10,x10),(15,vI (i:Nat))]∧i2 (AnX rows av i) w u∧∀j,j<i→B6 u (w9 (rows j)) (av j).length)
  (J:=fun g a u=>a.defers=[]∧∃i,i<n∧g=n - i∧G0 301 a.tmps [(2,x2),(3,x3),(5,x5),(6,x6),(7,x7),(9,vP ba 0),(10,x10),(15,vI (i:Nat))]∧i2 (AnX rows av i) w u∧∀j,j<i→B6 u (w9 (rows j)) (av j).length)
  (fun g a u ⟨hd,i,h1,h2,hS,hO,hR⟩=>?_) (fun g a u ⟨hd0,i,h1,h2,hS,hO,hR⟩=>?_) (g:=n) ⟨rfl,0,Nat.zero_le _,rfl,hS,i2.of_heap hu,fun j hj=>by omega⟩
 ·rw[L2 hd]
  refine Y0 (t0S (hO.cell q fun h=>qX (sub i h1 _ h)) hS) fun a u' ⟨hd,⟨s0,s2,s3,s5,s6,s7,s9,s10,s15,s142,_⟩,hu⟩=>?_
  have hR':∀j,j<i→B6 u' (w9 (rows j)) (av j).length:=fun j hj rb e k hk=>by have:=hR j hj rb e k hk;simpa only[World.cell?,hu]using this
  by_cases hj:i<n
  ·exact .inl ⟨by rw[s142,decide_eq_true hj],hd,i,hj,h2,⟨s0,s2,s3,s5,s6,s7,s9,s10,s15,trivial⟩,hO.heap hu,hR'⟩
  ·obtain rfl:i=n:=by omega
   exact .inr ⟨by rw[s142,decide_eq_false hj],hd,⟨s0,s2,s3,s5,s6,s7,s9,s10,trivial⟩,hO.heap hu,hR'⟩
 ·have kx:∀r,AnX rows av i r→(rows i).ownBlock≠some r:=fun r ⟨j,hj,h⟩ e=>far i j h1 (by omega) (by omega) r e h
  have Hi:w0Y u ba aa n i rows (av i):=⟨hO.cell q fun h=>qX (sub i (by omega) _ h),hO.cell (h0 i h1) fun h=>aX (sub i (by omega) _ h),hO.same (row i h1) fun b hb h=>kx b h hb,fun a ha=>by obtain⟨xs,hx⟩:=ls i h1 a ha;exact hO.own hx,sm i h1,len i h1,fun a ha g hg=>⟨(lb i h1 a ha g hg).1,(lb i h1 a ha g hg).2.1,(lb i h1 a ha g hg).2.2 i h1⟩,rb i h1⟩
  rw[L2 hd0,r0W]
  have hb:skpb11.wp Try.prog (F7 fun a u'=>a.defers=[]∧G0 301 a.tmps [(2,x2),(3,x3),(5,x5),(6,x6),(7,x7),(9,vP ba 0),(10,x10),(15,vI (i:Nat))]∧i2 (RwX rows i (av i)) u u'∧B6 u' (w9 (rows i)) (av i).length) ⟨a.tmps,[]⟩ u:=by
   rw[o0M,r0Z]
   refine E3 (o3 (o0A Hi h1 hS) fun A u1 ⟨_,hS1,hO1,hN1⟩=>?_)
   obtain⟨xs,hx⟩:=hO1.own Hi.row
   have hxn:∀k,k<(av i).length→xs[k*3+1]? =some (vI (-1)):=fun k hk=>by
    obtain⟨g,c,e,⟨x,hc,hxx⟩,_⟩:=N5 hx (j:=k*3+1) (by omega)
    have:=hN1 g (by rw[e];rfl) k hk
    rw[hc]at this
    cases this
    exact hxx
   have p1:=hO1.cell Hi.h0 fun h=>by
    rcases h with⟨a,ha,e⟩|e
    ·exact(lb i h1 a ha aa e).2.1 rfl
    ·exact(rb i h1 aa e).2 rfl
   have q1:=hO1.cell Hi.q fun h=>by
    rcases h with⟨a,ha,e⟩|e
    ·exact(lb i h1 a ha ba e).1 rfl
    ·exact(rb i h1 ba e).1 rfl
   obtain⟨ra,ac,hra⟩:=S2 hx
   rw[hra]at p1
   rw[s0G]
   refine o3 (u0v q1 h1 p1 hS1) fun A u2 ⟨_,hS2,hu2⟩=>?_
   rw[← hra]at hS2
   refine Y0 (o0E (w:=u2) ⟨xs,K0 hx fun b _ _=>by rw[hu2],hxn⟩ (len i h1) hS2) fun a u3 ⟨hd,hS3,hO3,hN3⟩=>⟨hd,hS3,?_,hN3⟩
   exact(hO1.heap hu2).step hO3 fun r hr=>.inl (.inr hr)
  refine o3 hb fun A u2 ⟨_,hS2,hO2,hN2⟩=>?_
  refine Y0 (t0Z (by omega) hS2) fun a u3 ⟨hd,hS3,hu3⟩=>⟨n - (i+1),by omega,hd,i+1,h1,rfl,hS3,?_,fun j hj=>?_⟩
  ·exact((hO.mono fun r _ ⟨j,hj,h⟩=>⟨j,by omega,h⟩).step hO2 fun r hr=>.inl ⟨i,by omega,hr⟩).heap hu3
  ·have hN3:B6 u2 (w9 (rows j)) (av j).length:=by
    by_cases e:j=i
    ·subst e;exact hN2
    ·exact(hR j (by omega)).off hO2 fun rb e1=>far j i (by omega) h1 e rb (hob j (by omega) rb e1)
   exact fun rb e k hk=>by have:=hN3 rb e k hk;simpa only[World.cell?,hu3]using this
theorem o0F(q:w.cell? ⟨ba,0,none⟩=some (vL aa 0 n n))(h0:∀i,i<n→w.cell? ⟨aa,i,none⟩=some (rows i))(row:∀i,i<n→∃xs,w.ownsRow 0 44 3 (rows i) (av i).length xs)(len:∀i,i<n→(av i).length<1000000)(hn:n<1000000)(hN:∀i,i<n→B6 w (w9 (rows i)) (av i).length){A:Array Value}(hA:G0 301 A [(2,x2),(3,x3),(5,x5),(6,x6),(7,x7),(9,vP ba 0),(10,x10)]):
 skps68.wp Try.prog (F7 fun a u=>a.defers=[]∧G0 301 a.tmps [(2,x2),(3,x3),(5,x5),(6,x6),(7,x7),(9,vP ba 0),(10,x10)]∧u.heap=w.heap) ⟨A,[]⟩ w:=by
 have cc:∀{u:World} {a:Addr} {v:Value},u.heap=w.heap→w.cell? a=some v→u.cell? a=some v:=fun hu h=>by simpa only[World.cell?,hu]using h
 rw[s0V]
 refine o3 (u0A hA) fun A u ⟨_,hS,hu⟩=>?_
 rw[p0j,q0r,s0W,s0X,l0q]
 refine n6 (I:=fun g a u=>a.defers=[]∧∃i,i≤n∧g=n - i∧G0 301 a.tmps [(2,x2),(3,x3),(5,x5),(6,x6),(7,x7),(9,vP ba 0),(10,x10),(21,vI (i:Nat))]∧u.heap=w.heap)
  (J:=fun g a u=>a.defers=[]∧∃i,i<n∧g=n - i∧G0 301 a.tmps [(2,x2),(3,x3),(5,x5),(6,x6),(7,x7),(9,vP ba 0),(10,x10),(21,vI (i:Nat))]∧u.heap=w.heap)
  (fun g a u ⟨hd,i,h1,h2,hS,hO⟩=>?_) (fun g a u ⟨hd0,i,h1,h2,hS,hO⟩=>?_) (g:=n) ⟨rfl,0,Nat.zero_le _,rfl,hS,hu⟩
 ·rw[L2 hd]
  refine Y0 (u0B (cc hO q) hS) fun a u' ⟨hd,⟨s0,s2,s3,s5,s6,s7,s9,s10,s21,s219,_⟩,hu⟩=>?_
  by_cases hj:i<n
  ·exact .inl ⟨by rw[s219,decide_eq_true hj],hd,i,hj,h2,⟨s0,s2,s3,s5,s6,s7,s9,s10,s21,trivial⟩,hu.trans hO⟩
  ·exact .inr ⟨by rw[s219,decide_eq_false hj],hd,⟨s0,s2,s3,s5,s6,s7,s9,s10,trivial⟩,hu.trans hO⟩
 ·obtain⟨xs,hx⟩:=row i h1
  obtain⟨ra,ac,hra⟩:=S2 hx
  have p0:=h0 i h1
  rw[hra]at p0 hx
  rw[L2 hd0,s0Y]
  have hb:skpb19.wp Try.prog (F7 fun a u'=>a.defers=[]∧G0 301 a.tmps [(2,x2),(3,x3),(5,x5),(6,x6),(7,x7),(9,vP ba 0),(10,x10),(21,vI (i:Nat))]∧u'.heap=w.heap) ⟨a.tmps,[]⟩ u:=by
   rw[p0k,s0Z]
   refine E3 (o3 (u0R hS) fun A u1 ⟨_,hS1,hu1⟩=>?_)
   rw[p0A,q0s,s00,s01,l0r]
   refine n6 (I:=fun g a u=>a.defers=[]∧∃k,k≤(av i).length∧g=(av i).length - k∧G0 301 a.tmps [(2,x2),(3,x3),(5,x5),(6,x6),(7,x7),(9,vP ba 0),(10,x10),(21,vI (i:Nat)),(22,vI (k:Nat))]∧u.heap=w.heap)
    (J:=fun g a u=>a.defers=[]∧∃k,k<(av i).length∧g=(av i).length - k∧G0 301 a.tmps [(2,x2),(3,x3),(5,x5),(6,x6),(7,x7),(9,vP ba 0),(10,x10),(21,vI (i:Nat)),(22,vI (k:Nat))]∧u.heap=w.heap)
    (fun g a u ⟨hd,k,h3,h4,hS,hO⟩=>?_) (fun g a u ⟨hd0,k,h3,h4,hS,hO⟩=>?_) (g:=(av i).length) ⟨rfl,0,Nat.zero_le _,rfl,hS1,hu1.trans hO⟩
   ·rw[L2 hd]
    refine Y0 (v0p (cc hO q) h1 (cc hO p0) hS) fun a u' ⟨hd,⟨s0,s2,s3,s5,s6,s7,s9,s10,s21,s22,s229,_⟩,hu⟩=>?_
    by_cases hj:k<(av i).length
    ·exact .inl ⟨by rw[s229,decide_eq_true hj],hd,k,hj,h4,⟨s0,s2,s3,s5,s6,s7,s9,s10,s21,s22,trivial⟩,hu.trans hO⟩
    ·exact .inr ⟨by rw[s229,decide_eq_false hj],hd,⟨s0,s2,s3,s5,s6,s7,s9,s10,s21,trivial⟩,hu.trans hO⟩
   ·obtain⟨rb,cap,e,⟨x,hc,_⟩,_⟩:=N5 hx (j:=k*3+1) (by omega)
    have era:ra=some ⟨rb,0,none⟩:=by cases e;rfl
    have hm:=hN i h1 rb (by rw[hra,era];rfl) k h3
    have p1:=p0
    rw[era]at p1
    rw[L2 hd0,s02]
    have hb:=E3 (id:=21) (v0r (cc hO q) h1 (cc hO p1) h3 (cc hO hm) hS)
    rw[← p0N]at hb
    refine o3 hb fun A u2 ⟨_,hS2,hu2⟩=>?_
    have:=len i h1
    exact Y0 (v0q (by omega) hS2) fun a u3 ⟨hd,hS3,hu3⟩=>⟨(av i).length - (k+1),by omega,hd,k+1,h3,rfl,hS3,hu3.trans (hu2.trans hO)⟩
  refine o3 hb fun A u2 ⟨_,hS2,hu2⟩=>?_
  exact Y0 (u0C (by omega) hS2) fun a u3 ⟨hd,hS3,hu3⟩=>⟨n - (i+1),by omega,hd,i+1,h1,rfl,hS3,hu3.trans hu2⟩
end
end
section
structure OkC(N:Nat)(c:J8):Prop where
 o:c.out.length≤N
 r:c.kd=3→c.ph=1→c.out.length=c.i∧c.i<N
 w:c.kd=4→c.out.length=c.i∧c.i<N
structure OkR(N:Nat)(r:R1×SRs):Prop where
 n:r.1.ws.length=N
 c:∀c,r.2= .inl c→OkC N c
 a:∀a,r.2= .inr a→a.2.2.length≤17
theorem OkR.inl{N:Nat}{s:R1}{c:J8}(h:s.ws.length=N)(hc:OkC N c):OkR N (s,.inl c):=⟨h,fun c e=>(by cases e;exact hc),fun a e=>(by cases e)⟩
theorem OkR.inr{N:Nat}{s:R1}{a:g8}(h:s.ws.length=N)(ha:a.2.2.length≤17):OkR N (s,.inr a):=⟨h,fun c e=>(by cases e),fun a e=>(by cases e;exact ha)⟩
theorem i0U{N:Nat}{s:R1}{o:P3}(h:s.ws.length=N)(h0:0<N):OkR N (s.begin o):=by
 unfold R1.begin
 split
 ·exact .inl h ⟨Nat.zero_le _,fun h=>by simp at h,fun h=>by simp at h⟩
 ·split
  ·exact .inl h ⟨Nat.zero_le _,fun h=>by simp at h,fun h=>by simp at h⟩
  ·split
   ·exact .inl h ⟨Nat.zero_le _,fun _ h=>by simp at h,fun h=>by simp at h⟩
   ·split
    ·exact .inl h ⟨Nat.zero_le _,fun h=>by simp at h,fun _=>⟨rfl,h0⟩⟩
    ·split
     ·exact .inl h ⟨Nat.zero_le _,fun h=>by simp at h,fun h=>by simp at h⟩
     ·exact .inr h (Nat.zero_le _)
theorem D7{N:Nat}{s:R1}{c:J8}(h:s.ws.length=N)(hk:c.kd≠4):OkR N (s.again c):=by
 unfold R1.again
 split
 ·exact .inl h ⟨Nat.zero_le _,fun _ h=>by simp at h,fun h=>absurd h hk⟩
 ·exact .inr h (Nat.zero_le _)
theorem j0L{N:Nat}{s:R1}{c:J8}(h:s.ws.length=N)(hk:c.kd=1∨c.kd=2)(hc:OkC N c):OkR N (s.wstep c):=by
 have k3:c.kd≠3:=by omega
 have k4:c.kd≠4:=by omega
 unfold R1.wstep
 split
 ·split
  ·exact .inl h ⟨hc.o,fun h=>absurd h k3,fun h=>absurd h k4⟩
  ·exact D7 h k4
 ·split
  ·split
   ·exact .inl h ⟨hc.o,fun h=>absurd h k3,fun h=>absurd h k4⟩
   ·exact D7 h k4
  ·split
   ·refine .inl (by simp[h]) ?_
    split
    ·exact⟨hc.o,fun h=>absurd h k3,fun h=>absurd h k4⟩
    ·exact⟨hc.o,fun h=>absurd h k3,fun h=>absurd h k4⟩
   ·exact .inr h (Nat.zero_le _)
theorem j0F{N:Nat}{s:R1}{c:J8}(h:s.ws.length=N)(h0:0<N)(h16:N≤16)(hk:c.kd=3)(hc:OkC N c):OkR N (s.rstep c):=by
 have k4:c.kd≠4:=by omega
 unfold R1.rstep
 split
 ·split
  ·exact .inl h ⟨Nat.zero_le _,fun _ _=>⟨rfl,h0⟩,fun h=>absurd h k4⟩
  ·exact D7 h k4
 ·split
  ·rename_i hp
   obtain⟨e1,e2⟩:=hc.r hk hp
   refine .inl h ?_
   split
   ·rename_i hlt
    rw[h]at hlt
    exact⟨by simp;omega,fun _ _=>⟨by simp;omega,hlt⟩,fun h=>absurd h k4⟩
   ·exact⟨by simp;omega,fun _ h=>by simp at h,fun h=>absurd h k4⟩
  ·split
   ·exact .inr h (by have:=hc.o;simp only;omega)
   ·exact D7 h k4
theorem m0c{N:Nat}{s:R1}{c:J8}(h:s.ws.length=N)(h0:0<N)(h16:N≤16)(hc:OkC N c):OkR N (s.step c):=by
 unfold R1.step
 split
 ·rename_i hk;exact j0L h hk hc
 ·split
  ·rename_i hk;exact j0F h h0 h16 hk hc
  ·split
   ·rename_i hk
    obtain⟨e1,e2⟩:=hc.w hk
    split
    ·rename_i hlt
     rw[h]at hlt
     exact .inl h ⟨by simp;omega,fun h=>by simp at h;omega,fun _=>⟨by simp;omega,hlt⟩⟩
    ·exact .inr h (by simp;omega)
   ·exact .inr h (Nat.zero_le _)
structure OkT(N:Nat)(t:GT SPl):Prop where
 c:∀c:J8,t.call=some c→OkC N c
 a:∀a:g8,a∈(t.ans:List g8)→a.2.2.length≤17
theorem c0m{N:Nat}(h0:0<N):∀(l:List P3) (q:R1) (t:GT SPl),q.ws.length=N→OkT N t→(r6 SPl l q t).1.ws.length=N∧OkT N (r6 SPl l q t).2
 | [],q,t,h,ht=>⟨h,ht⟩
 | o::l,q,t,h,ht=>by
   obtain⟨q',r,e⟩:∃q' r,q.begin o=(q',r):=⟨_,_,rfl⟩
   have hr:=i0U (o:=o) h h0
   rw[e]at hr
   have e2:SPl.beg q o=(q',r):=e
   cases r with
   | inl c=>
     simp only[r6,e2]
     exact⟨hr.n,fun c' hc'=>(by cases hc';exact hr.c _ rfl),ht.a⟩
   | inr a=>
     simp only[r6,e2]
     refine c0m h0 l q' _ hr.n ⟨fun c hc=>(by cases hc),fun b hb=>?_⟩
     rcases List.mem_append.1 hb with hb|hb
     ·exact ht.a b hb
     ·rw[List.mem_singleton.1 hb];exact hr.a _ rfl
theorem s03{N:Nat}(h0:0<N)(h16:N≤16){ops:List P3}{q:R1}{t:GT SPl}(h:q.ws.length=N)(ht:OkT N t):(H8 SPl ops q t).1.ws.length=N∧OkT N (H8 SPl ops q t).2:=by
 cases hc:t.call with
 | none=>simp only[H8,hc];exact⟨h,ht⟩
 | some c=>
   obtain⟨q',r,e⟩:∃q' r,q.step c=(q',r):=⟨_,_,rfl⟩
   have hr:=m0c h h0 h16 (ht.c c hc)
   rw[e]at hr
   have e2:SPl.stp q c=(q',r):=e
   cases r with
   | inl c'=>
     simp only[H8,hc,e2]
     exact⟨hr.n,fun c'' hc'=>(by cases hc';exact hr.c _ rfl),ht.a⟩
   | inr a=>
     simp only[H8,hc,e2]
     refine c0m h0 _ q' _ hr.n ⟨fun c hc=>(by cases hc),fun b hb=>?_⟩
     rcases List.mem_append.1 hb with hb|hb
     ·exact ht.a b hb
     ·rw[List.mem_singleton.1 hb];exact hr.a _ rfl
structure OkG(N:Nat)(s:GS SPl):Prop where
 q:List.length (R1.ws s.q)=N
 t:∀i,OkT N (s.th i)
theorem OkG.put{N:Nat}{s:GS SPl}(h:OkG N s)(i:Nat){r:R1×GT SPl}(hr:r.1.ws.length=N∧OkT N r.2):OkG N (s.put i r):=
 ⟨hr.1,fun j=>by
  unfold GS.put
  simp only
  split
  ·exact hr.2
  ·exact h.t j⟩
section
variable{N:Nat}{ops:Nat→List P3}{n M:Nat}
theorem E5(h0:0<N){s:GS SPl}(h:OkG N s):∀i,OkG N (N6 SPl ops i s)
 | 0=>h
 | i+1=>(E5 h0 h i).put i (c0m h0 _ _ _ (E5 h0 h i).q ((E5 h0 h i).t i))
theorem j0h(h0:0<N)(h16:N≤16){s:GS SPl×List Nat}(h:OkG N s.1)(i:Int):OkG N (V7 ops n M s i).1:=by
 unfold V7
 split
 ·exact h.put _ (s03 h0 h16 h.q (h.t _))
 ·exact h
theorem n8(h0:0<N)(h16:N≤16):∀(l:List Int) (s:GS SPl×List Nat),OkG N s.1→OkG N (U4 ops n M l s).1
 | [],s,h=>h
 | i::l,s,h=>n8 h0 h16 l _ (j0h h0 h16 h i)
theorem a0v(h0:0<N)(h16:N≤16):∀(f:Nat) (s:GS SPl×List Nat),OkG N s.1→OkG N (Z3 ops n M f s).1
 | 0,s,h=>h
 | f+1,s,h=>by
   unfold Z3
   split
   ·exact h
   ·exact a0v h0 h16 f _ (n8 h0 h16 _ _ h)
theorem m0b(vs:List Int):(I4 vs).ws.length=min (max vs.length 1) 16:=by simp[I4]
theorem a0u{S:List Int}{f:Nat}{vs:List Int}(i:Nat):(∀a:g8,a∈(((a0K ops n M S f (⟨I4 vs,fun _=>⟨0,none,[]⟩⟩:GS SPl)).1.th i).ans:List g8)→a.2.2.length≤17)∧(R1.state (a0K ops n M S f (⟨I4 vs,fun _=>⟨0,none,[]⟩⟩:GS SPl)).1.q).length≤17:=by
 have hl:=m0b vs
 have h0:0<(I4 vs).ws.length:=by omega
 have h16:(I4 vs).ws.length≤16:=by omega
 have h:=a0v (ops:=ops) (n:=n) (M:=M) h0 h16 f (U4 ops n M S (N6 SPl ops n (⟨I4 vs,fun _=>⟨0,none,[]⟩⟩:GS SPl),[]))
  (n8 h0 h16 S _ (E5 h0 ⟨rfl,fun i=>⟨fun c hc=>(by cases hc),fun a ha=>(by cases ha)⟩⟩ n))
 refine⟨(h.t i).a,?_⟩
 have:=h.q
 show(_::R1.ws _).length≤17
 rw[List.length_cons]
 have h2:List.length (R1.ws (a0K ops n M S f (⟨I4 vs,fun _=>⟨0,none,[]⟩⟩:GS SPl)).1.q)=(I4 vs).ws.length:=this
 omega
end
end
section
variable{An:G3}{P:Program}{F:Fz}{fn:FuncId}{ops:Array Oper}{S:World→Prop}{last:Nat}{Z:Act→World→Prop}
def m0f(An:G3)(P:Program)(f:FuncId)(args:Array Value)(Post:Value→World→Prop)(w:World):Prop:=
 ∀(c:Frame) (cs:List Frame) (Stop:Goroutine→World→Prop),(∀v w',Post v w'→Q4 An P Stop (G (c.finish v) cs) w')→Q4 An P Stop (G (Frame.enter P f args .normal) (c::cs)) w
def OpB(An:G3)(P:Program)(F:Fz)(fn:FuncId)(ops:Array Oper)(i:Nat)(K:Act→World→Prop)(a:Act)(w:World):Prop:=
 ∃o,ops[i]? =some o∧((Region.wanted o (yielded ops a.tmps)=true∧∀d,uponK o a (fun a' w'=>H7 F (w.at d) w' (listed P fn a o (w.at d))∧K a' w') ((execOp a.eval o).run P (w.at d)))∨
  (Region.wanted o (yielded ops a.tmps)=false∧K (a.put o.dst undef) w)∨
  (Region.wanted o (yielded ops a.tmps)=true∧∃f args Post,(∀w,(execOp a.eval o).run P w= .ok (.enter f args) w)∧(∀w,(execOp a.eval o).events P w #[]= #[])∧(∀d,m0f An P f args Post (w.at d))∧∀v w',Post v w'→K (a.put o.dst v) w'))
def n5(An:G3)(P:Program)(F:Fz)(fn:FuncId)(ops:Array Oper)(S:World→Prop)(last:Nat)(Z:Act→World→Prop):Nat→Array Bool→Act→World→Prop
 | 0,listed,a,w=>((∀j∈Region.ready .any ops listed,j=last)→Z a w)∧∀j∈Region.ready .any ops listed,j=last
 | fuel+1,listed,a,w=>((∀j∈Region.ready .any ops listed,j=last)→Z a w)∧∀i∈Region.ready .any ops listed,i≠last→OpB An P F fn ops i (fun a w=>S w∧n5 An P F fn ops S last Z fuel (listed.setIfInBounds i true) a w) a w
theorem d05{i:Nat}{a:Act}{w:World}{K K':Act→World→Prop}(h:∀a w,K a w→K' a w)(hh:OpB An P F fn ops i K a w):OpB An P F fn ops i K' a w:=by
 obtain⟨o,h1,⟨h2,h3⟩|⟨h2,h3⟩|⟨h2,f,args,Post,r1,r2,r3,r4⟩⟩:=hh
 ·exact⟨o,h1,.inl ⟨h2,fun d=>f0z (fun u w ⟨x,y⟩=>⟨x,h _ _ y⟩) (h3 d)⟩⟩
 ·exact⟨o,h1,.inr (.inl ⟨h2,h _ _ h3⟩)⟩
 ·exact⟨o,h1,.inr (.inr ⟨h2,f,args,Post,r1,r2,r3,fun v w' hp=>h _ _ (r4 v w' hp)⟩)⟩
theorem t0e{i:Nat}{a:Act}{w:World}{K:Act→World→Prop}(hK:∀a w d,K a w→K a (World.at w d))(h:OpB An P F fn ops i K a w)(d:Nat):OpB An P F fn ops i K a (w.at d):=by
 obtain⟨o,h1,⟨h2,h3⟩|⟨h2,h3⟩|⟨h2,f,args,Post,r1,r2,r3,r4⟩⟩:=h
 ·exact⟨o,h1,.inl ⟨h2,fun d'=>by rw[at_at'];exact h3 d'⟩⟩
 ·exact⟨o,h1,.inr (.inl ⟨h2,hK _ _ _ h3⟩)⟩
 ·exact⟨o,h1,.inr (.inr ⟨h2,f,args,Post,r1,r2,fun d'=>by rw[at_at'];exact r3 d',r4⟩)⟩
theorem c0x(hS:∀w d,S w→S (World.at w d))(hZ:∀a w d,Z a w→Z a (World.at w d)):∀(fuel:Nat) (listed:Array Bool) (a:Act) (w:World),n5 An P F fn ops S last Z fuel listed a w→∀d,n5 An P F fn ops S last Z fuel listed a (w.at d):=by
 intro fuel
 induction fuel with
 | zero=>exact fun listed a w h d=>⟨fun x=>hZ _ _ _ (h.1 x),h.2⟩
 | succ fuel ih=>exact fun listed a w h d=>⟨fun x=>hZ _ _ _ (h.1 x),fun i hi hl=>t0e (fun a w d ⟨x,y⟩=>⟨hS _ _ x,ih _ _ _ y d⟩) (h.2 i hi hl) d⟩
theorem m0m{i j:Nat}{oi oj:Oper}{v:Value}(hj:ops[j]? =some oj)(hap:oi.apart ops oj=true)(hsj:∀cs b,oj.op≠.select cs b){K:Act→World→Prop}{a:Act}{w:World}
 (h:OpB An P F fn ops j K (a.put oi.dst v) w):OpB An P F fn ops j (fun a' w'=>∃u,a'=a.put oj.dst u∧K (a'.put oi.dst v) w') a w:=by
 obtain⟨h1,h2,h3⟩:=Oper.apart_spec hap
 obtain⟨o,ho,hh⟩:=h
 rw[hj]at ho
 cases ho
 have e1:execOp (a.put oi.dst v).eval oj=execOp a.eval oj:=execOp_put oj hsj a oi.dst v h1
 have e2:=wanted_put oj a oi.dst v h1
 refine⟨oj,hj,?_⟩
 unfold listed at*
 rw[e1,e2]at hh
 rcases hh with⟨hw,hh⟩|⟨hw,hh⟩|⟨hw,f,args,Post,r1,r2,r3,r4⟩
 ·refine .inl ⟨hw,fun d=>?_⟩
  have:=hh d
  cases hr:(execOp a.eval oj).run P (w.at d)with
  | halt _ _=>rw[hr]at this;exact this
  | ok x w'=>
    rw[hr]at this
    cases x with
    | value u=>exact⟨this.1,u,rfl,by rw[← Act.put_comm a v u h2];exact this.2⟩
    | skip=>exact⟨this.1,undef,rfl,by rw[← Act.put_comm a v undef h2];exact this.2⟩
    | _=>exact this
 ·exact .inr (.inl ⟨hw,undef,rfl,by rw[← Act.put_comm a v undef h2];exact hh⟩)
 ·exact .inr (.inr ⟨hw,f,args,Post,r1,r2,r3,fun u w' hp=>⟨u,rfl,by rw[← Act.put_comm a v u h2];exact r4 u w' hp⟩⟩)
theorem e0y(hS:∀w d,S w→S (World.at w d))(hZ:∀a w d,Z a w→Z a (World.at w d)){i:Nat}{oi:Oper}{v:Value}(hi:ops[i]? =some oi)(hil:i≠last)(hsel:∀(j:Nat) (o:Oper) cs b,ops[j]? =some o→o.op≠.select cs b):
 ∀(fuel:Nat) (listed:Array Bool) (a:Act) (w:World),S w→
  (∀j oj,ops[j]? =some oj→j≠i→listed.getD j true=false→(∀e∈oj.after,Region.binds .any e=true→e.on≠i)→oi.apart ops oj=true)→
  i∈Region.ready .any ops listed→(∀w,S w→YQ P F fn ops w oi v a)→
  n5 An P F fn ops S last Z fuel (listed.setIfInBounds i true) (a.put oi.dst v) w→n5 An P F fn ops S last Z (fuel+1) listed a w:=by
 have self:∀(fuel:Nat) (listed:Array Bool) (a:Act) (w:World),S w→(∀w,S w→YQ P F fn ops w oi v a)→n5 An P F fn ops S last Z fuel (listed.setIfInBounds i true) (a.put oi.dst v) w→
  OpB An P F fn ops i (fun a w=>S w∧n5 An P F fn ops S last Z fuel (listed.setIfInBounds i true) a w) a w:=by
  intro fuel listed a w hw hy H
  rcases hy w hw with⟨h1,h2⟩|⟨h1,rfl⟩
  ·exact⟨oi,hi,.inl ⟨h1,fun d=>by rw[(h2 d).1];exact⟨⟨⟨0,V3.refl F _⟩,(h2 d).2⟩,hS _ _ hw,c0x hS hZ _ _ _ _ H d⟩⟩⟩
  ·exact⟨oi,hi,.inr (.inl ⟨h1,hw,H⟩)⟩
 intro fuel
 induction fuel with
 | zero=>
   intro listed a w hw _ hr hy H
   refine⟨fun h=>absurd (h i hr) hil,fun j hj hjl=>?_⟩
   by_cases hji:j=i
   ·subst hji;exact self _ _ _ _ hw hy H
   ·exact absurd (H.2 j (ready_mono hj hji)) hjl
 | succ fuel ih=>
   intro listed a w hw hfree hr hy H
   refine⟨fun h=>absurd (h i hr) hil,fun j hj hjl=>?_⟩
   by_cases hji:j=i
   ·subst hji;exact self _ _ _ _ hw hy H
   ·have h1:=H.2 j (ready_mono hj hji) hjl
    obtain⟨hjun,oj,hoj,hall⟩:=mem_ready.1 hj
    have hnot:∀e∈oj.after,Region.binds .any e=true→e.on≠i:=fun e he hb heq=>by
     have h1:=hall e he hb
     have h0:=(mem_ready.1 hr).1
     rw[heq]at h1
     rcases Nat.lt_or_ge i listed.size with h'|h'
     ·simp[h']at h0 h1;rw[h0]at h1;cases h1
     ·simp[Array.getElem?_eq_none h']at h1
    have hap:=hfree j oj hoj hji hjun hnot
    obtain⟨p1,p2,p3⟩:=Oper.apart_spec hap
    have h2:=m0m (i:=i) (oi:=oi) hoj hap (fun cs b=>hsel j oj cs b hoj) h1
    have hfree':∀k ok,ops[k]? =some ok→k≠i→(listed.setIfInBounds j true).getD k true=false→
     (∀e∈ok.after,Region.binds .any e=true→e.on≠i)→oi.apart ops ok=true:=fun k ok hk hki hun hno=>by
     refine hfree k ok hk hki ?_ hno
     by_cases hjk:j=k
     ·subst hjk;exact hjun
     ·rw[getD_set_ne true hjk]at hun;exact hun
    refine d05 (fun a' w' h3=>?_) h2
    obtain⟨u,rfl,hw',h4⟩:=h3
    refine⟨hw',ih (listed.setIfInBounds j true) _ _ hw' hfree' (ready_mono hr (Ne.symm hji)) (fun w hw=>(hy w hw).of_same (execOp_put oi (fun cs b=>hsel i oi cs b hi) a oj.dst u p3) (wanted_put oi a oj.dst u p3)) ?_⟩
    rw[Array.setIfInBounds_comm _ _ hji]
    exact h4
theorem W7(hS:∀w d,S w→S (World.at w d))(hZ:∀a w d,Z a w→Z a (World.at w d)){i:Nat}{oi:Oper}{v:Value}{fuel:Nat}{listed:Array Bool}{a:Act}{w:World}(hw:S w)(hi:ops[i]? =some oi)(hil:(i != last)=true)(hs:Region.noSelect ops=true)(hf:Region.free .any ops listed i=true)
 (hr:(Region.ready .any ops listed).contains i=true) (hy:∀w,S w→YQ P F fn ops w oi v a) (h:n5 An P F fn ops S last Z fuel (listed.setIfInBounds i true) (a.put oi.dst v) w):n5 An P F fn ops S last Z (fuel+1) listed a w:=
 e0y hS hZ hi (by simpa using hil) (Region.noSelect_spec hs) fuel listed a w hw (Region.free_spec hi hf) (by simpa using hr) hy h
theorem a0O{fuel:Nat}{listed:Array Bool}{a:Act}{w:World}{r:List Nat}(hr:Region.ready .any ops listed=r)(hl:r.any (· != last)=true)
 (h:∀i∈r,i≠last→OpB An P F fn ops i (fun a w=>S w∧n5 An P F fn ops S last Z fuel (listed.setIfInBounds i true) a w) a w):n5 An P F fn ops S last Z (fuel+1) listed a w:=
 ⟨fun hn=>by
  rw[hr]at hn
  obtain⟨i,hi,hil⟩:=List.any_eq_true.1 hl
  exact absurd (hn i hi) (by simpa using hil),by rw[hr];exact h⟩
theorem d08{listed:Array Bool}{a:Act}{w:World}(hr:Region.ready .any ops listed=[last])(h:Z a w):∀fuel,n5 An P F fn ops S last Z fuel listed a w
 | 0=>⟨fun _=>h,by rw[hr];simp⟩
 | _+1=>⟨fun _=>h,fun i hi hne=>absurd (by rw[hr]at hi;simpa using hi) hne⟩
theorem n0T{Stop:Goroutine→World→Prop}{b:Frame}{a:Act}{w:World}{k:List Item}{cs:List Frame}{i:Nat}{rest:List Nat}(hk:b.kind≠.early)
 (h:OpB An P F b.fn ops i (fun a w=>J0 P true F (fun g w=>Q4 An P Stop g w) (G (b.at a (.inRegion ops rest::k)) cs) w) a w):J0 P true F (fun g w=>Q4 An P Stop g w) (G (b.at a (.inRegion ops (i::rest)::k)) cs) w:=by
 obtain⟨o,ho,⟨hw,hh⟩|⟨hw,hh⟩|⟨hw,f,args,Post,r1,r2,r3,r4⟩⟩:=h
 ·refine .step rfl fun d=>?_
  have:=hh d
  cases hr:(execOp a.eval o).run P (w.at d)with
  | halt _ _=>rw[hr]at this;exact this.elim
  | ok x w'=>
    rw[hr]at this
    cases x with
    | value u=>exact⟨_,_,_,stepG_value ho hw hk hr,this.1,this.2⟩
    | skip=>exact⟨_,_,_,stepG_none ho hw hk hr,this.1,this.2⟩
    | _=>exact this.elim
 ·exact .step rfl fun d=>⟨_,_,#[],stepG_unwanted ho hw,⟨⟨0,V3.refl F _⟩,by simp⟩,hh.at d⟩
 ·refine Y7 ho hw hk r1 r2 (.stop fun d=>r3 d _ _ _ fun v w' hp=>w7 (F:=F) ?_ fun g w h=>h)
  have hfin:(b.at a (.inRegion ops (i::rest)::k)).finish v=b.at (a.put o.dst v) (.inRegion ops rest::k):=by rw[Frame.finish_at,ho];rfl
  rw[hfin]
  exact r4 v w' hp
theorem e0z(L:LL ops last){Stop:Goroutine→World→Prop}{b:Frame}{k:List Item}{cs:List Frame}(hk:b.kind≠.early):
 ∀(fuel t:Nat) (listed:Array Bool) (a:Act) (w:World),listed.size=ops.size→g0L ops listed→listed.getD last true=false→
  n5 An P F b.fn ops S last (fun a w=>J0 P true F (fun g w=>Q4 An P Stop g w) (G (b.at a (.inRegion ops [last]::k)) cs) w) fuel listed a w→
  J0 P true F (fun g w=>Q4 An P Stop g w) (G (b.at a (.inRegion ops (Region.linearise.go .any ops (fuel+1) t listed [])::k)) cs) w:=by
 intro fuel
 induction fuel with
 | zero=>?_
 | succ fuel ih=>?_
 all_goals
  intro t listed a w hs hc hl H
  obtain⟨i0,hi0⟩:=c0d L hs last hl
  have hlen:0<(Region.ready .any ops listed).length:=List.length_pos_of_mem hi0
  obtain⟨i,hi⟩:∃i,(Region.ready .any ops listed)[t % (Region.ready .any ops listed).length]? =some i:=⟨_,List.getElem?_eq_getElem (Nat.mod_lt _ hlen)⟩
  have hmem:=List.mem_of_getElem? hi
  rw[Region.linearise.go]
  change J0 P true F (fun g w=>Q4 An P Stop g w) (G (b.at a (.inRegion ops (match(Region.ready .any ops listed)[t % (Region.ready .any ops listed).length]? with
   | some i=>Region.linearise.go .any ops _ (t / (Region.ready .any ops listed).length) (listed.setIfInBounds i true) [i]
   | none=>[].reverse)::k)) cs) w
  rw[hi]
  simp only[]
  rw[linearise_go_acc,List.reverse_singleton,List.singleton_append]
 ·obtain rfl:=H.2 i hmem
  simp only[Region.linearise.go,List.reverse_nil]
  exact H.1 H.2
 ·by_cases hil:i=last
  ·subst hil
   have hall:=b0R L hs hc hmem i
   have hre:∀j∈Region.ready .any ops listed,j=i:=by
    intro j hj
    obtain⟨h0,o,ho,_⟩:=mem_ready.1 hj
    have hlt:=(Q3 ho)
    have hsz:=L.size
    rcases Nat.lt_or_ge j i with h|h
    ·have:=hall j (by omega) h
     rw[Q7 (by omega),this]at h0;cases h0
    ·omega
   have hnil:Region.ready .any ops (listed.setIfInBounds i true)=[]:=by
    apply List.eq_nil_iff_forall_not_mem.2
    intro j hj
    obtain⟨h0,o,ho,_⟩:=mem_ready.1 hj
    have hlt:=(Q3 ho)
    have hsz:=L.size
    by_cases e:i=j
    ·subst e
     rw[Q7 (by simp;omega)]at h0
     have:i<listed.size:=by omega
     simp[this]at h0
    ·rw[getD_set_ne true e,Q7 (by omega),hall j (by omega) (by omega)]at h0;cases h0
   have:Region.linearise.go .any ops (fuel+1) (t / (Region.ready .any ops listed).length) (listed.setIfInBounds i true) []=[]:=by
    rw[Region.linearise.go]
    change(match(Region.ready .any ops (listed.setIfInBounds i true))[(t / (Region.ready .any ops listed).length) % (Region.ready .any ops (listed.setIfInBounds i true)).length]? with
     | some i=>_
     | none=>[].reverse)=[]
    rw[hnil];rfl
   rw[this]
   exact H.1 hre
  ·refine n0T hk (d05 (fun a' w' ⟨_,hK⟩=>ih _ _ _ _ (by simpa using hs) (fun j o' hj hlj e he hb=>?_) (by rw[getD_set_ne true hil];exact hl) hK) (H.2 i hmem hil))
   by_cases e2:i=j
   ·subst e2
    obtain⟨_,o2,ho2,hd⟩:=mem_ready.1 hmem
    rw[hj]at ho2
    cases ho2
    exact getD_set_true (hd e he hb)
   ·rw[getD_set_ne false e2]at hlj
    exact getD_set_true (hc j o' hj hlj e he hb)
theorem e0J(S:World→Prop)(hm:P.follows .mixedOrders=true)(L:LL ops last){id:Nat}{Stop:Goroutine→World→Prop}{b:Frame}{a:Act}{w:World}{k:List Item}{cs:List Frame}(hk:b.kind≠.early)
 (h:n5 An P F b.fn ops S last (fun a w=>J0 P true F (fun g w=>Q4 An P Stop g w) (G (b.at a (.inRegion ops [last]::k)) cs) w) last (Array.replicate ops.size false) a w):
 J0 P true F (fun g w=>Q4 An P Stop g w) (G (b.at a (.code (.region id ops true)::k)) cs) w:=by
 refine .step rfl fun d=>⟨_,_,_,stepG_region_draw,⟨⟨1,?_⟩,by simp⟩,?_⟩
 ·exact⟨rfl,rfl,rfl,rfl,Nat.le_refl _,fun _ _ h=>.inr h,fun _ _=>rfl⟩
 ·have hs:=L.size
  have:=e0z (S:=S) (cs:=cs) (k:=k) L hk last ((w.at d).tape (w.at d).drawn (.order b.fn id)) (Array.replicate ops.size false) a w (by simp) (fun j o _ hl=>by
   simp at hl
   rcases Nat.lt_or_ge j ops.size with h1|h1<;>simp[h1]at hl) (by simp[hs]) h
  rw[← hs]at this
  simp only[Region.schedule,hm,Bool.true_or,if_true]
  exact this.at (d+1)
section
variable {fuel : Nat} {listed : Array Bool} {a : Act} {w : World} {oi : Oper}
theorem tkB (i : Nat) (v : Value) (hS : ∀ w d, S w → S (World.at w d)) (hw : S w) (h : n5 An P F fn ops S last Z fuel (listed.setIfInBounds i true) (a.put oi.dst v) w) (hZ : ∀ a w d, Z a w → Z a (World.at w d) := by exact fun _ _ d h => h.at d) (hi : ops[i]? = some oi := by exact rfl) (hil : (i != last) = true := by exact rfl) (hs : Region.noSelect ops = true := by kernel_rfl) (hf : Region.free .any ops listed i = true := by kernel_rfl) (hr : (Region.ready .any ops listed).contains i = true := by kernel_rfl) (hy : ∀ w, S w → YQ P F fn ops w oi v a := by exact fun u hu => .inl ⟨rfl, fun d => ⟨by simp [go_sem, execOp, Act.eval], fun e he => by have hm := mem_listed he; simp [go_sem, execOp, Act.eval] at hm⟩⟩) : n5 An P F fn ops S last Z (fuel + 1) listed a w := W7 hS hZ hw hi hil hs hf hr hy h
theorem y0A {Q : World → Prop} (i : Nat) (v : Value) (f : ∀ u, S u → Q u) (hS : ∀ w d, S w → S (World.at w d)) (hw : S w) (h : n5 An P F fn ops S last Z fuel (listed.setIfInBounds i true) (a.put oi.dst v) w) (hZ : ∀ a w d, Z a w → Z a (World.at w d) := by exact fun _ _ d h => h.at d) (hi : ops[i]? = some oi := by exact rfl) (hil : (i != last) = true := by exact rfl) (hs : Region.noSelect ops = true := by kernel_rfl) (hf : Region.free .any ops listed i = true := by kernel_rfl) (hr : (Region.ready .any ops listed).contains i = true := by kernel_rfl) (hy : (∀ u, S u → Q u) → ∀ w, S w → YQ P F fn ops w oi v a := by intro f0; exact fun u hu => (fun f => .inl ⟨rfl, fun d => ⟨by simp [go_sem, execOp, Act.eval, f], fun e he => by have hm := mem_listed he; simp [go_sem, execOp, Act.eval, f] at hm⟩⟩) (f0 u hu)) : n5 An P F fn ops S last Z (fuel + 1) listed a w := W7 hS hZ hw hi hil hs hf hr (hy f) h
theorem w0U {Q : World → Prop} (i : Nat) (v : Value) (f : ∀ u, S u → Q u) (hS : ∀ w d, S w → S (World.at w d)) (hw : S w) (h : n5 An P F fn ops S last Z fuel (listed.setIfInBounds i true) (a.put oi.dst v) w) (hZ : ∀ a w d, Z a w → Z a (World.at w d) := by exact fun _ _ d h => h.at d) (hi : ops[i]? = some oi := by exact rfl) (hil : (i != last) = true := by exact rfl) (hs : Region.noSelect ops = true := by kernel_rfl) (hf : Region.free .any ops listed i = true := by kernel_rfl) (hr : (Region.ready .any ops listed).contains i = true := by kernel_rfl) (hy : (∀ u, S u → Q u) → ∀ w, S w → YQ P F fn ops w oi v a := by intro f0; exact fun u hu => (fun f => .inl ⟨rfl, fun d => ⟨by simp [go_sem, execOp, Act.eval, f], fun e he => by have hm := mem_listed he; simp [go_sem, execOp, Act.eval, f] at hm; first | (subst hm; exact I1 _ _) | (rcases hm with rfl | rfl | rfl <;> exact I1 _ _) | (rcases hm with rfl | rfl | rfl | rfl <;> exact I1 _ _)⟩⟩) (f0 u hu)) : n5 An P F fn ops S last Z (fuel + 1) listed a w := W7 hS hZ hw hi hil hs hf hr (hy f) h
end
end
section
variable{F:Fz}{w:World}
end
section

end
section
variable{w w':World}
theorem g0G{P:Program}{ops:Array Oper}{o:Oper}{a:Act}{w:World}{K:Act→World→Prop}{Q:Exit→Act→World→Prop}{E:Prop}(hg:o.guard=none)(f:FuncId)(args:Array Value)(v:Value)
 (hr:(execOp a.eval o).run P w= .ok (.enter f args) w) {R:World→Prop} (hC:Calls P f args w fun e w'=>e= .returned v∧R w') (hK:∀w',R w'→K (a.put o.dst v) w'):
 if Region.wanted o (yielded ops a.tmps)=true then Oper.wp P o a w K Q else E:=by
 have hw:Region.wanted o (yielded ops a.tmps)=true:=by simp[Region.wanted,hg]
 rw[if_pos hw]
 unfold Oper.wp
 rw[hr,Oper.upon_enter]
 exact hC.mono fun e w' ⟨h1,h2⟩=>by subst h1;exact hK w' h2
theorem i4{w:World}{a b:Nat}{c d:Array Value}{e f:TypeId}{y z:Nat×Nat}(h:w.heap[a]? =some (.cells c e y))(k:w.heap[b]? =some (.cells d f z))(he:e≠f):a≠b:=by
 rintro rfl
 rw[h]at k
 simp only[Option.some.injEq,Obj.cells.injEq]at k
 exact he k.2.1
theorem v5{b k:Nat}{c:Array Value}{e:TypeId}{z:Nat×Nat}{v:Value}(h:w.heap[b]? =some (.cells c e z)):(w.setCell ⟨b,k,none⟩ v).heap[b]? =some (.cells (c.setIfInBounds k v) e z):=by
 rw[U1 h]
structure RTh where
 k:Nat
 pc:Nat
 n0:Int
 n1:Int
 n2:Int
 n3:Int
 n4:Int
 ans:List (Bool×Int)
def RTh.fin(t:RTh)(a:Bool×Int):RTh:={t with k:=t.k+1,pc:=0,ans:=t.ans++[a]}
def thC(op:Value)(t:RTh)(ov:Value)(en:Bool):Array Value:= #[op,vI t.k,vI t.pc,vI t.n0,vI t.n1,vI t.n2,vI t.n3,vI t.n4,vI 0,vI 0,vI 0,.slice none 0 0,ov,.bool en]
structure TAt(w:World)(tb:Nat)(op:Value)(t:RTh)(ov:Value)(en:Bool):Prop where
 o:w.heap[tb]? =some (.cells (thC op t ov en) 158 (0,0))
 row:w.ownsRow 0 44 3 ov t.ans.length (z0V t.ans)
theorem TAt.lt{tb:Nat}{op ov:Value}{t:RTh}{en:Bool}(h:TAt w tb op t ov en):tb<w.heap.size:=(Array.getElem?_eq_some_iff.1 h.o).1
theorem TAt.same{tb:Nat}{op ov:Value}{t:RTh}{en:Bool}(h:TAt w tb op t ov en)(h1:w'.heap[tb]? =w.heap[tb]?)(h2:∀r,some r=ov.ownBlock→w'.heap[r]? =w.heap[r]?):TAt w' tb op t ov en:=
 ⟨h1.trans h.o,K0 h.row fun b hb _=>h2 b hb.symm⟩
theorem TAt.heap{tb:Nat}{op ov:Value}{t:RTh}{en:Bool}(h:TAt w tb op t ov en)(e:w'.heap=w.heap):TAt w' tb op t ov en:=h.same (by rw[e]) fun r _=>by rw[e]
theorem TAt.ne{tb:Nat}{op ov:Value}{t:RTh}{en:Bool}(h:TAt w tb op t ov en):some tb≠ov.ownBlock:=Q9 h.row h.o (by decide)
structure Kpt(w w':World)(tb:Nat)(ov ov':Value):Prop where
 size:w.heap.size≤w'.heap.size
 old:∀r,r<w.heap.size→r≠tb→some r≠ov.ownBlock→w'.heap[r]? =w.heap[r]?
 fo:ov'.ownBlock=ov.ownBlock∨∃g,ov'.ownBlock=some g∧w.heap.size≤g
theorem Kpt.refl(w:World)(tb:Nat)(ov:Value):Kpt w w tb ov ov:=⟨Nat.le_refl _,fun _ _ _ _=>rfl,.inl rfl⟩
theorem Kpt.trans{u v:World}{tb:Nat}{ov ov1 ov2:Value}(h:Kpt w u tb ov ov1)(k:Kpt u v tb ov1 ov2):Kpt w v tb ov ov2:=by
 have hs:=h.size
 refine⟨Nat.le_trans hs k.size,fun r h1 h2 h3=>(k.old r (by omega) h2 ?_).trans (h.old r h1 h2 h3),?_⟩
 ·rcases h.fo with e|⟨g,e,hg⟩
  ·rw[e];exact h3
  ·rw[e];intro e2;cases e2;omega
 ·rcases k.fo with e|⟨g,e,hg⟩
  ·rw[e];exact h.fo
  ·exact .inr ⟨g,e,by omega⟩
theorem Kpt.heap{u:World}{tb:Nat}{ov ov1:Value}(h:Kpt w u tb ov ov1)(e:w'.heap=u.heap):Kpt w w' tb ov ov1:=⟨by rw[e];exact h.size,fun r a b c=>by rw[e];exact h.old r a b c,h.fo⟩
section
variable{tb:Nat}{op ov:Value}{t:RTh}{en:Bool}
structure TFx(w:World)(tb:Nat)(op:Value)(t:RTh)(ov:Value)(en:Bool):Prop where
 c0:w.cell? ⟨tb,0,none⟩=some op
 c1:w.cell? ⟨tb,1,none⟩=some (vI t.k)
 c2:w.cell? ⟨tb,2,none⟩=some (vI t.pc)
 c3:w.cell? ⟨tb,3,none⟩=some (vI t.n0)
 c4:w.cell? ⟨tb,4,none⟩=some (vI t.n1)
 c5:w.cell? ⟨tb,5,none⟩=some (vI t.n2)
 c6:w.cell? ⟨tb,6,none⟩=some (vI t.n3)
 c7:w.cell? ⟨tb,7,none⟩=some (vI t.n4)
 c11:w.cell? ⟨tb,11,none⟩=some (.slice none 0 0)
 c12:w.cell? ⟨tb,12,none⟩=some ov
 c13:w.cell? ⟨tb,13,none⟩=some (.bool en)
 z:∀j,w.frozen? ⟨tb,j,none⟩=false
theorem TAt.fx(h:TAt w tb op t ov en):TFx w tb op t ov en:=by
 have ho:=h.o
 constructor<;>first|(simp[World.cell?,ho,thC];done)|(intro j;simp[World.frozen?,ho];done)
end
end
section
variable{w w':World}
theorem B5.olds{a:Option Addr}{xs:List Value}(h:B5 w a xs)(hk:∀r,r<w.heap.size→w'.heap[r]? =w.heap[r]?):B5 w' a xs:=
 ⟨fun k x hx=>by
  obtain⟨b,o,h1,h2⟩:=h.c k x hx
  obtain⟨c,e,z,ho⟩:=M3 h2
  have:=hk b (Q3 ho)
  exact⟨b,o,h1,by rw[← h2];unfold World.cell?;simp only[this]⟩⟩
end
section
variable{w w':World}
theorem SAL.olds{a:SA}(h:SAL a w)(hk:∀r,r<w.heap.size→w'.heap[r]? =w.heap[r]?):SAL a w':=⟨h.l,h.r.olds hk⟩
theorem t0q{aa ab:Option Addr}{ca cb:Nat}{xs:List Int}(hl:xs.length<100000000)(hA:B5 w aa (xs.map fun v=>vI v))(hB:B5 w ab (xs.map fun v=>vI v)):
 Calls Try.prog 29 #[.slice aa xs.length ca,.slice ab xs.length cb] w fun x w'=>x= .returned (.bool true)∧∃m,w'=w.drewN m:=by
 have E:Aside (B5 w aa (xs.map fun v=>vI v)∧B5 w ab (xs.map fun v=>vI v)):=⟨hA,hB⟩
 clear hA hB
 go_enter Try.func29,Try.ntmps29
 go_wp2
 go_loopg [5] xs.length (fun g i wr=>∃k:Nat,k≤xs.length∧i=vI k∧g=xs.length - k∧∃m,wr=w.drewN m)
 case atStart=>exact⟨0,Nat.zero_le _,rfl,rfl,0,rfl⟩
 case round=>
  obtain⟨k,hk,rfl,rfl,m0,hw⟩:=hrel
  have W:Aside (wr=w.drewN m0):=hw
  have hh:wr.heap=w.heap:=by rw[hw];rfl
  clear hw
  rcases Nat.lt_or_ge k xs.length with hlt|hge
  ·obtain⟨b1,o1,rfl,h1⟩:=(E.out.1.heap hh).c k (vI xs[k]) (by simp[hlt])
   obtain⟨b2,o2,rfl,h2⟩:=(E.out.2.heap hh).c k (vI xs[k]) (by simp[hlt])
   have hwr:IntKind.i64.wrap ((k:Int)+1)=(k:Int)+1:=IntWalk.i64_in _ (by omega)
   clear hh
   go_wp2
   go_quiet (fail)
   go_wp2
   go_roundg (xs.length - (k+1))
   case measure=>omega
   case rel=>exact⟨k+1,hlt,rfl,rfl,_,by rw[W.out,World.drewN_drewN]⟩
  ·have:k=xs.length:=by omega
   subst this
   clear hh
   go_wp2
   go_ret
   exact⟨rfl,m0,W.out⟩
theorem t0o{aa ba oa oa' sa sa':Option Addr}{n ac bc oc oc' sc sc':Nat}{st:Bool}{os ss:List Int}{X Y:Nat→List SA}{va vb:Nat→Option Addr}{ca cb:Nat→Nat}(hn:n≤64)(hos:os.length<10000000)(hss:ss.length<20000000)(hX:∀i,i<n→(X i).length<10000000∧(X i).map SA.an=(Y i).map SA.an∧(∀a∈X i,SAL a w∧a.an.2.2.length<100000000)∧∀a∈Y i,SAL a w)
 (h1:B5 w oa (os.map fun v=>vI v)) (h1':B5 w oa' (os.map fun v=>vI v)) (h2:B5 w sa (ss.map fun v=>vI v)) (h2':B5 w sa' (ss.map fun v=>vI v))
 (h3:B5 w aa ((List.range n).map fun i=>.slice (va i) (X i).length (ca i))) (h3':B5 w ba ((List.range n).map fun i=>.slice (vb i) (Y i).length (cb i))) (h4:∀i,i<n→B5 w (va i) (i5 (X i))) (h4':∀i,i<n→B5 w (vb i) (i5 (Y i))):
 Y6 Try.prog Try.f14 #[.agg #[.slice aa n ac,.slice oa os.length oc,.slice sa ss.length sc,.bool st],.agg #[.slice ba n bc,.slice oa' os.length oc',.slice sa' ss.length sc',.bool st]] w fun v w'=>v= .bool true∧∀r,r<w.heap.size→w'.heap[r]? =w.heap[r]?:=by
 have A:Aside (B5 w oa (os.map fun v=>vI v)∧B5 w oa' (os.map fun v=>vI v)∧B5 w sa (ss.map fun v=>vI v)∧B5 w sa' (ss.map fun v=>vI v)):=⟨h1,h1',h2,h2'⟩
 have B:Aside (B5 w aa ((List.range n).map fun i=>.slice (va i) (X i).length (ca i))∧B5 w ba ((List.range n).map fun i=>.slice (vb i) (Y i).length (cb i))∧(∀i,i<n→B5 w (va i) (i5 (X i)))∧(∀i,i<n→B5 w (vb i) (i5 (Y i)))∧∀i,i<n→(X i).length<10000000∧(X i).map SA.an=(Y i).map SA.an∧(∀a∈X i,SAL a w∧a.an.2.2.length<100000000)∧∀a∈Y i,SAL a w):=⟨h3,h3',h4,h4',hX⟩
 clear h1 h1' h2 h2' h3 h3' h4 h4' hX
 refine I8 rfl ?_
 simp only[Try.ntmps14,List.size_toArray,List.length_cons,List.length_nil,Nat.reduceAdd,Nat.reduceSub,Array.replicate_succ,Array.replicate_zero,List.push_toArray,List.append_toArray,List.nil_append,List.cons_append]
 go_wp2_with (fail)
 generalize hW:(w.alloc (.cells #[.slice aa n ac,.slice oa os.length oc,.slice sa ss.length sc,.bool st] 31)).alloc (.cells #[.slice ba n bc,.slice oa' os.length oc',.slice sa' ss.length sc',.bool st] 31)=W2
 have hWo:∀r,r<w.heap.size→W2.heap[r]? =w.heap[r]?:=fun r hr=>by rw[← hW,D0 _ _ (by simp;omega),D0 _ _ hr]
 have b2:W2.heap[w.heap.size]? =some (.cells #[.slice aa n ac,.slice oa os.length oc,.slice sa ss.length sc,.bool st] 31 (0,0)):=by rw[← hW,D0 _ _ (by simp)];exact heap_alloc_new _ _
 have b3:W2.heap[w.heap.size+1]? =some (.cells #[.slice ba n bc,.slice oa' os.length oc',.slice sa' ss.length sc',.bool st] 31 (0,0)):=by rw[← hW];exact R5 (by simp) _
 have f2:∀u:World,u.heap=W2.heap→u.cell? ⟨w.heap.size,0,none⟩=some (.slice aa n ac)∧u.cell? ⟨w.heap.size,2,none⟩=some (.slice sa ss.length sc)∧u.cell? ⟨w.heap.size,3,none⟩=some (.bool st):=fun u hu=>by simp[World.cell?,hu,b2]
 have f3:∀u:World,u.heap=W2.heap→u.cell? ⟨w.heap.size+1,0,none⟩=some (.slice ba n bc)∧u.cell? ⟨w.heap.size+1,2,none⟩=some (.slice sa' ss.length sc')∧u.cell? ⟨w.heap.size+1,3,none⟩=some (.bool st):=fun u hu=>by simp[World.cell?,hu,b3]
 have C:Aside ((∀r,r<w.heap.size→W2.heap[r]? =w.heap[r]?)∧(∀u:World,u.heap=W2.heap→u.cell? ⟨w.heap.size,0,none⟩=some (.slice aa n ac)∧u.cell? ⟨w.heap.size,2,none⟩=some (.slice sa ss.length sc)∧u.cell? ⟨w.heap.size,3,none⟩=some (.bool st))∧∀u:World,u.heap=W2.heap→u.cell? ⟨w.heap.size+1,0,none⟩=some (.slice ba n bc)∧u.cell? ⟨w.heap.size+1,2,none⟩=some (.slice sa' ss.length sc')∧u.cell? ⟨w.heap.size+1,3,none⟩=some (.bool st)):=⟨hWo,f2,f3⟩
 clear hW hWo b2 b3 f2 f3
 go_at_call 29
 refine(t0q (by omega) (A.out.1.olds C.out.1) (A.out.2.1.olds C.out.1)).mono ?_
 rintro e w1 ⟨rfl,m1,hw1⟩
 replace hw1:w1.heap=W2.heap:=by rw[hw1];rfl
 have W1:Aside (w1.heap=W2.heap):=hw1
 obtain⟨_,g1,_⟩:=C.out.2.1 w1 hw1
 obtain⟨_,g2,_⟩:=C.out.2.2 w1 hw1
 clear hw1
 go_wp2_with (fail)
 go_at_call 22
 refine(t0N (by omega) ((A.out.2.2.1.olds C.out.1).heap W1.out) ((A.out.2.2.2.olds C.out.1).heap W1.out)).mono ?_
 rintro e w3 ⟨rfl,m3,hw3⟩
 replace hw3:w3.heap=w1.heap:=by rw[hw3];rfl
 have W3:Aside (w3.heap=W2.heap):=hw3.trans W1.out
 clear g1 g2
 obtain⟨_,_,g1⟩:=C.out.2.1 w3 W3.out
 obtain⟨_,_,g2⟩:=C.out.2.2 w3 W3.out
 clear hw3
 all_goals(
  go_wp2
  clear g1 g2
  go_loopg [5] n (fun g i wr=>∃k:Nat,k≤n∧i=vI k∧g=n - k∧wr.heap=W2.heap)
  case atStart=>exact⟨0,Nat.zero_le _,rfl,rfl,W3.out⟩
  case round=>
   obtain⟨k,hk,rfl,rfl,hw⟩:=hrel
   have WR:Aside (wr.heap=W2.heap):=hw
   obtain⟨g1,_,_⟩:=C.out.2.1 wr hw
   obtain⟨g2,_,_⟩:=C.out.2.2 wr hw
   rcases Nat.lt_or_ge k n with hlt|hge
   ·obtain⟨h3,h3',h4,h4',hX⟩:=B.out
    obtain⟨b1,o1,rfl,e1⟩:=((h3.olds C.out.1).heap hw).c k (.slice (va k) (X k).length (ca k)) (by simp[hlt])
    obtain⟨b2,o2,rfl,e2⟩:=((h3'.olds C.out.1).heap hw).c k (.slice (vb k) (Y k).length (cb k)) (by simp[hlt])
    have hwr:IntKind.i64.wrap ((k:Int)+1)=(k:Int)+1:=IntWalk.i64_in _ (by omega)
    have H:Aside (Calls Try.prog 21 #[.slice (va k) (X k).length (ca k),.slice (vb k) (X k).length (cb k)] wr.drew fun x w'=>x= .returned (.bool true)∧w'.heap=W2.heap):=
     (t0p (w:=wr.drew) (by have:=hX k hlt;omega) (hX k hlt).2.1 (((h4 k hlt).olds C.out.1).heap (show wr.drew.heap=W2.heap from hw)) (((h4' k hlt).olds C.out.1).heap (show wr.drew.heap=W2.heap from hw)) (fun a ha=>⟨(((hX k hlt).2.2.1 a ha).1.olds C.out.1).heap (show wr.drew.heap=W2.heap from hw),((hX k hlt).2.2.1 a ha).2⟩) (fun a ha=>(((hX k hlt).2.2.2 a ha).olds C.out.1).heap (show wr.drew.heap=W2.heap from hw))).mono fun x w' h=>⟨h.1,h.2.trans hw⟩
    have hyl:(Y k).length=(X k).length:=by have:=congrArg List.length (hX k hlt).2.1;simpa using this.symm
    rw[hyl]at e2
    clear h3 h3' h4 h4' hX hw hyl
    go_wp2
    go_region_law (refine g0G rfl 21 #[.slice (va k) (X k).length (ca k),.slice (vb k) (X k).length (cb k)] (.bool true) (by simp[execOp,Act.eval,Act.put,resolve,invoke,Deferred.ofValue,callable21.run]) H.out ?_;intro w4 hw4;have W4:Aside (w4.heap=W2.heap):=hw4;clear hw4)
    all_goals go_wp2
    all_goals(
     go_roundg (n - (k+1))
     case measure=>omega
     case rel=>exact⟨k+1,hlt,rfl,rfl,W4.out⟩)
   ·have:k=n:=by omega
    subst this
    clear hw
    go_wp2
    go_ret
    exact⟨_,rfl,rfl,fun r hr=>by rw[WR.out];exact C.out.1 r hr⟩)
end
section
variable{w w':World}
structure T3 where
 op:Value
 who:Nat
 k:Nat
 pc:Nat
 tr:Int
 v:Int
 sv:Value
 so:Option (List Int)
 av:Value
 ans:List SA
def T3.cells(t:T3):List Value:=[t.op,t.av,vI t.who,vI t.k,vI t.pc,vI t.tr,vI t.v,t.sv]
def r8C(ts:List T3):List Value:=(ts.map T3.cells).flatten
def R8R(t:T3)(r:Nat):Prop:=t.av.ownBlock=some r∨(t.so≠none∧t.sv.ownBlock=some r)∨∃a∈t.ans,a.row.ownBlock=some r
structure R8H(w:World)(t:T3):Prop where
 av:w.ownsRow 0 44 3 t.av t.ans.length (i5 t.ans)
 au:∀a∈t.ans,SAU a w
 sv:∀l,t.so=some l→w.ownsRow 0 2 1 t.sv l.length (l.map fun v=>vI v)
 dj:t.so≠none→∀r,t.sv.ownBlock=some r→∀a∈t.ans,a.row.ownBlock≠some r
structure R8B where
 mb:Nat
 wb:Nat
 wc:Nat
 tv:Value
structure R2(w:World)(b0:Nat)(B:R8B)(s:R1)(ts:List T3):Prop where
 wf:SWf s
 o:w.heap[B.mb]? =some (.cells #[vI s.ver,vL B.wb 0 s.ws.length B.wc,B.tv] 147 (0,0))
 wds:w.ownsRow 0 2 1 (vL B.wb 0 s.ws.length B.wc) s.ws.length (s.ws.map fun v=>vI v)
 row:w.ownsRow 0 149 8 B.tv ts.length (r8C ts)
 thr:∀t∈ts,R8H w t
 tt:∀(i j:Nat) t u,ts[i]? =some t→ts[j]? =some u→i≠j→∀r,R8R t r→¬R8R u r
 wn:∀t∈ts,¬R8R t B.wb
 b1:b0≤B.mb
 b2:b0≤B.wb
 b3:∀r,B.tv.ownBlock=some r→b0≤r
 b4:∀t∈ts,∀r,R8R t r→b0≤r
structure D2(b0:Nat)(w w':World):Prop where
 s:w.heap.size≤w'.heap.size
 o:∀r,r<b0→w'.heap[r]? =w.heap[r]?
 t:∀(r:Nat) (c:Array Value) (y:TypeId) (z:Nat×Nat),y=3∨y=31→w.heap[r]? =some (.cells c y z)→w'.heap[r]? =w.heap[r]?
theorem D2.trans{b0:Nat}{u v:World}(h:D2 b0 w u)(k:D2 b0 u v):D2 b0 w v:=⟨Nat.le_trans h.s k.s,fun r hr=>(k.o r hr).trans (h.o r hr),fun r c y z q e=>(k.t r c y z q ((h.t r c y z q e).trans e)).trans (h.t r c y z q e)⟩
theorem D2.heap{b0:Nat}{u:World}(h:D2 b0 w u)(e:w'.heap=u.heap):D2 b0 w w':=⟨by rw[e];exact h.s,fun r hr=>by rw[e];exact h.o r hr,fun r c y z q k=>by rw[e];exact h.t r c y z q k⟩
theorem D2.refl(b0:Nat)(w:World):D2 b0 w w:=⟨Nat.le_refl _,fun _ _=>rfl,fun _ _ _ _ _ _=>rfl⟩
def d0R(w:World)(r:Nat):Prop:=∀(c:Array Value) (y:TypeId) (z:Nat×Nat),y=3∨y=31→w.heap[r]?≠some (.cells c y z)
variable{b0:Nat}{B:R8B}{s:R1}{ts:List T3}
theorem X1{n size:Nat}{e:TypeId}{v:Value}{xs:List Value}(h:w.ownsRow 0 e size v n xs){r:Nat}(hr:v.ownBlock=some r):∃c,w.heap[r]? =some (.cells c e (0,0)):=by
 rcases h.2 with⟨rfl,_⟩|⟨b,cap,cur,rfl,_,h4,_⟩
 ·simp[Value.ownBlock]at hr
 ·simp only[Value.ownBlock,Option.some.injEq]at hr
  subst hr
  exact⟨_,h4⟩
theorem R8H.blk{t:T3}(h:R8H w t){r:Nat}(hr:R8R t r):∃c,w.heap[r]? =some (.cells c 44 (0,0))∨w.heap[r]? =some (.cells c 2 (0,0)):=by
 rcases hr with hr|⟨h1,hr⟩|⟨a,ha,hr⟩
 ·obtain⟨c,h2⟩:=X1 h.av hr
  exact⟨c,.inl h2⟩
 ·obtain⟨l,hl⟩:=Option.ne_none_iff_exists'.1 h1
  obtain⟨c,h2⟩:=X1 (h.sv l hl) hr
  exact⟨c,.inr h2⟩
 ·obtain⟨c,h2⟩:=X1 (h.au a ha) hr
  exact⟨c,.inr h2⟩
theorem R8H.low{t:T3}(h:R8H w t){r:Nat}(hr:R8R t r):r<w.heap.size:=by
 obtain⟨c,h|h⟩:=h.blk hr<;>exact(Q3 h)
theorem R8H.same{t:T3}(h:R8H w t)(hs:∀r,R8R t r→w'.heap[r]? =w.heap[r]?):R8H w' t:=
 ⟨K0 h.av fun b hb _=>hs b (.inl hb),fun a ha=>K0 (h.au a ha) fun b hb _=>hs b (.inr (.inr ⟨a,ha,hb⟩)),fun l hl=>K0 (h.sv l hl) fun b hb _=>hs b (.inr (.inl ⟨by simp[hl],hb⟩)),h.dj⟩
theorem R8H.ne{t:T3}(h:R8H w t){r b:Nat}{c:Array Value}{e:TypeId}(hr:R8R t r)(hb:w.heap[b]? =some (.cells c e (0,0)))(h1:e≠44)(h2:e≠2):r≠b:=by
 obtain⟨d,h|h⟩:=h.blk hr
 ·exact i4 h hb (Ne.symm h1)
 ·exact i4 h hb (Ne.symm h2)
theorem R2.low_m(h:R2 w b0 B s ts):B.mb<w.heap.size:=(Array.getElem?_eq_some_iff.1 h.o).1
theorem R2.more(h:R2 w b0 B s ts)(hs:∀r,r<w.heap.size→w'.heap[r]? =w.heap[r]?):R2 w' b0 B s ts:=
 ⟨h.wf,(hs _ h.low_m).trans h.o,K0 h.wds fun b hb _=>by obtain⟨c,hc⟩:=X1 h.wds hb;exact hs b (Q3 hc),K0 h.row fun b hb _=>by obtain⟨c,hc⟩:=X1 h.row hb;exact hs b (Q3 hc),fun t ht=>(h.thr t ht).same fun r hr=>hs r ((h.thr t ht).low hr),h.tt,h.wn,h.b1,h.b2,h.b3,h.b4⟩
theorem R2.heap(h:R2 w b0 B s ts)(e:w'.heap=w.heap):R2 w' b0 B s ts:=h.more fun _ _=>by rw[e]
theorem R2.w_ty(h:R2 w b0 B s ts):∃c,w.heap[B.wb]? =some (.cells c 2 (0,0)):=X1 h.wds rfl
theorem R2.mw(h:R2 w b0 B s ts):B.wb≠B.mb:=by
 obtain⟨c,hc⟩:=h.w_ty
 exact i4 hc h.o (by decide)
theorem l03:∀(ts:List T3) (i:Nat) (t:T3) (j:Nat),ts[i]? =some t→j<8→(r8C ts)[i*8+j]? =t.cells[j]?
 | [],i,t,j,h,_=>by simp at h
 | x::l,0,t,j,h,hj=>by
   simp at h
   subst h
   have e:r8C (x::l)=x.cells++r8C l:=rfl
   rw[e,show 0*8+j=j by omega,List.getElem?_append_left (by simp[T3.cells];omega)]
 | x::l,i+1,t,j,h,hj=>by
   have ih:=l03 l i t j (by simpa using h) hj
   have e:r8C (x::l)=x.cells++r8C l:=rfl
   rw[e,List.getElem?_append_right (by simp[T3.cells];omega),show(i+1)*8+j - x.cells.length=i*8+j by simp[T3.cells];omega]
   exact ih
theorem l04:∀(ts:List T3) (i:Nat) (t t':T3) (j:Nat) (v:Value),ts[i]? =some t→j<8→t'.cells=t.cells.set j v→r8C (ts.set i t')=(r8C ts).set (i*8+j) v
 | [],i,t,t',j,v,h,_,_=>by simp at h
 | x::l,0,t,t',j,v,h,hj,hc=>by
   simp at h
   subst h
   have e:r8C (x::l)=x.cells++r8C l:=rfl
   have e2:r8C ((x::l).set 0 t')=t'.cells++r8C l:=rfl
   rw[e,e2,hc,show 0*8+j=j by omega,List.set_append_left _ _ (by simp[T3.cells];omega)]
 | x::l,i+1,t,t',j,v,h,hj,hc=>by
   have ih:=l04 l i t t' j v (by simpa using h) hj hc
   have e:r8C (x::l)=x.cells++r8C l:=rfl
   have e2:r8C ((x::l).set (i+1) t')=x.cells++r8C (l.set i t'):=rfl
   rw[e,e2,List.set_append_right _ _ (by simp[T3.cells];omega),ih,show(i+1)*8+j - x.cells.length=i*8+j by simp[T3.cells];omega]
theorem d0B{n size k g cap:Nat}{e:TypeId}{v:Value}{xs:List Value}(h:w.ownsRow 0 e size (vL g 0 n cap) n xs)(hk:k<n*size):(w.setCell ⟨g,k,none⟩ v).ownsRow 0 e size (vL g 0 n cap) n (xs.set k v):=by
 refine⟨by simpa using h.1,?_⟩
 rcases h.2 with⟨h1,_⟩|⟨b,cap',cur,h1,h3,h4,h5,h6,h7,h8⟩
 ·cases h1
 ·cases h1
  refine .inr ⟨g,cap,cur.setIfInBounds k v,rfl,h3,v5 h4,h5,h6,by simpa using h7,?_⟩
  rw[← h8,Array.toList_setIfInBounds,List.take_set]
structure z0O(w:World)(B:R8B)(s:R1)(n i tb tc:Nat)(t:T3):Prop where
 tv:B.tv=vL tb 0 n tc
 m0:w.cell? ⟨B.mb,0,none⟩=some (vI s.ver)
 m1:w.cell? ⟨B.mb,1,none⟩=some (vL B.wb 0 s.ws.length B.wc)
 m2:w.cell? ⟨B.mb,2,none⟩=some (vL tb 0 n tc)
 zm:∀j,w.frozen? ⟨B.mb,j,none⟩=false
 t0:w.cell? ⟨tb,i*8,none⟩=some t.op
 t1:w.cell? ⟨tb,i*8+1,none⟩=some t.av
 t3:w.cell? ⟨tb,i*8+3,none⟩=some (vI t.k)
 t4:w.cell? ⟨tb,i*8+4,none⟩=some (vI t.pc)
 t5:w.cell? ⟨tb,i*8+5,none⟩=some (vI t.tr)
 t6:w.cell? ⟨tb,i*8+6,none⟩=some (vI t.v)
 t7:w.cell? ⟨tb,i*8+7,none⟩=some t.sv
 zt:∀j,w.frozen? ⟨tb,j,none⟩=false
 mt:B.mb≠tb
 wt:B.wb≠tb
 lt:tb<w.heap.size
theorem R2.fx(h:R2 w b0 B s ts){i:Nat}{t:T3}(ht:ts[i]? =some t):∃tb tc,z0O w B s ts.length i tb tc t:=by
 have hi:=(List.getElem?_eq_some_iff.1 ht).1
 have hg:∀j x,t.cells[j]? =some x→∃b cap,B.tv=vL b 0 ts.length cap∧At w ⟨b,i*8+j,none⟩ x:=fun j x hj=>M5 h.row (by
  have:j<8:=by have:=(List.getElem?_eq_some_iff.1 hj).1;simpa [T3.cells]using this
  rw[l03 ts i t j ht this];exact hj)
 obtain⟨tb,tc,e,g0⟩:=hg 0 t.op rfl
 have hg2:∀j x,t.cells[j]? =some x→w.cell? ⟨tb,i*8+j,none⟩=some x:=fun j x hj=>by
  obtain⟨b,cap,e2,g⟩:=hg j x hj
  rw[e]at e2
  cases e2
  exact g.c
 have ho:=h.o
 obtain⟨c,hc⟩:=X1 h.row (r:=tb) (by rw[e];rfl)
 obtain⟨d,hd⟩:=h.w_ty
 refine⟨tb,tc,e,by simp[World.cell?,ho],by simp[World.cell?,ho],by simp[World.cell?,ho,e],fun j=>by simp[World.frozen?,ho],g0.c,hg2 1 _ rfl,hg2 3 _ rfl,hg2 4 _ rfl,hg2 5 _ rfl,hg2 6 _ rfl,hg2 7 _ rfl,fun j=>by simp[World.frozen?,hc],i4 ho hc (by decide),i4 hd hc (by decide),(Q3 hc)⟩
theorem d0R.set{r:Nat}{a:Addr}{v:Value}(h:d0R w r):d0R (w.setCell a v) r:=fun c y z q e=>by
 by_cases hr:r=a.block
 ·subst hr
  simp only[World.setCell,Array.getElem?_modify,if_true]at e
  obtain⟨o,ho,he⟩:=Option.map_eq_some_iff.1 e
  cases o with
  | cells d t x=>
    simp only[Obj.cells.injEq]at he
    obtain⟨_,rfl,rfl⟩:=he
    exact h d t x q ho
  | _=>cases he
 ·rw[I0 _ _ _ hr]at e
  exact h _ _ _ q e
theorem R2.nt_m(h:R2 w b0 B s ts):d0R w B.mb:=fun c y z q e=>by have hd:=h.o;rcases q with rfl|rfl<;>(rw[e]at hd;cases hd)
theorem R2.nt_w(h:R2 w b0 B s ts):d0R w B.wb:=fun c y z q e=>by obtain⟨d,hd⟩:=h.w_ty;rcases q with rfl|rfl<;>(rw[e]at hd;cases hd)
theorem R2.nt_t{tb n tc:Nat}(h:R2 w b0 B s ts)(htv:B.tv=vL tb 0 n tc):d0R w tb:=fun c y z q e=>by obtain⟨d,hd⟩:=X1 h.row (r:=tb) (by rw[htv];rfl);rcases q with rfl|rfl<;>(rw[e]at hd;cases hd)
theorem D2.set{b0:Nat}{u:World}(h:D2 b0 w u){a:Addr}(ha:b0≤a.block)(v:Value)(hn:d0R w a.block∨d0R u a.block:=by first|(apply Or.inl;apply R2.nt_t<;>assumption)|(apply Or.inl;apply R2.nt_m;assumption)|(apply Or.inl;apply R2.nt_w;assumption)|(apply Or.inr;(repeat apply d0R.set);apply R2.nt_t<;>assumption)|(apply Or.inr;(repeat apply d0R.set);apply R2.nt_m;assumption)|(apply Or.inr;(repeat apply d0R.set);apply R2.nt_w;assumption)):D2 b0 w (u.setCell a v):=
 ⟨by rw[World.size_setCell];exact h.s,fun r hr=>(I0 _ _ _ (by omega)).trans (h.o r hr),fun r c y z q e=>(I0 _ _ _ fun hr=>hn.elim (fun hn=>hn c y z q (hr ▸ e)) fun hn=>hn c y z q (hr ▸ (h.t r c y z q e).trans e)).trans (h.t r c y z q e)⟩
end
section
variable{w w':World}{b0:Nat}{B:R8B}{s:R1}{ts:List T3}
theorem g9{α:Type}{l:List α}{i j:Nat}{x y:α}(h:(l.set i x)[j]? =some y):(j=i∧y=x)∨(j≠i∧l[j]? =some y):=by
 rw[List.getElem?_set]at h
 by_cases e:i=j
 ·subst e
  rw[if_pos rfl]at h
  split at h
  ·cases h;exact .inl ⟨rfl,rfl⟩
  ·cases h
 ·rw[if_neg e]at h
  exact .inr ⟨fun h=>e h.symm,h⟩
theorem c0z{α:Type}{l:List α}{x:α}(h:x∈l):∃i:Nat,l[i]? =some x:=List.mem_iff_getElem?.1 h
theorem R2.put{U:World}{i tb tc j:Nat}{t t':T3}{v:Value}(h:R2 w b0 B s ts)(ht:ts[i]? =some t)(htv:B.tv=vL tb 0 ts.length tc)(hj:j<8)(hc:t'.cells=t.cells.set j v)
 (hsz:w.heap.size≤U.heap.size) (hold:∀r,r<w.heap.size→¬R8R t r→U.heap[r]? =w.heap[r]?) (hH:R8H U t') (hR:∀r,R8R t' r→R8R t r∨w.heap.size≤r) (hb:b0≤w.heap.size):
 R2 (U.setCell ⟨tb,i*8+j,none⟩ v) b0 B s (ts.set i t'):=by
 have hi:=(List.getElem?_eq_some_iff.1 ht).1
 have hmem:t∈ts:=List.mem_of_getElem? ht
 have hT:=h.thr t hmem
 obtain⟨c,hcb⟩:=X1 h.row (r:=tb) (by rw[htv];rfl)
 obtain⟨d,hd⟩:=h.w_ty
 have n1:B.mb≠tb:=i4 h.o hcb (by decide)
 have n2:B.wb≠tb:=i4 hd hcb (by decide)
 have htb:=(Q3 hcb)
 have k1:¬R8R t tb:=fun hr=>hT.ne hr hcb (by decide) (by decide) rfl
 have k2:¬R8R t B.mb:=fun hr=>hT.ne hr h.o (by decide) (by decide) rfl
 have k3:¬R8R t B.wb:=h.wn t hmem
 have e1:∀r,r<w.heap.size→¬R8R t r→r≠tb→(U.setCell ⟨tb,i*8+j,none⟩ v).heap[r]? =w.heap[r]?:=fun r h1 h2 h3=>(I0 _ _ _ h3).trans (hold r h1 h2)
 have hnt:∀r,R8R t' r→r≠tb:=fun r hr=>(hR r hr).elim (fun h e=>k1 (e ▸ h)) fun h=>by omega
 have hlen:(ts.set i t').length=ts.length:=List.length_set
 refine⟨h.wf,(e1 _ h.low_m k2 n1).trans h.o,K0 h.wds fun b hb _=>?_,?_,fun u hu=>?_,fun x y u1 u2 h1 h2 hne r hr1 hr2=>?_,fun u hu hr=>?_,h.b1,h.b2,h.b3,fun u hu r hr=>?_⟩
 ·simp only[Value.ownBlock,Option.some.injEq]at hb
  subst hb
  exact e1 _ (Q3 hd) k3 n2
 ·rw[hlen,l04 ts i t t' j v ht hj hc]
  have hr:U.ownsRow 0 149 8 B.tv ts.length (r8C ts):=K0 h.row fun b hb _=>by
   rw[htv]at hb
   simp only[Value.ownBlock,Option.some.injEq]at hb
   subst hb
   exact hold _ htb k1
  rw[htv]at hr ⊢
  exact d0B hr (by omega)
 ·obtain⟨k,hk⟩:=c0z hu
  rcases g9 hk with⟨rfl,rfl⟩|⟨hne,hk⟩
  ·exact hH.same fun r hr=>I0 _ _ _ (hnt r hr)
  ·have hu2:=h.thr u (List.mem_of_getElem? hk)
   exact hu2.same fun r hr=>e1 r (hu2.low hr) (fun h2=>h.tt k i u t hk ht hne r hr h2) (hu2.ne hr hcb (by decide) (by decide))
 ·rcases g9 h1 with⟨e1,e2⟩|⟨hx,g1⟩
  ·rcases g9 h2 with⟨e3,e4⟩|⟨hy,g2⟩
   ·exact hne (e1.trans e3.symm)
   ·have hlow:=(h.thr u2 (List.mem_of_getElem? g2)).low hr2
    rw[e2]at hr1
    rcases hR r hr1 with h3|h3
    ·exact h.tt i y t u2 ht g2 (Ne.symm hy) r h3 hr2
    ·omega
  ·rcases g9 h2 with⟨e3,e4⟩|⟨hy,g2⟩
   ·have hlow:=(h.thr u1 (List.mem_of_getElem? g1)).low hr1
    rw[e4]at hr2
    rcases hR r hr2 with h3|h3
    ·exact h.tt x i u1 t g1 ht hx r hr1 h3
    ·omega
   ·exact h.tt x y u1 u2 g1 g2 hne r hr1 hr2
 ·obtain⟨k,hk⟩:=c0z hu
  rcases g9 hk with⟨rfl,rfl⟩|⟨hne,hk⟩
  ·rcases hR _ hr with h3|h3
   ·exact k3 h3
   ·have:=(Q3 hd)
    omega
  ·exact h.wn u (List.mem_of_getElem? hk) hr
 ·obtain⟨k,hk⟩:=c0z hu
  rcases g9 hk with⟨rfl,rfl⟩|⟨hne,hk⟩
  ·rcases hR r hr with h3|h3
   ·exact h.b4 t hmem r h3
   ·omega
  ·exact h.b4 u (List.mem_of_getElem? hk) r hr
theorem R2.bs(h:R2 w b0 B s ts):b0≤w.heap.size:=Nat.le_trans h.b1 (Nat.le_of_lt h.low_m)
section
variable{i tb tc:Nat}{t:T3}
theorem R2.ver(h:R2 w b0 B s ts)(v:Int):R2 (w.setCell ⟨B.mb,0,none⟩ (vI v)) b0 B {s with ver:=v} ts:=by
 have hn:=h.mw
 have e1:∀r,r≠B.mb→(w.setCell ⟨B.mb,0,none⟩ (vI v)).heap[r]? =w.heap[r]?:=fun r hr=>I0 _ _ _ hr
 refine⟨⟨h.wf.n1,h.wf.n2⟩,?_,K0 h.wds fun b hb _=>?_,K0 h.row fun b hb _=>?_,fun u hu=>(h.thr u hu).same fun r hr=>e1 r ((h.thr u hu).ne hr h.o (by decide) (by decide)),h.tt,h.wn,h.b1,h.b2,h.b3,h.b4⟩
 ·rw[v5 h.o]
  simp
 ·simp only[Value.ownBlock,Option.some.injEq]at hb
  subst hb
  exact e1 _ hn
 ·obtain⟨c,hc⟩:=X1 h.row hb
  exact e1 b (i4 hc h.o (by decide))
theorem R2.seen{U:World}{l:List Int}{x:Int}{v':Value}(h:R2 w b0 B s ts)(ht:ts[i]? =some t)(htv:B.tv=vL tb 0 ts.length tc)(hl:t.so=some l)(hsz:w.heap.size≤U.heap.size)(hown:U.ownsRow 0 2 1 v' (l.length+1) ((l.map fun v=>vI v)++[vI x]))
 (hold:∀r,r<w.heap.size→some r≠t.sv.ownBlock→U.heap[r]? =w.heap[r]?) (hfr:v'.ownBlock=t.sv.ownBlock∨∃g,v'.ownBlock=some g∧w.heap.size≤g):
 R2 (U.setCell ⟨tb,i*8+7,none⟩ v') b0 B s (ts.set i {t with sv:=v',so:=some (l++[x])}):=by
 have hT:=h.thr t (List.mem_of_getElem? ht)
 have hn:t.so≠none:=by simp[hl]
 have hsr:=hT.sv l hl
 have hav:∀r,t.av.ownBlock=some r→U.heap[r]? =w.heap[r]?:=fun r hr=>by
  obtain⟨c,hc⟩:=X1 hT.av hr
  refine hold r (Q3 hc) fun e=>?_
  obtain⟨d,hd⟩:=X1 hsr e.symm
  exact i4 hc hd (by decide) rfl
 have hal:∀a∈t.ans,∀r,a.row.ownBlock=some r→U.heap[r]? =w.heap[r]?:=fun a ha r hr=>by
  obtain⟨c,hc⟩:=X1 (hT.au a ha) hr
  exact hold r (Q3 hc) fun e=>hT.dj hn r e.symm a ha hr
 refine h.put (t':={t with sv:=v',so:=some (l++[x])}) ht htv (by omega) rfl hsz (fun r h1 h2=>hold r h1 fun e=>h2 (.inr (.inl ⟨hn,e.symm⟩))) ⟨K0 hT.av fun b hb _=>hav b hb,fun a ha=>K0 (hT.au a ha) fun b hb _=>hal a ha b hb,fun l2 hl2=>?_,fun _ r hr a ha h2=>?_⟩ (fun r hr=>?_) h.bs
 ·cases hl2
  simpa using hown
 ·rcases hfr with e|⟨g,e,hg⟩
  ·exact hT.dj hn r (e ▸ hr) a ha h2
  ·have hr:v'.ownBlock=some r:=hr
   rw[e]at hr
   cases hr
   obtain⟨c,hc⟩:=X1 (hT.au a ha) h2
   have:=(Q3 hc)
   omega
 ·rcases hr with hr|⟨_,hr⟩|⟨a,ha,hr⟩
  ·exact .inl (.inl hr)
  ·have hr:v'.ownBlock=some r:=hr
   rcases hfr with e|⟨g,e,hg⟩
   ·exact .inl (.inr (.inl ⟨hn,e ▸ hr⟩))
   ·rw[e]at hr
    cases hr
    exact .inr hg
  ·exact .inl (.inr (.inr ⟨a,ha,hr⟩))
end
end
section
def Ld(t:TypeId)(o:Operand):Op:=.load t o
@[go_sem] theorem f0U(t:TypeId)(o:Operand):Ld t o= .load t o:=rfl
variable{w w':World}{b0:Nat}{B:R8B}{s:R1}{ts:List T3}
def T3.fin(t:T3)(av':Value)(a:SA):T3:={t with av:=av',ans:=t.ans++[a],so:=none,k:=t.k+1,pc:=0}
end
section
variable{w w':World}{b0:Nat}{B:R8B}{s:R1}{ts:List T3}
def T3.again(t:T3):T3:={t with tr:=t.tr - 1,pc:=1,sv:=.slice none 0 0,so:=some []}
def noA:SA:=⟨(false,0,[]),none,0,0⟩
end
section
variable{w w':World}{b0:Nat}{B:R8B}{s:R1}{ts:List T3}
end
section
variable{w w':World}{b0:Nat}{B:R8B}{s:R1}{ts:List T3}
def FO(w':World)(b0:Nat)(B:R8B)(s:R1)(ts:List T3)(i:Nat)(t:T3):Prop:=if t.tr=1 then ∃av',R2 w' b0 B s (ts.set i (t.again.fin av' noA))else R2 w' b0 B s (ts.set i t.again)
theorem FO.set{i:Nat}{t t':T3}(h:FO w' b0 B s (ts.set i t') i t):FO w' b0 B s ts i t:=by
 unfold FO at h ⊢
 simpa only[List.set_set]using h
section
variable{i:Nat}{t:T3}
end
end
section
variable{w w':World}{b0:Nat}{B:R8B}{s:R1}{ts:List T3}
section
variable{i:Nat}{t:T3}{kd a b c:Int}
end
end
section
variable{w w':World}{b0:Nat}{B:R8B}{s:R1}{ts:List T3}
structure f0B(w:World)(b0:Nat)(v:Value)(k:Nat)(kd a b c:Int)(ob oo ol oc:Nat):Prop where
 sl:v=vL ob oo ol oc
 lt:k<ol
 l:ob<b0
 f0:w.cell? ⟨ob,oo+k*4,none⟩=some (vI kd)
 f1:w.cell? ⟨ob,oo+k*4+1,none⟩=some (vI a)
 f2:w.cell? ⟨ob,oo+k*4+2,none⟩=some (vI b)
 f3:w.cell? ⟨ob,oo+k*4+3,none⟩=some (vI c)
section
variable{i:Nat}{t:T3}{kd a b c:Int}{ob oo ol oc:Nat}
end
end
section
variable{w w':World}{b0:Nat}{B:R8B}{s:R1}{ts:List T3}
section
variable{i:Nat}{t:T3}{kd a b c:Int}{ob oo ol oc:Nat}
end
end
section
variable{w w':World}{b0:Nat}{B:R8B}{s:R1}{ts:List T3}
structure m0Y(n:Nat)(o:P3)(t:T3)(c:J8):Prop where
 kd:(c.kd:Int)=o.kd
 kr:1≤c.kd∧c.kd≤5
 pcp:1≤t.pc
 tr:c.kd≤3→t.tr=(c.T:Int) - c.r∧c.r<c.T∧c.T≤1024
 p0:c.kd≤3→c.ph=0→t.pc=1
 p1:c.kd≤2→c.ph=1→t.pc=2
 p2:c.kd≤2→c.ph=2→t.pc=c.i+3∧c.i<n
 p3:c.kd≤2→c.ph=3→t.pc=n+3
 ph:c.kd≤2→c.ph≤3
 q1:c.kd=3→c.ph=1→t.pc=c.i+2∧c.i<n
 q2:c.kd=3→c.ph=2→t.pc=n+2
 qh:c.kd=3→c.ph≤2
 r1:c.kd=4→t.pc=c.i+1∧c.i<n
 s1:c.kd=5→t.pc=1
 v:c.kd≤3→1≤c.ph→t.v=c.v
 so:t.so=some c.out
 ol:c.out.length≤n
 oi:c.kd=3→c.ph=1→c.out.length=c.i
 oi4:c.kd=4→c.out.length=c.i
 s0:c.kd=3→c.ph=0→c.out=[]
 vs:c.kd≤2→c.vs=V2 n o.b o.c
 a:c.kd=5→c.a=o.a
structure c0n(n:Nat)(ops:List P3)(t:T3)(g:GT SPl):Prop where
 k:t.k=g.k
 kl:g.k≤ops.length
 al:g.ans.length=g.k
 ans:t.ans.map SA.an=g.ans
 call:match g.call with|none=>t.pc=0∧g.k=ops.length|some c=>∃o,ops[g.k]? =some o∧m0Y n o t c
theorem z0c(q:R1)(o:P3):(q.begin o).1=q:=by
 unfold R1.begin
 repeat' split
 all_goals rfl
theorem e0f{l:List P3}{q q':R1}{o:P3}{c:J8}{t:GT SPl}(h:q.begin o=(q',.inl c)):r6 SPl (o::l) q t=(q',{t with call:=some c}):=by
 have h:SPl.beg q o=(q',.inl c):=h
 simp only[r6,h]
 rfl
theorem e0g{l:List P3}{q q':R1}{o:P3}{a:SPl.A}{t:GT SPl}(h:q.begin o=(q',.inr a)):r6 SPl (o::l) q t=r6 SPl l q' ⟨t.k+1,none,t.ans++[a]⟩:=by
 have h:SPl.beg q o=(q',.inr a):=h
 simp only[r6,h]
theorem e0h:∀(l:List P3) (q:R1) (t:GT SPl),(r6 SPl l q t).1=q
 | [],q,t=>rfl
 | o::l,q,t=>by
   have h:=z0c q o
   obtain⟨q',r,e⟩:∃q' r,q.begin o=(q',r):=⟨_,_,rfl⟩
   rw[e]at h
   have h:q'=q:=h
   subst h
   cases r with
   | inl c=>rw[e0f e]
   | inr a=>rw[e0g e];exact e0h l _ _
structure b0O(w:World)(b0:Nat)(v:Value)(ops:List P3):Prop where
 sl:∃oa oc,v= .slice oa ops.length oc
 c:∀(k:Nat) x,ops[k]? =some x→∃ob oo oc,f0B w b0 v k x.kd x.a x.b x.c ob oo ops.length oc
theorem f0B.stay{v:Value}{k:Nat}{kd a b c:Int}{ob oo ol oc:Nat}(h:f0B w b0 v k kd a b c ob oo ol oc)(hs:D2 b0 w w'):f0B w' b0 v k kd a b c ob oo ol oc:=by
 have e:∀j,w'.cell? ⟨ob,j,none⟩=w.cell? ⟨ob,j,none⟩:=fun j=>by simp only[World.cell?,hs.o ob h.l]
 exact⟨h.sl,h.lt,h.l,(e _).trans h.f0,(e _).trans h.f1,(e _).trans h.f2,(e _).trans h.f3⟩
theorem b0O.stay{v:Value}{ops:List P3}(h:b0O w b0 v ops)(hs:D2 b0 w w'):b0O w' b0 v ops:=
 ⟨h.sl,fun k x hx=>by obtain⟨ob,oo,oc,h1⟩:=h.c k x hx;exact⟨ob,oo,oc,h1.stay hs⟩⟩
end
section
variable{w w':World}{b0:Nat}{B:R8B}{s:R1}{ts:List T3}
section
variable{i:Nat}{t:T3}{ops:List P3}
end
end
section
variable{w w':World}{b0:Nat}{B:R8B}{s:R1}{ts:List T3}
section
variable{i:Nat}{t:T3}
end
end
section
variable{w w':World}{b0:Nat}{B:R8B}{s:R1}{ts:List T3}
end
section
variable{w w':World}
structure N8(w wr:World)(wv:Value)(xs:List Int):Prop where
 o:wr.heap[w.heap.size]? =some (.cells #[vI 0,wv,.slice none 0 0] 147 (0,0))
 row:wr.ownsRow 0 2 1 wv xs.length (xs.map fun v=>vI v)
 size:w.heap.size<wr.heap.size
 old:∀r,r<w.heap.size→wr.heap[r]? =w.heap[r]?
 new:∀r,wv.ownBlock=some r→w.heap.size≤r
theorem N8.heap{u:World}{wv:Value}{xs:List Int}(h:N8 w u wv xs)(e:w'.heap=u.heap):N8 w w' wv xs:=⟨by rw[e];exact h.o,K0 h.row fun _ _ _=>by rw[e],by rw[e];exact h.size,fun r hr=>by rw[e];exact h.old r hr,h.new⟩
theorem N8.start:N8 w (w.alloc (.cells #[vI 0,.slice none 0 0,.slice none 0 0] 147)) (.slice none 0 0) []:=⟨heap_alloc_new _ _,⟨rfl,.inl ⟨rfl,rfl⟩⟩,by simp,fun r hr=>D0 _ _ hr,fun r hr=>by cases hr⟩
theorem N8.more{wr w3 u:World}{wv v':Value}{xs:List Int}{x:Int}(h:N8 w wr wv xs)(hown:w3.ownsRow 0 2 1 v' (xs.length+1) ((xs.map fun v=>vI v)++[vI x]))(hold:∀r,r<wr.heap.size→some r≠wv.ownBlock→w3.heap[r]? =wr.heap[r]?)(hsz:wr.heap.size≤w3.heap.size)(hfr:v'.ownBlock=wv.ownBlock∨∃g,v'.ownBlock=some g∧wr.heap.size≤g)(hu:u.heap=(w3.setCell ⟨w.heap.size,1,none⟩ v').heap):N8 w u v' (xs++[x]):=by
 have hs:=h.size
 have hne:some w.heap.size≠wv.ownBlock:=fun e=>by obtain⟨c,hc⟩:=X1 h.row e.symm;exact i4 hc h.o (by decide) rfl
 have h3:w3.heap[w.heap.size]? =some (.cells #[vI 0,wv,.slice none 0 0] 147 (0,0)):=(hold _ (by omega) hne).trans h.o
 have e1:∀r,r≠w.heap.size→u.heap[r]? =w3.heap[r]?:=fun r hr=>by rw[hu,I0 _ _ _ hr]
 have hn:∀r,v'.ownBlock=some r→w.heap.size≤r:=fun r hr=>by
  rcases hfr with e|⟨g,e,hg⟩
  ·exact h.new r (e ▸ hr)
  ·rw[e]at hr;cases hr;omega
 refine⟨by rw[hu,v5 h3];simp,?_,by rw[hu,World.size_setCell];omega,fun r hr=>?_,hn⟩
 ·have hown2:w3.ownsRow 0 2 1 v' (xs++[x]).length ((xs++[x]).map fun v=>vI v):=by simpa using hown
  refine K0 hown2 fun b hb _=>e1 b fun e=>?_
  obtain⟨c,hc⟩:=X1 hown2 hb
  exact i4 hc h3 (by decide) e
 ·have:some r≠wv.ownBlock:=fun e=>by have:=h.new r e.symm;omega
  exact(e1 r (by omega)).trans ((hold r (by omega) this).trans (h.old r hr))
theorem N8.done{wr:World}{wv:Value}{xs:List Int}(h:N8 w wr wv xs)(h1:0<xs.length)(h2:xs.length≤16):∃B:R8B,B.mb=w.heap.size∧B.tv= .slice none 0 0∧R2 wr w.heap.size B ⟨0,xs⟩ []:=by
 rcases h.row.2 with⟨_,h0⟩|⟨g,cap,cur,rfl,_⟩
 ·omega
 ·exact⟨⟨w.heap.size,g,cap,.slice none 0 0⟩,rfl,rfl,⟨h1,h2⟩,h.o,h.row,⟨rfl,.inl ⟨rfl,rfl⟩⟩,fun t ht=>by simp at ht,fun i j t u ht=>by simp at ht,fun t ht=>by simp at ht,Nat.le_refl _,h.new g rfl,fun r hr=>(by cases hr),fun t ht=>by simp at ht⟩
end
section
variable{w w':World}{b0:Nat}{B:R8B}{s:R1}{ts:List T3}
def e0c(w':World)(b0:Nat)(B:R8B)(ts:List T3)(i:Nat)(t:T3)(n:Nat)(o:P3)(r:R1×SRs):Prop:=match r.2 with
 | .inl c'=>∃t',R2 w' b0 B r.1 (ts.set i t')∧t'.op=t.op∧t'.k=t.k∧t'.ans=t.ans∧m0Y n o t' c'
 | .inr a=>∃t',R2 w' b0 B r.1 (ts.set i t')∧t'.op=t.op∧t'.k=t.k+1∧t'.ans.map SA.an=t.ans.map SA.an++[a]∧t'.ans.length=t.ans.length+1∧t'.pc=0
section
variable{i:Nat}{t t1:T3}{n:Nat}{o:P3}{c:J8}
end
end
section
variable{w w':World}{b0:Nat}{B:R8B}{s:R1}{ts:List T3}
section
variable{i:Nat}{t t1:T3}{n:Nat}{o:P3}{c:J8}
end
end
section
variable{w w':World}{b0:Nat}{B:R8B}{s:R1}{ts:List T3}
structure R8S(w:World)(b0:Nat)(B:R8B)(k:Nat)(ops:Nat→List P3)(g:GS SPl)(ts:List T3):Prop where
 A:R2 w b0 B g.q ts
 T:∀(i:Nat) t,ts[i]? =some t→c0n (List.length (R1.ws g.q)) (ops i) t (g.th i)∧b0O w b0 t.op (ops i)
 n:ts.length=k
 L:∀(i:Nat),∀a∈GT.ans (g.th i),(a:g8).2.2.length≤17
theorem o0t{s s':R1}{o:P3}{a:g8}(h:s.begin o=(s',.inr a)):a.2.2.length≤17:=by
 unfold R1.begin at h
 repeat' split at h
 all_goals first|(cases h;done)|(cases h;exact Nat.zero_le _)
theorem g0P:∀(l:List P3) (q:R1) (t:GT SPl),(∀a∈t.ans,(a:g8).2.2.length≤17)→∀a∈(r6 SPl l q t).2.ans,(a:g8).2.2.length≤17
 | [],q,t,h=>h
 | o::l,q,t,h=>by
   obtain⟨q',r,e⟩:∃q' r,q.begin o=(q',r):=⟨_,_,rfl⟩
   cases r with
   | inl c=>rw[e0f e];exact h
   | inr a=>
     rw[e0g e]
     refine g0P l _ _ fun b hb=>?_
     rcases List.mem_append.1 hb with hb|hb
     ·exact h b hb
     ·rw[List.mem_singleton.1 hb]
      exact o0t e
theorem o0r{s s':R1}{c:J8}{a:g8}(h:s.again c=(s',.inr a)):a.2.2.length≤17:=by
 unfold R1.again at h
 split at h
 ·cases h
 ·cases h;exact Nat.zero_le _
theorem t06{s s':R1}{c:J8}{a:g8}(ho:c.out.length≤16)(h:s.step c=(s',.inr a)):a.2.2.length≤17:=by
 unfold R1.step R1.wstep R1.rstep at h
 repeat' split at h
 all_goals first|(cases h;done)|exact o0r h|(cases h;first|exact Nat.zero_le _|(simp;omega))
section
variable{i k:Nat}{t:T3}{ops:Nat→List P3}{g:GS SPl}{c:J8}{o:P3}
theorem R8S.heap(h:R8S w b0 B k ops g ts)(e:w'.heap=w.heap):R8S w' b0 B k ops g ts:=
 ⟨h.A.heap e,fun i t ht=>⟨(h.T i t ht).1,(h.T i t ht).2.stay ((D2.refl b0 w).heap e)⟩,h.n,h.L⟩
theorem c0n.pc{n:Nat}{l:List P3}{t:T3}{g:GT SPl}(h:c0n n l t g):t.pc≠0↔g.call.isSome=true:=by
 have h1:=h.call
 cases hc:g.call with
 | none=>rw[hc]at h1;simp[h1.1]
 | some c=>rw[hc]at h1;obtain⟨o,_,h2⟩:=h1;have:=h2.pcp;simp;omega
theorem R8S.pc(h:R8S w b0 B k ops g ts)(ht:ts[i]? =some t):t.pc≠0↔g.live i=true:=(h.T i t ht).1.pc
theorem R8S.left(h:R8S w b0 B k ops g ts):(∃t∈ts,t.pc≠0)↔0<L5 g.live k:=by
 rw[Nat.pos_iff_ne_zero,ne_eq,a0I]
 constructor
 ·rintro⟨t,ht,hp⟩ hz
  obtain⟨i,hi⟩:=c0z ht
  have h1:=(h.pc hi).1 hp
  rw[hz i (by have:=(List.getElem?_eq_some_iff.1 hi).1;have:=h.n;omega)]at h1
  cases h1
 ·intro hz
  apply Classical.byContradiction
  intro hn
  refine hz fun j hj=>?_
  obtain⟨t,ht⟩:∃t,ts[j]? =some t:=⟨_,List.getElem?_eq_getElem (by have:=h.n;omega)⟩
  cases hl:g.live j with
  | false=>rfl
  | true=>exact absurd ⟨t,List.mem_of_getElem? ht,(h.pc ht).2 hl⟩ hn
def z0R(w':World)(b0:Nat)(B:R8B)(ts:List T3)(i:Nat)(op:Value)(n:Nat)(ops:List P3)(r:R1×GT SPl):Prop:=∃t',R2 w' b0 B r.1 (ts.set i t')∧t'.op=op∧c0n n ops t' r.2
theorem R8S.turn(h:R8S w b0 B k ops g ts)(ht:ts[i]? =some t)(hS:D2 b0 w w')(hT:z0R w' b0 B ts i t.op (List.length (R1.ws g.q)) (ops i) (H8 SPl (ops i) g.q (g.th i))):∃ts',R8S w' b0 B k ops (g.put i (H8 SPl (ops i) g.q (g.th i))) ts':=by
 obtain⟨t',h1,h2,h3⟩:=hT
 have hl:List.length (R1.ws (H8 SPl (ops i) g.q (g.th i)).1)=List.length (R1.ws g.q):=by
  unfold H8
  split
  ·rfl
  ·next c hc=>
   obtain⟨s',r,e⟩:∃s' r,SPl.stp g.q c=(s',r):=⟨_,_,rfl⟩
   have hsl:List.length (R1.ws (SPl.stp g.q c).1)=List.length (R1.ws g.q):=c09 g.q c
   rw[e]at hsl ⊢
   cases r with
   | inl c'=>exact hsl
   | inr a=>exact(congrArg (fun q:R1=>q.ws.length) (e0h _ s' _)).trans hsl
 refine⟨ts.set i t',h1,fun j u hj=>?_,by rw[List.length_set];exact h.n,fun j=>?_⟩
 rotate_left
 ·by_cases e:j=i
  ·subst e
   simp only[GS.put,if_true]
   obtain⟨hT,_⟩:=h.T j t ht
   unfold H8
   split
   ·exact h.L j
   ·next c hc=>
    obtain⟨s',r,e⟩:∃s' r,SPl.stp g.q c=(s',r):=⟨_,_,rfl⟩
    have h2:=hT.call
    rw[hc]at h2
    obtain⟨o,_,hr⟩:=h2
    have hol:=hr.ol
    have h16:=h.A.wf.n2
    rw[e]
    cases r with
    | inl c'=>exact h.L j
    | inr a=>
      simp only
      refine g0P _ _ _ fun b hb=>?_
      rcases List.mem_append.1 hb with hb|hb
      ·exact h.L j b hb
      ·rw[List.mem_singleton.1 hb]
       exact t06 (s:=g.q) (by omega) e
  ·simp only[GS.put,if_neg e]
   exact h.L j
 show c0n (List.length (R1.ws (H8 SPl (ops i) g.q (g.th i)).1)) _ _ _∧_
 rw[hl]
 rcases g9 hj with⟨rfl,rfl⟩|⟨hne,hj⟩
 ·refine⟨?_,by rw[h2];exact(h.T j t ht).2.stay hS⟩
  simp only[GS.put,if_true]
  exact h3
 ·obtain⟨k1,k2⟩:=h.T j u hj
  refine⟨?_,k2.stay hS⟩
  simp only[GS.put,if_neg hne]
  exact k1
end
end
section
variable{F:Fz}{w:World}
end
section
variable{w w' u u' W:World}{b0:Nat}{B:R8B}{s:R1}{ts:List T3}
theorem b0O.low{v:Value}{ops:List P3}(h:b0O w b0 v ops)(hs:∀r,r<b0→w'.heap[r]? =w.heap[r]?):b0O w' b0 v ops:=
 ⟨h.sl,fun k x hx=>by
  obtain⟨ob,oo,oc,h⟩:=h.c k x hx
  have e:∀j,w'.cell? ⟨ob,j,none⟩=w.cell? ⟨ob,j,none⟩:=fun j=>by simp only[World.cell?,hs ob h.l]
  exact⟨ob,oo,oc,h.sl,h.lt,h.l,(e _).trans h.f0,(e _).trans h.f1,(e _).trans h.f2,(e _).trans h.f3⟩⟩
structure u9(W:World)(b0 mb k:Nat)(ops:Nat→List P3)(g:GS SPl)(order:List Nat)(ov:Value)(u:World):Prop where
 ex:∃B ts,B.mb=mb∧R8S u b0 B k ops g ts
 st:D2 b0 W u
 ord:u.ownsRow 0 3 1 ov order.length (order.map fun i:Nat=>vI i)
 ob:∀r,ov.ownBlock=some r→W.heap.size≤r
 bw:b0≤W.heap.size
section
variable{i k n mb:Nat}{t:T3}{ops:Nat→List P3}{g:GS SPl}{c:J8}{o:P3}{order:List Nat}{ov:Value}
theorem u9.heap(h:u9 W b0 mb k ops g order ov u)(e:u'.heap=u.heap):u9 W b0 mb k ops g order ov u':=by
 obtain⟨⟨B,ts,h1,h2⟩,h3,h4,h5,h6⟩:=h
 exact⟨⟨B,ts,h1,h2.heap e⟩,h3.heap e,T5 h4 fun _ _ _ _=>by rw[e],h5,h6⟩
structure j0N(W:World)(b0 mb k:Nat)(ops:Nat→List P3)(g:GS SPl)(order:List Nat)(ov:Value)(i:Nat)(u:World):Prop where
 ex:∃v B ts t c o,B.mb=mb∧R8S v b0 B k ops g ts∧ts[i]? =some t∧(g.th i).call=some c∧(ops i)[(g.th i).k]? =some o∧e0c u b0 B ts i t (List.length (R1.ws g.q)) o (R1.step g.q c)∧D2 b0 v u
 st:D2 b0 W u
 ord:u.ownsRow 0 3 1 ov order.length (order.map fun i:Nat=>vI i)
 ob:∀r,ov.ownBlock=some r→W.heap.size≤r
 bw:b0≤W.heap.size
theorem j0N.heap(h:j0N W b0 mb k ops g order ov i u)(e:u'.heap=u.heap):j0N W b0 mb k ops g order ov i u':=by
 obtain⟨⟨v,B,ts,t,c,o,h1,h2,h3,h4,h5,h6,h7⟩,h8,h9,h10,h11⟩:=h
 refine⟨⟨v,B,ts,t,c,o,h1,h2,h3,h4,h5,?_,h7.heap e⟩,h8.heap e,T5 h9 fun _ _ _ _=>by rw[e],h10,h11⟩
 unfold e0c at h6 ⊢
 split at h6
 ·obtain⟨t',k1,k2⟩:=h6;exact⟨t',k1.heap e,k2⟩
 ·obtain⟨t',k1,k2⟩:=h6;exact⟨t',k1.heap e,k2⟩
def t8n(op:Value)(i:Nat):T3:=⟨op,i,0,0,0,0,.slice none 0 0,none,.slice none 0 0,[]⟩
theorem m0Q(op:Value)(i r:Nat):¬R8R (t8n op i) r:=by
 rintro(h|⟨h,_⟩|⟨a,ha,_⟩)
 ·simp[t8n,Value.ownBlock]at h
 ·exact h rfl
 ·simp[t8n]at ha
theorem R2.born{u3:World}{op v':Value}(h:R2 u b0 B s ts)(hown:u3.ownsRow 0 149 8 v' (ts.length+1) (r8C ts++(t8n op i).cells))(hold:∀r,r<u.heap.size→some r≠B.tv.ownBlock→u3.heap[r]? =u.heap[r]?)(hsz:u.heap.size≤u3.heap.size)
 (hfr:v'.ownBlock=B.tv.ownBlock∨∃g,v'.ownBlock=some g∧u.heap.size≤g) (hb:b0≤u.heap.size) (hu:u'.heap=(u3.setCell ⟨B.mb,2,none⟩ v').heap):R2 u' b0 {B with tv:=v'} s (ts++[t8n op i]):=by
 have hmb:=h.low_m
 have hmt:some B.mb≠B.tv.ownBlock:=fun e=>by obtain⟨c,hc⟩:=X1 h.row e.symm;rw[h.o]at hc;cases hc
 have e3:u3.heap[B.mb]? =some (.cells #[vI s.ver,vL B.wb 0 s.ws.length B.wc,B.tv] 147 (0,0)):=(hold _ hmb hmt).trans h.o
 have hou:∀r,r≠B.mb→u'.heap[r]? =u3.heap[r]?:=fun r hr=>by rw[hu];exact I0 _ _ _ hr
 have hold2:∀r,r<u.heap.size→r≠B.mb→some r≠B.tv.ownBlock→u'.heap[r]? =u.heap[r]?:=fun r h1 h2 h3=>(hou r h2).trans (hold r h1 h3)
 have hvm:v'.ownBlock≠some B.mb:=by
  rcases hfr with e|⟨g,e,hg⟩
  ·rw[e];exact fun h=>hmt h.symm
  ·rw[e];intro h;cases h;omega
 refine⟨h.wf,?_,K0 h.wds fun b hb _=>?_,?_,fun t ht=>?_,fun a b x y ha hb hne r hr1 hr2=>?_,fun t ht hr=>?_,h.b1,h.b2,fun r hr=>?_,fun t ht r hr=>?_⟩
 ·have h2:(u3.setCell ⟨B.mb,2,none⟩ v').heap[B.mb]? =some (.cells ((#[vI s.ver,vL B.wb 0 s.ws.length B.wc,B.tv]:Array Value).setIfInBounds 2 v') 147 (0,0)):=v5 e3
  rw[hu]
  exact h2
 ·obtain⟨c,hc⟩:=X1 h.wds hb
  exact hold2 b (Q3 hc) (i4 hc h.o (by decide)) fun e=>by obtain⟨d,hd⟩:=X1 h.row e.symm;rw[hc]at hd;cases hd
 ·have hl:(ts++[t8n op i]).length=ts.length+1:=by simp
  have hc:r8C (ts++[t8n op i])=r8C ts++(t8n op i).cells:=by simp[r8C]
  rw[hl,hc]
  exact K0 hown fun b hb _=>hou b fun e=>hvm (e ▸ hb)
 ·rcases List.mem_append.1 ht with ht|ht
  ·exact(h.thr t ht).same fun r hr=>hold2 r ((h.thr t ht).low hr) ((h.thr t ht).ne hr h.o (by decide) (by decide)) fun e=>by
    obtain⟨d,hd⟩:=X1 h.row e.symm
    exact(h.thr t ht).ne hr hd (by decide) (by decide) rfl
  ·obtain rfl:t=t8n op i:=by simpa using ht
   exact⟨⟨rfl,.inl ⟨rfl,rfl⟩⟩,fun a ha=>by simp[t8n]at ha,fun l hl=>by simp[t8n]at hl,fun hn=>absurd rfl hn⟩
 ·rcases Nat.lt_or_ge a ts.length with h1|h1
  ·rcases Nat.lt_or_ge b ts.length with h2|h2
   ·rw[List.getElem?_append_left h1]at ha
    rw[List.getElem?_append_left h2]at hb
    exact h.tt a b x y ha hb hne r hr1 hr2
   ·have hy:y∈[t8n op i]:=by rw[List.getElem?_append_right h2]at hb;exact List.mem_of_getElem? hb
    obtain rfl:y=t8n op i:=by simpa using hy
    exact m0Q _ _ _ hr2
  ·have hx:x∈[t8n op i]:=by rw[List.getElem?_append_right h1]at ha;exact List.mem_of_getElem? ha
   obtain rfl:x=t8n op i:=by simpa using hx
   exact m0Q _ _ _ hr1
 ·rcases List.mem_append.1 ht with ht|ht
  ·exact h.wn t ht hr
  ·obtain rfl:t=t8n op i:=by simpa using ht
   exact m0Q _ _ _ hr
 ·rcases hfr with e|⟨g,e,hg⟩
  ·exact h.b3 r (e ▸ hr)
  ·have hr:v'.ownBlock=some r:=hr
   rw[e]at hr;cases hr;omega
 ·rcases List.mem_append.1 ht with ht|ht
  ·exact h.b4 t ht r hr
  ·obtain rfl:t=t8n op i:=by simpa using ht
   exact absurd hr (m0Q _ _ _)
end
end
section
variable{w w':World}{x0 x1 x2 x3 x8 x9 x10 x11 x12 x13 x14 x15 x16 x17:Value}
theorem D07(a:Option Addr)(n m:Nat)(i:Int):Try.prog.built 149 [(0,.slice a n m),(2,vI i)]=some #[.slice a n m,.slice none 0 0,vI i,vI 0,vI 0,vI 0,vI 0,.slice none 0 0]:=by kernel_rfl
@[go_sem] theorem C0A(w:World)(a:Option Addr)(n m:Nat)(i:Int):(Instr.build 149 #[(0,.slice a n m),(2,vI i)]).run Try.prog w= .ok (.agg #[.slice a n m,.slice none 0 0,vI i,vI 0,vI 0,vI 0,vI 0,.slice none 0 0]) w:=run_build w _ _ _ (D07 a n m i)
theorem D08(a b:Option Addr)(n m k l:Nat)(s:Bool):Try.prog.built 31 [(1,.slice a n m),(3,.bool s),(2,.slice b k l)]=some #[.slice none 0 0,.slice a n m,.slice b k l,.bool s]:=by kernel_rfl
@[go_sem] theorem C0B(w:World)(a b:Option Addr)(n m k l:Nat)(s:Bool):(Instr.build 31 #[(1,.slice a n m),(3,.bool s),(2,.slice b k l)]).run Try.prog w= .ok (.agg #[.slice none 0 0,.slice a n m,.slice b k l,.bool s]) w:=run_build w _ _ _ (D08 a b n m k l s)
end
section
variable{w w':World}{x0 x1 x2 x3 x8 x9 x10 x11 x12 x13 x14 x15 x16 x17:Value}
structure TE8(V:World)(bt i:Nat)(rows:Nat→Value)(y1 y2 y3:Value)(xa:Option Addr)(xc:Nat)(u:World):Prop where
 row:u.ownsRow 0 42 1 (.slice xa i xc) i ((List.range i).map rows)
 own:∀r,(Value.slice xa i xc).ownBlock=some r→V.heap.size≤r
 blk:u.heap[bt]? =some (.cells #[.slice xa i xc,y1,y2,y3] 31 (0,0))
 old:∀r,r<V.heap.size→r≠bt→u.heap[r]? =V.heap[r]?
 lt:bt<V.heap.size
 size:V.heap.size≤u.heap.size
theorem TE8.heap{V u u':World}{bt i:Nat}{rows:Nat→Value}{y1 y2 y3:Value}{xa:Option Addr}{xc:Nat}(h:TE8 V bt i rows y1 y2 y3 xa xc u)(e:u'.heap=u.heap):TE8 V bt i rows y1 y2 y3 xa xc u':=
 ⟨T5 h.row fun _ _ _ _=>by rw[e],h.own,by rw[e];exact h.blk,fun r h1 h2=>by rw[e];exact h.old r h1 h2,h.lt,by rw[e];exact h.size⟩
theorem TE8.more{V u w1 u':World}{bt i:Nat}{rows:Nat→Value}{y1 y2 y3 v':Value}{xa:Option Addr}{xc:Nat}(h:TE8 V bt i rows y1 y2 y3 xa xc u)(hown:w1.ownsRow 0 42 1 v' (i+1) ((List.range i).map rows++[rows i]))(hold:∀r,r<u.heap.size→some r≠(Value.slice xa i xc).ownBlock→w1.heap[r]? =u.heap[r]?)(hsz:u.heap.size≤w1.heap.size)
 (hfr:v'.ownBlock=(Value.slice xa i xc).ownBlock∨∃g,v'.ownBlock=some g∧u.heap.size≤g) (hu:u'.heap=(w1.setCell ⟨bt,0,none⟩ v').heap):∃xa' xc',v'= .slice xa' (i+1) xc'∧TE8 V bt (i+1) rows y1 y2 y3 xa' xc' u':=by
 obtain⟨g,cap,rfl⟩:=j5 hown
 have hb:some bt≠(Value.slice xa i xc).ownBlock:=fun e=>by obtain⟨c,hc⟩:=X1 h.row e.symm;rw[h.blk]at hc;cases hc
 have e1:=(hold bt (by have:=h.lt;have:=h.size;omega) hb).trans h.blk
 have hg:V.heap.size≤g:=by
  rcases hfr with e|⟨q,e,hq⟩
  ·exact h.own g (by rw[← e];rfl)
  ·simp only[Value.ownBlock,Option.some.injEq]at e
   have:=h.size
   omega
 have hl:=h.lt
 refine⟨_,_,rfl,?_,fun r hr=>?_,?_,fun r h1 h2=>?_,h.lt,?_⟩
 ·rw[List.range_succ,List.map_append]
  exact K0 hown fun b hb _=>by
   simp only[Value.ownBlock,Option.some.injEq]at hb
   rw[hu]
   exact I0 _ _ _ (show b≠bt by omega)
 ·simp only[Value.ownBlock,Option.some.injEq]at hr
  omega
 ·rw[hu]
  exact v5 e1
 ·rw[hu,I0 _ _ _ (by exact h2)]
  exact(hold r (by have:=h.size;omega) fun e=>by have:=h.own r e.symm;omega).trans (h.old r h1 h2)
 ·rw[hu,World.size_setCell]
  exact Nat.le_trans h.size hsz
end
section
section
variable{Wp w W u u0:World}{N:Nat→Prop}{n tb o tl tc sc M mb t8 b0:Nat}{ta sa:Option Addr}{oa:Nat→Option Addr}{ol oc:Nat→Nat}{ops:Nat→List P3}{S:List Int}{g0:GS SPl}
theorem u9.low{k:Nat}{g:GS SPl}{order:List Nat}{ov:Value}(h:u9 W b0 mb k ops g order ov u)(hb:b0=Wp.heap.size)(hW:∀r,r<b0→W.heap[r]? =Wp.heap[r]?):∀r,r<b0→u.heap[r]? =Wp.heap[r]?:=fun r hr=>(h.st.o r hr).trans (hW r hr)
theorem u9.cells{k:Nat}{g:GS SPl}{order:List Nat}{ov:Value}(h:u9 W b0 mb k ops g order ov u){i:Nat}(hi:i<k):∃tb tc p,u.cell? ⟨mb,2,none⟩=some (vL tb 0 k tc)∧u.cell? ⟨tb,i*8+4,none⟩=some (vI (p:Nat))∧(p≠0↔g.live i=true):=by
 obtain⟨⟨B,ts,rfl,hS⟩,_⟩:=h
 obtain⟨t,ht⟩:∃t,ts[i]? =some t:=⟨_,List.getElem?_eq_getElem (by rw[hS.n];exact hi)⟩
 obtain⟨tb,tc,htv,m0,m1,m2,zm,t0,t1,t3,t4,t5,t6,t7,zt,mt,wt,htb⟩:=hS.A.fx ht
 rw[hS.n]at m2
 exact⟨tb,tc,t.pc,m2,t4,hS.pc ht⟩
section
variable{gs:GS SPl}{order:List Nat}
theorem f09{m:Pl}{ops:Nat→List P3}{n M:Nat}{s:GS m×List Nat}(h:s.2.length≤M)(i:Int):(V7 ops n M s i).2.length≤M:=by
 unfold V7
 split
 ·rename_i hc
  have:=hc.2.2.2
  simp only[List.length_append,List.length_cons,List.length_nil]
  omega
 ·exact h
end
end
end
section
def p5(Wp:World)(ops:Nat→List P3)(n M:Nat)(S:List Int)(s0:GS SPl)(v:Value)(w':World):Prop:=
 ∃(s:GS SPl) (order:List Nat) (xa oa' sa':Option Addr) (xc oc' sc':Nat) (Y:Nat→List SA) (va:Nat→Option Addr) (vc:Nat→Nat),
  v= .agg #[.slice xa n xc,.slice oa' order.length oc',.slice sa' (R1.state s.q).length sc',.bool (decide (0<L5 s.live n))]∧g7 n M (s,order)∧(∃k,∀f,k≤f→a0K ops n M S f s0=(s,order))∧
  w'.ownsRow 0 3 1 (.slice oa' order.length oc') order.length (order.map fun i:Nat=>vI i)∧w'.ownsRow 0 2 1 (.slice sa' (R1.state s.q).length sc') (R1.state s.q).length ((R1.state s.q).map fun v=>vI v)∧
  w'.ownsRow 0 42 1 (.slice xa n xc) n ((List.range n).map fun i=>.slice (va i) (Y i).length (vc i))∧(∀i,i<n→w'.ownsRow 0 44 3 (.slice (va i) (Y i).length (vc i)) (Y i).length (i5 (Y i))∧(Y i).map SA.an=(s.th i).ans∧∀a∈Y i,SAU a w')∧(∀r,r<Wp.heap.size→w'.heap[r]? =Wp.heap[r]?)∧Wp.heap.size≤w'.heap.size∧(R1.state s.q).length≤17∧∀(i:Nat),∀a∈GT.ans (s.th i),(a:g8).2.2.length≤17
theorem p5.kept{Wp u u':World}{ops:Nat→List P3}{n M t:Nat}{S:List Int}{s0:GS SPl}{v:Value}(h:p5 Wp ops n M S s0 v u)(ht:∃c,u.heap[t]? =some (.cells c 31 (0,0)))(hk:∀r,r≠t→u'.heap[r]? =u.heap[r]?)(hs:u.heap.size≤u'.heap.size){Wq:World}(hq:∀r,r<Wq.heap.size→r≠t∧r<Wp.heap.size∧Wp.heap[r]? =Wq.heap[r]?)(hqs:Wq.heap.size≤Wp.heap.size):p5 Wq ops n M S s0 v u':=by
 obtain⟨s,order,xa,oa',sa',xc,oc',sc',Y,va,vc,h1,h2,h3,h4,h5,h6,h7,h8,h9,h10⟩:=h
 obtain⟨c,hc⟩:=ht
 have key:∀{e:TypeId} {n size:Nat} {v:Value} {xs:List Value},e≠31→u.ownsRow 0 e size v n xs→u'.ownsRow 0 e size v n xs:=fun{e n size v xs} he h=>T5 h fun b d hb _=>hk b fun hbt=>by
  subst hbt
  rw[hc]at hb
  cases hb
  exact he rfl
 exact⟨s,order,xa,oa',sa',xc,oc',sc',Y,va,vc,h1,h2,h3,key (by decide) h4,key (by decide) h5,key (by decide) h6,fun i hi=>⟨key (by decide) (h7 i hi).1,(h7 i hi).2.1,fun a ha=>key (by decide) ((h7 i hi).2.2 a ha)⟩,fun r hr=>by
  obtain⟨q1,q2,q3⟩:=hq r hr
  exact(hk r q1).trans ((h8 r q2).trans q3),Nat.le_trans hqs (Nat.le_trans h9 hs),h10⟩
section
variable{Wp w W u u0:World}{N:Nat→Prop}{n tb o tl tc sc M mb t8 b0:Nat}{ta sa:Option Addr}{oa:Nat→Option Addr}{ol oc:Nat→Nat}{ops:Nat→List P3}{S:List Int}{g0:GS SPl}
end
end
section
section
variable{w w':World}
theorem y6.kept8{N:Nat→Prop}{n tb o tl:Nat}{ta:Option Addr}{oa:Nat→Option Addr}{ol oc:Nat→Nat}{ops:Nat→List P3}{S:List Int}{sa:Option Addr}(h:y6 w N n tb o tl ta oa ol oc ops S sa)(hs:w.heap.size≤w'.heap.size)
 (hold:∀(r:Nat) (c:Array Value) (e:TypeId) (z:Nat×Nat),w.heap[r]? =some (.cells c e z)→w'.heap[r]? =some (.cells c e z)):y6 w' N n tb o tl ta oa ol oc ops S sa:=by
 have hc:∀{a:Addr} {v:Value},w.cell? a=some v→w'.cell? a=some v∧w'.frozen? a=w.frozen? a:=fun{a v} h=>by
  obtain⟨c,e,z,ho⟩:=M3 h
  have e1:w'.heap[a.block]? =w.heap[a.block]?:=(hold _ _ _ _ ho).trans ho.symm
  exact⟨by rw[← h];unfold World.cell?;simp only[e1],by unfold World.frozen?;simp only[e1]⟩
 refine⟨h.hn,h.hta,fun hp=>by have:=h.htb hp;omega,fun j hj=>?_,h.hlen,fun j hj k x hx=>?_,h.hsl,fun hp=>?_⟩
 ·obtain⟨h1,h2,h3⟩:=h.hth j hj
  exact⟨(hc h1).1,(hc h1).2.trans h2,h3⟩
 ·obtain⟨opb,oo,h1,h2,f0,f1,f2,f3,g0,g1,g2,g3⟩:=h.hop j hj k x hx
  exact⟨opb,oo,h1,h2,(hc f0).1,(hc f1).1,(hc f2).1,(hc f3).1,(hc f0).2.trans g0,(hc f1).2.trans g1,(hc f2).2.trans g2,(hc f3).2.trans g3⟩
 ·obtain⟨sb,so,c,e,z,h1,h2,h3,h4⟩:=h.hS hp
  exact⟨sb,so,c,e,z,h1,h2,hold _ _ _ _ h3,h4⟩
end
section
variable{m:Pl}{ops:Nat→List P3}{n M:Nat}
theorem M6:∀(l:List Int) (s:GS m×List Nat),s.2.length≤M→(U4 ops n M l s).2.length≤M
 | [],_,h=>h
 | i::l,_,h=>M6 l _ (f09 h i)
theorem d9:∀(f:Nat) (s:GS m×List Nat),s.2.length≤M→(Z3 ops n M f s).2.length≤M
 | 0,_,h=>h
 | f+1,s,h=>by
   unfold Z3
   split
   ·exact h
   ·exact d9 f _ (M6 _ _ h)
theorem b0j{S:List Int}{f:Nat}{s:GS m}:(a0K ops n M S f s).2.length≤M:=d9 _ _ (M6 _ _ (Nat.zero_le _))
end
section
variable{Wp w:World}{N:Nat→Prop}{n tb o tl tc sc M b0:Nat}{ta sa:Option Addr}{oa:Nat→Option Addr}{ol oc:Nat→Nat}{ops:Nat→List P3}{S:List Int}{g0:GS SPl}{B:R8B}{mo:Int}
end
section
variable{w:World}{n tb o tl tc sc M vc:Nat}{ta sa va:Option Addr}{oa:Nat→Option Addr}{ol oc:Nat→Nat}{ops:Nat→List P3}{S vs:List Int}{mo:Int}
end
end
section
open Go.ChangeShapes Go.WideShapes Go.ChangeAt
theorem o0C{H:Type}(d:DataW H):1≤Rows.uptoBulk d:=by
 cases d with
 | lit l=>cases l<;>simp[Rows.uptoBulk]
 | nil=>simp[Rows.uptoBulk]
 | ptr d=>simp[Rows.uptoBulk]
 | slice elems spare=>simp[Rows.uptoBulk]
 | agg parts=>simp[Rows.uptoBulk]
 | iface t d=>simp[Rows.uptoBulk]
 | map entries=>simp[Rows.uptoBulk]
 | held h=>simp[Rows.uptoBulk]
theorem f0Y{H:Type}{d:DataW H}{l:List (DataW H)}(h:d∈l):Rows.uptoBulk d≤Rows.uptoBulkAll l:=by
 induction l with
 | nil=>cases h
 | cons x r ih=>
   simp only[Rows.uptoBulkAll]
   cases List.mem_cons.1 h with
   | inl e=>subst e;omega
   | inr e=>have:=ih e;omega
theorem i0t{H:Type}(l:List (DataW H)):l.length≤Rows.uptoBulkAll l:=by
 induction l with
 | nil=>simp[Rows.uptoBulkAll]
 | cons x r ih=>have:=o0C x;simp only[Rows.uptoBulkAll,List.length_cons];omega
theorem e0l{H:Type}(elems spare:List (DataW H)):elems.length≤Rows.uptoBulk (.slice elems spare)∧∀d∈elems,Rows.uptoBulk d≤Rows.uptoBulk (.slice elems spare):=by
 have h1:=i0t elems
 simp only[Rows.uptoBulk]
 exact⟨by omega,fun d hd=>by have:=f0Y hd;omega⟩
section
variable{H:Type}{enc:TypeId×Value→H}{W:World}
theorem c0K{a:Addr}{v:Value}(h:W.cell? a=some v):∃c e z,W.heap[a.block]? =some (.cells c e z)∧c[a.off]? =some v:=by
 unfold World.cell? at h
 split at h
 ·rename_i c e z ho
  split at h
  ·cases h
  ·exact⟨c,e,z,ho,h⟩
 ·cases h
theorem j0g{b o:Nat}{c:Array Value}{e:TypeId}{z:Nat×Nat}(h:W.heap[b]? =some (.cells c e z))(hf:W.frozen? ⟨b,o,none⟩=false):(decide (z.1≤o) && decide (o<z.2))=false:=by
 simpa [World.frozen?,h]using hf
theorem r07:Try.prog.cellsOf 47=4:=by kernel_rfl
theorem m0t:Try.prog.cellsOf 34=1:=by kernel_rfl
theorem o0G:Try.prog.cellsOf 2=1:=by kernel_rfl
theorem w0V:Try.prog.cellsOf 3=1:=by kernel_rfl
structure o0o(W:World)(b o:Nat)(x:P3):Prop where
 f0:W.cell? ⟨b,o,none⟩=some (vI x.kd)
 f1:W.cell? ⟨b,o+1,none⟩=some (vI x.a)
 f2:W.cell? ⟨b,o+2,none⟩=some (vI x.b)
 f3:W.cell? ⟨b,o+3,none⟩=some (vI x.c)
 g0:W.frozen? ⟨b,o,none⟩=false
 g1:W.frozen? ⟨b,o+1,none⟩=false
 g2:W.frozen? ⟨b,o+2,none⟩=false
 g3:W.frozen? ⟨b,o+3,none⟩=false
instance:Inhabited P3:=⟨⟨0,0,0,0⟩⟩
theorem x0F{v:Value}{fuel:Nat}{d:DataW H}{p:List MemPlace}(h:DataW.trod enc Try.prog W 0 (fun _=>true) true fuel 34 [v]=some (d,p))(hz:W.noneFrozen p):
 ∃(a:Option Addr) (l c b o:Nat) (X:Nat→P3),v= .slice a l c∧l≤c∧l≤Rows.uptoBulk d∧∀k,k<l→a=some ⟨b,o,none⟩∧o0o W b (o+k*4) (X k):=by
 rcases Deep.open_slice Try.underlying34 h with⟨h1,h2⟩|⟨a,len,cap,m,n,D,Pl,h1,hb,hlc,_,hm,h2,hx⟩
 ·cases h1
  exact⟨none,0,0,0,0,fun _=>default,rfl,Nat.le_refl _,Nat.zero_le _,fun k hk=>by omega⟩
 ·simp only[if_true]at hm
  subst hm
  cases h1
  simp only[Prod.mk.injEq]at h2
  obtain⟨rfl,rfl⟩:=h2
  rw[r07]at hx hz
  have hsp:0<len→a.spot=none:=fun hp=>by
   obtain⟨cs',e1,_⟩:=hx 0 (by omega)
   obtain⟨_,_,hcell⟩:=World.cells?_some e1
   have h0:=hcell 0 (by omega)
   rw[List.getElem?_eq_getElem (by omega)]at h0
   have:=World.cell?_spot h0
   simpa [Addr.add]using this
  have each:∀k,k<len→∃x:P3,∃b o,a=⟨b,o,none⟩∧o0o W b (o+k*4) x:=fun k hk=>by
   obtain⟨cs',e1,e2⟩:=hx k (by omega)
   obtain⟨_,hlen,hcell⟩:=World.cells?_some e1
   obtain⟨xs,n',hk',hxy,_,hxl,hf⟩:=DataW.trod_struct Try.underlying47 e2
   match xs,hxl,cs',hlen with
   | [y0,y1,y2,y3],_,[v0,v1,v2,v3],_=>
     have q0:=hf 0 _ rfl
     have q1:=hf 1 _ rfl
     have q2:=hf 2 _ rfl
     have q3:=hf 3 _ rfl
     simp[o0G,w0V]at q0 q1 q2 q3
     obtain⟨n0,r0,_,_⟩:=DataW.trod_int Try.underlying3 q0
     obtain⟨n1,r1,_,_⟩:=DataW.trod_int Try.underlying2 q1
     obtain⟨n2,r2,_,_⟩:=DataW.trod_int Try.underlying2 q2
     obtain⟨n3,r3,_,_⟩:=DataW.trod_int Try.underlying2 q3
     cases r0
     cases r1
     cases r2
     cases r3
     obtain⟨b,o,spot⟩:=a
     have c0:=hcell 0 (by omega)
     have c1:=hcell 1 (by omega)
     have c2:=hcell 2 (by omega)
     have c3:=hcell 3 (by omega)
     have hs:spot=none:=hsp (by omega)
     subst hs
     rw[add_plain,add_plain]at c0 c1 c2 c3
     have hfr:∀j,j<m*4→W.frozen? ⟨b,o+j,none⟩=false:=fun j hj=>hz b (o+j) (List.mem_append_left _ (by simp only[MemPlace.row,List.mem_map,List.mem_range];exact⟨j,hj,rfl⟩))
     exact⟨⟨n0,n1,n2,n3⟩,b,o,rfl,c0,c1,c2,c3,hfr _ (by omega),by rw[Nat.add_assoc];exact hfr _ (by omega),by rw[Nat.add_assoc];exact hfr _ (by omega),by rw[Nat.add_assoc];exact hfr _ (by omega)⟩
  obtain⟨X,hX⟩:=Deep.choose_lt each
  refine⟨some a,len,m,a.block,a.off,X,rfl,hlc,?_,fun k hk=>?_⟩
  ·have:=(e0l (H:=H) ((List.range len).map D) ((List.range (m - len)).map fun j=>D (len+j))).1
   simpa using this
  ·obtain⟨b,o,rfl,hh⟩:=hX k hk
   exact⟨rfl,hh⟩
end
end
section
theorem o0v{An:G3}{P:Program}{Post:Value→World→Prop}{fr:Frame}{W:World}(hA:An.Holds W)
 (hB:Q4 An P (fun g w=>g.status= .running∧∀d,∃v,stepG P true g (w.at d)= .ended (.done v) (w.at d) #[]∧(An.Holds (w.at d)→Post v (w.at d))) (G fr []) W):
 ∃M last o w' t',runNT P (M+1) (solo (G fr []) W) #[]=(.ended o w',t')∧runN P M (solo (G fr []) W)= .next last∧step P last= .ended o w'∧Go.Conc.Good P Post last o w' t':=by
 rw[solo_eq_crowd]
 obtain⟨N,gs',g',w',sl',T',q',B',hr,h0',⟨hrun,hS⟩,hL',hP',hA'⟩:=hB #[G fr []] none #[] (fun _=>0) 0 rfl (leavers_one _ _) past_nil hA
 obtain⟨K,last,o,w2,t',e1,e2,e3,e4⟩:=beside_ends (P:=P) (Post:=Post) (D:=fun _ _ es=>∀e∈es,EvL a0G B' e) (sl:=sl') (n:=0) (fun _ _ _ h=>h) h0' hL' hP' (Goes.stop fun w₂ r₂=>by
  obtain⟨d,rfl⟩:=r₂
  obtain⟨v,h1,h2⟩:=hS d
  exact⟨hrun,v,#[],h1,by simp,h2 (hA'.at d)⟩)
 refine⟨N+K,last,o,w2,t',?_,?_,e3,e4⟩
 ·rw[Nat.add_assoc,runNT_add,hr];exact e1
 ·rw[runN_add,← runNT_fst P _ _ #[],hr];exact e2
theorem o0u{W w':World}(h:(⟨W.heap.size,W⟩:G3).Holds w')(hc:∀(r:Nat) (c:Array Value) (e:TypeId) (z:Nat×Nat),W.heap[r]? =some (.cells c e z)→w'.heap[r]? =some (.cells c e z)):Below W.heap.size W w':=by
 refine⟨h.os,h.tape,h.output,h.low,fun r hr=>?_⟩
 obtain⟨o,ho⟩:∃o,W.heap[r]? =some o:=⟨_,Array.getElem?_eq_getElem hr⟩
 by_cases e:∃c e z,o= .cells c e z
 ·obtain⟨c,e,z,rfl⟩:=e
  rw[hc r c e z ho,ho]
 ·rw[h.obj r o hr ho fun c e1 z e2=>e ⟨c,e1,z,e2⟩,ho]
theorem j02{f k:Nat}{fn:Func}{A:Array Value}(h2:¬2=f)(hf:Try.prog.funcs[f]? =some fn)(hr:fn.results= #[.tmp k]){v:Value}(hA:A.getD k undef=v)(w:World):
 stepG Try.prog true (G {(base f).at ⟨A,[]⟩ [.code .ret]with mode:=.returning} []) w= .ended (.done v) w #[]:=by
 subst hA
 simp[G,stepG,unwind,doReturn,results,Frame.at,base,hf,hr,seen,GStep.after,h2]
section
variable{An:G3}{W:World}
def g0M(W:World)(v:Value)(w':World):Prop:=v= .bool true∧∀(r:Nat) (c:Array Value) (e:TypeId) (z:Nat×Nat),W.heap[r]? =some (.cells c e z)→w'.heap[r]? =some (.cells c e z)
def l0b(An:G3)(Post:Value→World→Prop)(g:Goroutine)(w:World):Prop:=g.status= .running∧∀d,∃v,stepG Try.prog true g (w.at d)= .ended (.done v) (w.at d) #[]∧(An.Holds (w.at d)→Post v (w.at d))
theorem k0a{f k:Nat}{fn:Func}{A:Array Value}(hf:Try.prog.funcs[f]? =some fn)(hr:fn.results= #[.tmp k])(h2:¬2=f)(hA:A.getD k undef= .bool true){w:World}(h:∀(r:Nat) (c:Array Value) (e:TypeId) (z:Nat×Nat),W.heap[r]? =some (.cells c e z)→w.heap[r]? =some (.cells c e z)):
 l0b An (g0M W) (G {(base f).at ⟨A,[]⟩ [.code .ret]with mode:=.returning} []) w:=
 ⟨rfl,fun d=>⟨_,j02 h2 hf hr hA _,fun _=>⟨rfl,h⟩⟩⟩
end
theorem Try.own:ownKnob Try.prog.godebug=none:=by kernel_rfl
theorem Try.laidOut:laidOutB Try.prog=true:=by kernel_rfl
end
section
open Go.ChangeShapes Go.WideShapes Go.ChangeAt
variable{An:G3}{w w' W w1:World}
structure Bx(b:Nat)(v0 v1 v2 v3:Value)(u:World):Prop where
 h:u.heap[b]? =some (.cells #[v0,v1,v2,v3] 26 (0,0))
 c0:u.cell? ⟨b,0,none⟩=some v0
 c1:u.cell? ⟨b,1,none⟩=some v1
 c2:u.cell? ⟨b,2,none⟩=some v2
 c3:u.cell? ⟨b,3,none⟩=some v3
 z0:u.frozen? ⟨b,0,none⟩=false
 z1:u.frozen? ⟨b,1,none⟩=false
 z2:u.frozen? ⟨b,2,none⟩=false
 z3:u.frozen? ⟨b,3,none⟩=false
theorem Bx.of{b:Nat}{v0 v1 v2 v3:Value}{u:World}(h:u.heap[b]? =some (.cells #[v0,v1,v2,v3] 26 (0,0))):Bx b v0 v1 v2 v3 u:=by
 refine⟨h,?_,?_,?_,?_,?_,?_,?_,?_⟩<;>first|(simp[World.cell?,h];done)|(simp[World.frozen?,h];done)
theorem Bx.at{b:Nat}{v0 v1 v2 v3:Value}{u:World}(h:Bx b v0 v1 v2 v3 u)(d:Nat):Bx b v0 v1 v2 v3 (u.at d):=.of h.h
theorem callable14:O1 14:=G2 Try.func14 rfl rfl
def S8l:List Nat:=[14,16,21,22,29,50,51,83,84,85,86,104,105,106,107,112]
theorem r08:Z5 Try.prog (fun f=>S8l.contains f) true:=a0b (x:=[]) (fun f h=>by cases h) (by kernel_rfl)
section
variable{va ta sa:Option Addr}{vc tl tc sc n tb o M:Nat}{vs:List Int}{mo:Int}{oa:Nat→Option Addr}{ol oc:Nat→Nat}{ops:Nat→List P3}{S:List Int}
theorem o5.kept8(h:o5 w va vs)(hold:∀(r:Nat) (c:Array Value) (e:TypeId) (z:Nat×Nat),w.heap[r]? =some (.cells c e z)→w'.heap[r]? =some (.cells c e z)):o5 w' va vs:=fun i x hx=>by
 obtain⟨b,o,e,h1⟩:=h i x hx
 refine⟨b,o,e,?_⟩
 obtain⟨c,e2,z,ho⟩:=M3 h1
 have:=hold _ _ _ _ ho
 rw[← h1];unfold World.cell?;simp only[this,ho]
theorem s0x(h:o5 w va vs):B5 w va (vs.map fun v=>vI v):=⟨fun k x hx=>by
 rw[List.getElem?_map,Option.map_eq_some_iff]at hx
 obtain⟨y,hy,rfl⟩:=hx
 exact h k y hy⟩
theorem p5.same{Wp u u':World}{v:Value}{s0:GS SPl}(h:p5 Wp ops n M S s0 v u)(e:u'.heap=u.heap):p5 Wp ops n M S s0 v u':=by
 obtain⟨s,order,xa,oa',sa',xc,oc',sc',Y,va,vc,h1,h2,h3,h4,h5,h6,h7,h8,h9,h10⟩:=h
 have key:∀{e:TypeId} {n size:Nat} {v:Value} {xs:List Value},u.ownsRow 0 e size v n xs→u'.ownsRow 0 e size v n xs:=fun h=>T5 h fun _ _ _ _=>by rw[e]
 exact⟨s,order,xa,oa',sa',xc,oc',sc',Y,va,vc,h1,h2,h3,key h4,key h5,key h6,fun i hi=>⟨key (h7 i hi).1,(h7 i hi).2.1,fun a ha=>key ((h7 i hi).2.2 a ha)⟩,fun r hr=>by rw[e];exact h8 r hr,by rw[e];exact h9,h10⟩
theorem p5.old{Wp u:World}{v:Value}{s0:GS SPl}(h:p5 Wp ops n M S s0 v u):∀r,r<Wp.heap.size→u.heap[r]? =Wp.heap[r]?:=by
 obtain⟨_,_,_,_,_,_,_,_,_,_,_,_,_,_,_,_,_,_,h8,_,_⟩:=h
 exact h8
theorem p5.size{Wp u:World}{v:Value}{s0:GS SPl}(h:p5 Wp ops n M S s0 v u):Wp.heap.size≤u.heap.size:=by
 obtain⟨_,_,_,_,_,_,_,_,_,_,_,_,_,_,_,_,_,_,_,h9,_⟩:=h
 exact h9
end
end
end Go.Proofs.Ytlcgkpapnpdfpaa
